/- tree.may: may a node of a kind stand somewhere? -/
import Derived.Test.YtokhfhibdeneeaaGreatDoorCount
namespace Go.Proofs.YtokhfhibdeneeaaGreatDoor
open Go.RowKit

def mayB (k : Int) (s : ByteArray) (q : Int) : Bool :=
  if q = 0 then (decide (1 ≤ k) && decide (k ≤ 51)) else
  if q = 1 then (decide (2 ≤ k) && decide (k ≤ 7)) else
  if q = 2 then (k == 8 || k == 9 || k == 10) else
  if q = 3 then (k == 11 || k == 9) else
  if q = 4 then (k == 14) else
  if q = 5 then (k == 14) else
  if q = 6 then (k == 14 || k == 15) else
  if q = 7 then (k == 12) else
  if q = 8 then (k == 13) else
  if q = 9 then (k == 17) else
  if q = 10 then (decide (17 ≤ k) && (decide (k ≤ 34) && !(k == 27))) else
  if q = 11 then (k == 14 || (decide (35 ≤ k) && (decide (k ≤ 51) && !(k == 40)))) else
  if q = 12 then ((k == 14 || (decide (35 ≤ k) && (decide (k ≤ 51) && !(k == 40)))) || k == 16) else
  if q = 13 then (k == 14 || k == 45 || k == 46 || (k == 50 && s.toList == [42])) else
  if q = 14 then (k == 17 || k == 22 || k == 16) else
  if q = 15 then (k == 14 || k == 16) else
  if q = 16 then (k == 49 || k == 46) else
  if q = 17 then (k == 48) else
  if q = 18 then (k == 14 || (decide (35 ≤ k) && (decide (k ≤ 51) && !(k == 40)))) else
  if q = 19 then (k == 27) else
  if q = 20 then (k == 27) else
  if q = 21 then (k == 38 || k == 16) else
  if q = 22 then (k == 38 || k == 16) else
  if q = 23 then (k == 14 || k == 15) else
  if q = 24 then (k == 14 || k == 15) else
  if q = 25 then (k == 14 || k == 15) else
  if q = 26 then (k == 40) else
  if q = 27 then (k == 40) else
  if q = 28 then (k == 41) else
  if q = 29 then (k == 16) else
  false

set_option maxRecDepth 100000 in
set_option maxHeartbeats 400000 in
theorem may_at0 (k : Int) (s : ByteArray) (n a : Int) (A : Option Addr) (len cap : Nat) (w : World) :
    Calls Tryz.prog 66 #[.agg #[.int .i64 k, .string s, .int .i64 n, .int .i64 a, .slice A len cap], .int .i64 0] w fun e w' => e = .returned (.bool (mayB k s 0)) ∧ Below w.heap.size w w' := by
  have HF : Hid (mayB k s 0 = (decide (1 ≤ k) && decide (k ≤ 51))) := by simp [Hid, mayB]
  go_enter Tryz.func66, Tryz.ntmps66
  go_wp2
  all_goals
    go_ret
    exact ⟨ret_bool (by rw [HF.out]; try (first | (simp [*]; done) | (simp [*]; intros; omega) | (simp; omega) | omega | (rw [Bool.eq_iff_iff]; simp; omega) | (rw [Bool.eq_iff_iff]; simp [*]; done) | (rw [Bool.eq_iff_iff]; simp [*]; omega) | (simp_all; done))), (Below.refl _ _).alloc (Nat.le_refl _) _⟩

set_option maxRecDepth 100000 in
set_option maxHeartbeats 400000 in
theorem may_at1 (k : Int) (s : ByteArray) (n a : Int) (A : Option Addr) (len cap : Nat) (w : World) :
    Calls Tryz.prog 66 #[.agg #[.int .i64 k, .string s, .int .i64 n, .int .i64 a, .slice A len cap], .int .i64 1] w fun e w' => e = .returned (.bool (mayB k s 1)) ∧ Below w.heap.size w w' := by
  have HF : Hid (mayB k s 1 = (decide (2 ≤ k) && decide (k ≤ 7))) := by simp [Hid, mayB]
  go_enter Tryz.func66, Tryz.ntmps66
  go_wp2
  all_goals
    go_ret
    exact ⟨ret_bool (by rw [HF.out]; try (first | (simp [*]; done) | (simp [*]; intros; omega) | (simp; omega) | omega | (rw [Bool.eq_iff_iff]; simp; omega) | (rw [Bool.eq_iff_iff]; simp [*]; done) | (rw [Bool.eq_iff_iff]; simp [*]; omega) | (simp_all; done))), (Below.refl _ _).alloc (Nat.le_refl _) _⟩

set_option maxRecDepth 100000 in
set_option maxHeartbeats 400000 in
theorem may_at2 (k : Int) (s : ByteArray) (n a : Int) (A : Option Addr) (len cap : Nat) (w : World) :
    Calls Tryz.prog 66 #[.agg #[.int .i64 k, .string s, .int .i64 n, .int .i64 a, .slice A len cap], .int .i64 2] w fun e w' => e = .returned (.bool (mayB k s 2)) ∧ Below w.heap.size w w' := by
  have HF : Hid (mayB k s 2 = (k == 8 || k == 9 || k == 10)) := by simp [Hid, mayB]
  go_enter Tryz.func66, Tryz.ntmps66
  go_wp2
  all_goals
    go_ret
    exact ⟨ret_bool (by rw [HF.out]; try (first | (simp [*]; done) | (simp [*]; intros; omega) | (simp; omega) | omega | (rw [Bool.eq_iff_iff]; simp; omega) | (rw [Bool.eq_iff_iff]; simp [*]; done) | (rw [Bool.eq_iff_iff]; simp [*]; omega) | (simp_all; done))), (Below.refl _ _).alloc (Nat.le_refl _) _⟩

set_option maxRecDepth 100000 in
set_option maxHeartbeats 400000 in
theorem may_at3 (k : Int) (s : ByteArray) (n a : Int) (A : Option Addr) (len cap : Nat) (w : World) :
    Calls Tryz.prog 66 #[.agg #[.int .i64 k, .string s, .int .i64 n, .int .i64 a, .slice A len cap], .int .i64 3] w fun e w' => e = .returned (.bool (mayB k s 3)) ∧ Below w.heap.size w w' := by
  have HF : Hid (mayB k s 3 = (k == 11 || k == 9)) := by simp [Hid, mayB]
  go_enter Tryz.func66, Tryz.ntmps66
  go_wp2
  all_goals
    go_ret
    exact ⟨ret_bool (by rw [HF.out]; try (first | (simp [*]; done) | (simp [*]; intros; omega) | (simp; omega) | omega | (rw [Bool.eq_iff_iff]; simp; omega) | (rw [Bool.eq_iff_iff]; simp [*]; done) | (rw [Bool.eq_iff_iff]; simp [*]; omega) | (simp_all; done))), (Below.refl _ _).alloc (Nat.le_refl _) _⟩

set_option maxRecDepth 100000 in
set_option maxHeartbeats 400000 in
theorem may_at4 (k : Int) (s : ByteArray) (n a : Int) (A : Option Addr) (len cap : Nat) (w : World) :
    Calls Tryz.prog 66 #[.agg #[.int .i64 k, .string s, .int .i64 n, .int .i64 a, .slice A len cap], .int .i64 4] w fun e w' => e = .returned (.bool (mayB k s 4)) ∧ Below w.heap.size w w' := by
  have HF : Hid (mayB k s 4 = (k == 14)) := by simp [Hid, mayB]
  go_enter Tryz.func66, Tryz.ntmps66
  go_wp2
  all_goals
    go_ret
    exact ⟨ret_bool (by rw [HF.out]; try (first | (simp [*]; done) | (simp [*]; intros; omega) | (simp; omega) | omega | (rw [Bool.eq_iff_iff]; simp; omega) | (rw [Bool.eq_iff_iff]; simp [*]; done) | (rw [Bool.eq_iff_iff]; simp [*]; omega) | (simp_all; done))), (Below.refl _ _).alloc (Nat.le_refl _) _⟩

set_option maxRecDepth 100000 in
set_option maxHeartbeats 400000 in
theorem may_at5 (k : Int) (s : ByteArray) (n a : Int) (A : Option Addr) (len cap : Nat) (w : World) :
    Calls Tryz.prog 66 #[.agg #[.int .i64 k, .string s, .int .i64 n, .int .i64 a, .slice A len cap], .int .i64 5] w fun e w' => e = .returned (.bool (mayB k s 5)) ∧ Below w.heap.size w w' := by
  have HF : Hid (mayB k s 5 = (k == 14)) := by simp [Hid, mayB]
  go_enter Tryz.func66, Tryz.ntmps66
  go_wp2
  all_goals
    go_ret
    exact ⟨ret_bool (by rw [HF.out]; try (first | (simp [*]; done) | (simp [*]; intros; omega) | (simp; omega) | omega | (rw [Bool.eq_iff_iff]; simp; omega) | (rw [Bool.eq_iff_iff]; simp [*]; done) | (rw [Bool.eq_iff_iff]; simp [*]; omega) | (simp_all; done))), (Below.refl _ _).alloc (Nat.le_refl _) _⟩

set_option maxRecDepth 100000 in
set_option maxHeartbeats 400000 in
theorem may_at6 (k : Int) (s : ByteArray) (n a : Int) (A : Option Addr) (len cap : Nat) (w : World) :
    Calls Tryz.prog 66 #[.agg #[.int .i64 k, .string s, .int .i64 n, .int .i64 a, .slice A len cap], .int .i64 6] w fun e w' => e = .returned (.bool (mayB k s 6)) ∧ Below w.heap.size w w' := by
  have HF : Hid (mayB k s 6 = (k == 14 || k == 15)) := by simp [Hid, mayB]
  go_enter Tryz.func66, Tryz.ntmps66
  go_wp2
  all_goals
    go_ret
    exact ⟨ret_bool (by rw [HF.out]; try (first | (simp [*]; done) | (simp [*]; intros; omega) | (simp; omega) | omega | (rw [Bool.eq_iff_iff]; simp; omega) | (rw [Bool.eq_iff_iff]; simp [*]; done) | (rw [Bool.eq_iff_iff]; simp [*]; omega) | (simp_all; done))), (Below.refl _ _).alloc (Nat.le_refl _) _⟩

set_option maxRecDepth 100000 in
set_option maxHeartbeats 400000 in
theorem may_at7 (k : Int) (s : ByteArray) (n a : Int) (A : Option Addr) (len cap : Nat) (w : World) :
    Calls Tryz.prog 66 #[.agg #[.int .i64 k, .string s, .int .i64 n, .int .i64 a, .slice A len cap], .int .i64 7] w fun e w' => e = .returned (.bool (mayB k s 7)) ∧ Below w.heap.size w w' := by
  have HF : Hid (mayB k s 7 = (k == 12)) := by simp [Hid, mayB]
  go_enter Tryz.func66, Tryz.ntmps66
  go_wp2
  all_goals
    go_ret
    exact ⟨ret_bool (by rw [HF.out]; try (first | (simp [*]; done) | (simp [*]; intros; omega) | (simp; omega) | omega | (rw [Bool.eq_iff_iff]; simp; omega) | (rw [Bool.eq_iff_iff]; simp [*]; done) | (rw [Bool.eq_iff_iff]; simp [*]; omega) | (simp_all; done))), (Below.refl _ _).alloc (Nat.le_refl _) _⟩

set_option maxRecDepth 100000 in
set_option maxHeartbeats 400000 in
theorem may_at8 (k : Int) (s : ByteArray) (n a : Int) (A : Option Addr) (len cap : Nat) (w : World) :
    Calls Tryz.prog 66 #[.agg #[.int .i64 k, .string s, .int .i64 n, .int .i64 a, .slice A len cap], .int .i64 8] w fun e w' => e = .returned (.bool (mayB k s 8)) ∧ Below w.heap.size w w' := by
  have HF : Hid (mayB k s 8 = (k == 13)) := by simp [Hid, mayB]
  go_enter Tryz.func66, Tryz.ntmps66
  go_wp2
  all_goals
    go_ret
    exact ⟨ret_bool (by rw [HF.out]; try (first | (simp [*]; done) | (simp [*]; intros; omega) | (simp; omega) | omega | (rw [Bool.eq_iff_iff]; simp; omega) | (rw [Bool.eq_iff_iff]; simp [*]; done) | (rw [Bool.eq_iff_iff]; simp [*]; omega) | (simp_all; done))), (Below.refl _ _).alloc (Nat.le_refl _) _⟩

set_option maxRecDepth 100000 in
set_option maxHeartbeats 400000 in
theorem may_at9 (k : Int) (s : ByteArray) (n a : Int) (A : Option Addr) (len cap : Nat) (w : World) :
    Calls Tryz.prog 66 #[.agg #[.int .i64 k, .string s, .int .i64 n, .int .i64 a, .slice A len cap], .int .i64 9] w fun e w' => e = .returned (.bool (mayB k s 9)) ∧ Below w.heap.size w w' := by
  have HF : Hid (mayB k s 9 = (k == 17)) := by simp [Hid, mayB]
  go_enter Tryz.func66, Tryz.ntmps66
  go_wp2
  all_goals
    go_ret
    exact ⟨ret_bool (by rw [HF.out]; try (first | (simp [*]; done) | (simp [*]; intros; omega) | (simp; omega) | omega | (rw [Bool.eq_iff_iff]; simp; omega) | (rw [Bool.eq_iff_iff]; simp [*]; done) | (rw [Bool.eq_iff_iff]; simp [*]; omega) | (simp_all; done))), (Below.refl _ _).alloc (Nat.le_refl _) _⟩

set_option maxRecDepth 100000 in
set_option maxHeartbeats 400000 in
theorem may_at10 (k : Int) (s : ByteArray) (n a : Int) (A : Option Addr) (len cap : Nat) (w : World) :
    Calls Tryz.prog 66 #[.agg #[.int .i64 k, .string s, .int .i64 n, .int .i64 a, .slice A len cap], .int .i64 10] w fun e w' => e = .returned (.bool (mayB k s 10)) ∧ Below w.heap.size w w' := by
  have HF : Hid (mayB k s 10 = (decide (17 ≤ k) && (decide (k ≤ 34) && !(k == 27)))) := by simp [Hid, mayB]
  go_enter Tryz.func66, Tryz.ntmps66
  go_wp2
  all_goals
    go_ret
    exact ⟨ret_bool (by rw [HF.out]; try (first | (simp [*]; done) | (simp [*]; intros; omega) | (simp; omega) | omega | (rw [Bool.eq_iff_iff]; simp; omega) | (rw [Bool.eq_iff_iff]; simp [*]; done) | (rw [Bool.eq_iff_iff]; simp [*]; omega) | (simp_all; done))), (Below.refl _ _).alloc (Nat.le_refl _) _⟩

set_option maxRecDepth 100000 in
set_option maxHeartbeats 400000 in
theorem may_at11 (k : Int) (s : ByteArray) (n a : Int) (A : Option Addr) (len cap : Nat) (w : World) :
    Calls Tryz.prog 66 #[.agg #[.int .i64 k, .string s, .int .i64 n, .int .i64 a, .slice A len cap], .int .i64 11] w fun e w' => e = .returned (.bool (mayB k s 11)) ∧ Below w.heap.size w w' := by
  have HF : Hid (mayB k s 11 = (k == 14 || (decide (35 ≤ k) && (decide (k ≤ 51) && !(k == 40))))) := by simp [Hid, mayB]
  go_enter Tryz.func66, Tryz.ntmps66
  go_wp2
  all_goals
    go_ret
    exact ⟨ret_bool (by rw [HF.out]; try (first | (simp [*]; done) | (simp [*]; intros; omega) | (simp; omega) | omega | (rw [Bool.eq_iff_iff]; simp; omega) | (rw [Bool.eq_iff_iff]; simp [*]; done) | (rw [Bool.eq_iff_iff]; simp [*]; omega) | (simp_all; done))), (Below.refl _ _).alloc (Nat.le_refl _) _⟩

set_option maxRecDepth 100000 in
set_option maxHeartbeats 400000 in
theorem may_at12 (k : Int) (s : ByteArray) (n a : Int) (A : Option Addr) (len cap : Nat) (w : World) :
    Calls Tryz.prog 66 #[.agg #[.int .i64 k, .string s, .int .i64 n, .int .i64 a, .slice A len cap], .int .i64 12] w fun e w' => e = .returned (.bool (mayB k s 12)) ∧ Below w.heap.size w w' := by
  have HF : Hid (mayB k s 12 = ((k == 14 || (decide (35 ≤ k) && (decide (k ≤ 51) && !(k == 40)))) || k == 16)) := by simp [Hid, mayB]
  go_enter Tryz.func66, Tryz.ntmps66
  go_wp2
  all_goals
    go_ret
    exact ⟨ret_bool (by rw [HF.out]; try (first | (simp [*]; done) | (simp [*]; intros; omega) | (simp; omega) | omega | (rw [Bool.eq_iff_iff]; simp; omega) | (rw [Bool.eq_iff_iff]; simp [*]; done) | (rw [Bool.eq_iff_iff]; simp [*]; omega) | (simp_all; done))), (Below.refl _ _).alloc (Nat.le_refl _) _⟩

set_option maxRecDepth 100000 in
set_option maxHeartbeats 400000 in
theorem may_at13 (k : Int) (s : ByteArray) (n a : Int) (A : Option Addr) (len cap : Nat) (w : World) :
    Calls Tryz.prog 66 #[.agg #[.int .i64 k, .string s, .int .i64 n, .int .i64 a, .slice A len cap], .int .i64 13] w fun e w' => e = .returned (.bool (mayB k s 13)) ∧ Below w.heap.size w w' := by
  have HF : Hid (mayB k s 13 = (k == 14 || k == 45 || k == 46 || (k == 50 && s.toList == [42]))) := by simp [Hid, mayB]
  go_enter Tryz.func66, Tryz.ntmps66
  go_wp2
  all_goals
    go_ret
    exact ⟨ret_bool (by rw [HF.out]; try (first | (simp [*]; done) | (simp [*]; intros; omega) | (simp; omega) | omega | (rw [Bool.eq_iff_iff]; simp; omega) | (rw [Bool.eq_iff_iff]; simp [*]; done) | (rw [Bool.eq_iff_iff]; simp [*]; omega) | (simp_all; done))), (Below.refl _ _).alloc (Nat.le_refl _) _⟩

set_option maxRecDepth 100000 in
set_option maxHeartbeats 400000 in
theorem may_at14 (k : Int) (s : ByteArray) (n a : Int) (A : Option Addr) (len cap : Nat) (w : World) :
    Calls Tryz.prog 66 #[.agg #[.int .i64 k, .string s, .int .i64 n, .int .i64 a, .slice A len cap], .int .i64 14] w fun e w' => e = .returned (.bool (mayB k s 14)) ∧ Below w.heap.size w w' := by
  have HF : Hid (mayB k s 14 = (k == 17 || k == 22 || k == 16)) := by simp [Hid, mayB]
  go_enter Tryz.func66, Tryz.ntmps66
  go_wp2
  all_goals
    go_ret
    exact ⟨ret_bool (by rw [HF.out]; try (first | (simp [*]; done) | (simp [*]; intros; omega) | (simp; omega) | omega | (rw [Bool.eq_iff_iff]; simp; omega) | (rw [Bool.eq_iff_iff]; simp [*]; done) | (rw [Bool.eq_iff_iff]; simp [*]; omega) | (simp_all; done))), (Below.refl _ _).alloc (Nat.le_refl _) _⟩

set_option maxRecDepth 100000 in
set_option maxHeartbeats 400000 in
theorem may_at15 (k : Int) (s : ByteArray) (n a : Int) (A : Option Addr) (len cap : Nat) (w : World) :
    Calls Tryz.prog 66 #[.agg #[.int .i64 k, .string s, .int .i64 n, .int .i64 a, .slice A len cap], .int .i64 15] w fun e w' => e = .returned (.bool (mayB k s 15)) ∧ Below w.heap.size w w' := by
  have HF : Hid (mayB k s 15 = (k == 14 || k == 16)) := by simp [Hid, mayB]
  go_enter Tryz.func66, Tryz.ntmps66
  go_wp2
  all_goals
    go_ret
    exact ⟨ret_bool (by rw [HF.out]; try (first | (simp [*]; done) | (simp [*]; intros; omega) | (simp; omega) | omega | (rw [Bool.eq_iff_iff]; simp; omega) | (rw [Bool.eq_iff_iff]; simp [*]; done) | (rw [Bool.eq_iff_iff]; simp [*]; omega) | (simp_all; done))), (Below.refl _ _).alloc (Nat.le_refl _) _⟩

set_option maxRecDepth 100000 in
set_option maxHeartbeats 400000 in
theorem may_at16 (k : Int) (s : ByteArray) (n a : Int) (A : Option Addr) (len cap : Nat) (w : World) :
    Calls Tryz.prog 66 #[.agg #[.int .i64 k, .string s, .int .i64 n, .int .i64 a, .slice A len cap], .int .i64 16] w fun e w' => e = .returned (.bool (mayB k s 16)) ∧ Below w.heap.size w w' := by
  have HF : Hid (mayB k s 16 = (k == 49 || k == 46)) := by simp [Hid, mayB]
  go_enter Tryz.func66, Tryz.ntmps66
  go_wp2
  all_goals
    go_ret
    exact ⟨ret_bool (by rw [HF.out]; try (first | (simp [*]; done) | (simp [*]; intros; omega) | (simp; omega) | omega | (rw [Bool.eq_iff_iff]; simp; omega) | (rw [Bool.eq_iff_iff]; simp [*]; done) | (rw [Bool.eq_iff_iff]; simp [*]; omega) | (simp_all; done))), (Below.refl _ _).alloc (Nat.le_refl _) _⟩

set_option maxRecDepth 100000 in
set_option maxHeartbeats 400000 in
theorem may_at17 (k : Int) (s : ByteArray) (n a : Int) (A : Option Addr) (len cap : Nat) (w : World) :
    Calls Tryz.prog 66 #[.agg #[.int .i64 k, .string s, .int .i64 n, .int .i64 a, .slice A len cap], .int .i64 17] w fun e w' => e = .returned (.bool (mayB k s 17)) ∧ Below w.heap.size w w' := by
  have HF : Hid (mayB k s 17 = (k == 48)) := by simp [Hid, mayB]
  go_enter Tryz.func66, Tryz.ntmps66
  go_wp2
  all_goals
    go_ret
    exact ⟨ret_bool (by rw [HF.out]; try (first | (simp [*]; done) | (simp [*]; intros; omega) | (simp; omega) | omega | (rw [Bool.eq_iff_iff]; simp; omega) | (rw [Bool.eq_iff_iff]; simp [*]; done) | (rw [Bool.eq_iff_iff]; simp [*]; omega) | (simp_all; done))), (Below.refl _ _).alloc (Nat.le_refl _) _⟩

set_option maxRecDepth 100000 in
set_option maxHeartbeats 400000 in
theorem may_at18 (k : Int) (s : ByteArray) (n a : Int) (A : Option Addr) (len cap : Nat) (w : World) :
    Calls Tryz.prog 66 #[.agg #[.int .i64 k, .string s, .int .i64 n, .int .i64 a, .slice A len cap], .int .i64 18] w fun e w' => e = .returned (.bool (mayB k s 18)) ∧ Below w.heap.size w w' := by
  have HF : Hid (mayB k s 18 = (k == 14 || (decide (35 ≤ k) && (decide (k ≤ 51) && !(k == 40))))) := by simp [Hid, mayB]
  go_enter Tryz.func66, Tryz.ntmps66
  go_wp2
  all_goals
    go_ret
    exact ⟨ret_bool (by rw [HF.out]; try (first | (simp [*]; done) | (simp [*]; intros; omega) | (simp; omega) | omega | (rw [Bool.eq_iff_iff]; simp; omega) | (rw [Bool.eq_iff_iff]; simp [*]; done) | (rw [Bool.eq_iff_iff]; simp [*]; omega) | (simp_all; done))), (Below.refl _ _).alloc (Nat.le_refl _) _⟩

set_option maxRecDepth 100000 in
set_option maxHeartbeats 400000 in
theorem may_at19 (k : Int) (s : ByteArray) (n a : Int) (A : Option Addr) (len cap : Nat) (w : World) :
    Calls Tryz.prog 66 #[.agg #[.int .i64 k, .string s, .int .i64 n, .int .i64 a, .slice A len cap], .int .i64 19] w fun e w' => e = .returned (.bool (mayB k s 19)) ∧ Below w.heap.size w w' := by
  have HF : Hid (mayB k s 19 = (k == 27)) := by simp [Hid, mayB]
  go_enter Tryz.func66, Tryz.ntmps66
  go_wp2
  all_goals
    go_ret
    exact ⟨ret_bool (by rw [HF.out]; try (first | (simp [*]; done) | (simp [*]; intros; omega) | (simp; omega) | omega | (rw [Bool.eq_iff_iff]; simp; omega) | (rw [Bool.eq_iff_iff]; simp [*]; done) | (rw [Bool.eq_iff_iff]; simp [*]; omega) | (simp_all; done))), (Below.refl _ _).alloc (Nat.le_refl _) _⟩

set_option maxRecDepth 100000 in
set_option maxHeartbeats 400000 in
theorem may_at20 (k : Int) (s : ByteArray) (n a : Int) (A : Option Addr) (len cap : Nat) (w : World) :
    Calls Tryz.prog 66 #[.agg #[.int .i64 k, .string s, .int .i64 n, .int .i64 a, .slice A len cap], .int .i64 20] w fun e w' => e = .returned (.bool (mayB k s 20)) ∧ Below w.heap.size w w' := by
  have HF : Hid (mayB k s 20 = (k == 27)) := by simp [Hid, mayB]
  go_enter Tryz.func66, Tryz.ntmps66
  go_wp2
  all_goals
    go_ret
    exact ⟨ret_bool (by rw [HF.out]; try (first | (simp [*]; done) | (simp [*]; intros; omega) | (simp; omega) | omega | (rw [Bool.eq_iff_iff]; simp; omega) | (rw [Bool.eq_iff_iff]; simp [*]; done) | (rw [Bool.eq_iff_iff]; simp [*]; omega) | (simp_all; done))), (Below.refl _ _).alloc (Nat.le_refl _) _⟩

set_option maxRecDepth 100000 in
set_option maxHeartbeats 400000 in
theorem may_at21 (k : Int) (s : ByteArray) (n a : Int) (A : Option Addr) (len cap : Nat) (w : World) :
    Calls Tryz.prog 66 #[.agg #[.int .i64 k, .string s, .int .i64 n, .int .i64 a, .slice A len cap], .int .i64 21] w fun e w' => e = .returned (.bool (mayB k s 21)) ∧ Below w.heap.size w w' := by
  have HF : Hid (mayB k s 21 = (k == 38 || k == 16)) := by simp [Hid, mayB]
  go_enter Tryz.func66, Tryz.ntmps66
  go_wp2
  all_goals
    go_ret
    exact ⟨ret_bool (by rw [HF.out]; try (first | (simp [*]; done) | (simp [*]; intros; omega) | (simp; omega) | omega | (rw [Bool.eq_iff_iff]; simp; omega) | (rw [Bool.eq_iff_iff]; simp [*]; done) | (rw [Bool.eq_iff_iff]; simp [*]; omega) | (simp_all; done))), (Below.refl _ _).alloc (Nat.le_refl _) _⟩

set_option maxRecDepth 100000 in
set_option maxHeartbeats 400000 in
theorem may_at22 (k : Int) (s : ByteArray) (n a : Int) (A : Option Addr) (len cap : Nat) (w : World) :
    Calls Tryz.prog 66 #[.agg #[.int .i64 k, .string s, .int .i64 n, .int .i64 a, .slice A len cap], .int .i64 22] w fun e w' => e = .returned (.bool (mayB k s 22)) ∧ Below w.heap.size w w' := by
  have HF : Hid (mayB k s 22 = (k == 38 || k == 16)) := by simp [Hid, mayB]
  go_enter Tryz.func66, Tryz.ntmps66
  go_wp2
  all_goals
    go_ret
    exact ⟨ret_bool (by rw [HF.out]; try (first | (simp [*]; done) | (simp [*]; intros; omega) | (simp; omega) | omega | (rw [Bool.eq_iff_iff]; simp; omega) | (rw [Bool.eq_iff_iff]; simp [*]; done) | (rw [Bool.eq_iff_iff]; simp [*]; omega) | (simp_all; done))), (Below.refl _ _).alloc (Nat.le_refl _) _⟩

set_option maxRecDepth 100000 in
set_option maxHeartbeats 400000 in
theorem may_at23 (k : Int) (s : ByteArray) (n a : Int) (A : Option Addr) (len cap : Nat) (w : World) :
    Calls Tryz.prog 66 #[.agg #[.int .i64 k, .string s, .int .i64 n, .int .i64 a, .slice A len cap], .int .i64 23] w fun e w' => e = .returned (.bool (mayB k s 23)) ∧ Below w.heap.size w w' := by
  have HF : Hid (mayB k s 23 = (k == 14 || k == 15)) := by simp [Hid, mayB]
  go_enter Tryz.func66, Tryz.ntmps66
  go_wp2
  all_goals
    go_ret
    exact ⟨ret_bool (by rw [HF.out]; try (first | (simp [*]; done) | (simp [*]; intros; omega) | (simp; omega) | omega | (rw [Bool.eq_iff_iff]; simp; omega) | (rw [Bool.eq_iff_iff]; simp [*]; done) | (rw [Bool.eq_iff_iff]; simp [*]; omega) | (simp_all; done))), (Below.refl _ _).alloc (Nat.le_refl _) _⟩

set_option maxRecDepth 100000 in
set_option maxHeartbeats 400000 in
theorem may_at24 (k : Int) (s : ByteArray) (n a : Int) (A : Option Addr) (len cap : Nat) (w : World) :
    Calls Tryz.prog 66 #[.agg #[.int .i64 k, .string s, .int .i64 n, .int .i64 a, .slice A len cap], .int .i64 24] w fun e w' => e = .returned (.bool (mayB k s 24)) ∧ Below w.heap.size w w' := by
  have HF : Hid (mayB k s 24 = (k == 14 || k == 15)) := by simp [Hid, mayB]
  go_enter Tryz.func66, Tryz.ntmps66
  go_wp2
  all_goals
    go_ret
    exact ⟨ret_bool (by rw [HF.out]; try (first | (simp [*]; done) | (simp [*]; intros; omega) | (simp; omega) | omega | (rw [Bool.eq_iff_iff]; simp; omega) | (rw [Bool.eq_iff_iff]; simp [*]; done) | (rw [Bool.eq_iff_iff]; simp [*]; omega) | (simp_all; done))), (Below.refl _ _).alloc (Nat.le_refl _) _⟩

set_option maxRecDepth 100000 in
set_option maxHeartbeats 400000 in
theorem may_at25 (k : Int) (s : ByteArray) (n a : Int) (A : Option Addr) (len cap : Nat) (w : World) :
    Calls Tryz.prog 66 #[.agg #[.int .i64 k, .string s, .int .i64 n, .int .i64 a, .slice A len cap], .int .i64 25] w fun e w' => e = .returned (.bool (mayB k s 25)) ∧ Below w.heap.size w w' := by
  have HF : Hid (mayB k s 25 = (k == 14 || k == 15)) := by simp [Hid, mayB]
  go_enter Tryz.func66, Tryz.ntmps66
  go_wp2
  all_goals
    go_ret
    exact ⟨ret_bool (by rw [HF.out]; try (first | (simp [*]; done) | (simp [*]; intros; omega) | (simp; omega) | omega | (rw [Bool.eq_iff_iff]; simp; omega) | (rw [Bool.eq_iff_iff]; simp [*]; done) | (rw [Bool.eq_iff_iff]; simp [*]; omega) | (simp_all; done))), (Below.refl _ _).alloc (Nat.le_refl _) _⟩

set_option maxRecDepth 100000 in
set_option maxHeartbeats 400000 in
theorem may_at26 (k : Int) (s : ByteArray) (n a : Int) (A : Option Addr) (len cap : Nat) (w : World) :
    Calls Tryz.prog 66 #[.agg #[.int .i64 k, .string s, .int .i64 n, .int .i64 a, .slice A len cap], .int .i64 26] w fun e w' => e = .returned (.bool (mayB k s 26)) ∧ Below w.heap.size w w' := by
  have HF : Hid (mayB k s 26 = (k == 40)) := by simp [Hid, mayB]
  go_enter Tryz.func66, Tryz.ntmps66
  go_wp2
  all_goals
    go_ret
    exact ⟨ret_bool (by rw [HF.out]; try (first | (simp [*]; done) | (simp [*]; intros; omega) | (simp; omega) | omega | (rw [Bool.eq_iff_iff]; simp; omega) | (rw [Bool.eq_iff_iff]; simp [*]; done) | (rw [Bool.eq_iff_iff]; simp [*]; omega) | (simp_all; done))), (Below.refl _ _).alloc (Nat.le_refl _) _⟩

set_option maxRecDepth 100000 in
set_option maxHeartbeats 400000 in
theorem may_at27 (k : Int) (s : ByteArray) (n a : Int) (A : Option Addr) (len cap : Nat) (w : World) :
    Calls Tryz.prog 66 #[.agg #[.int .i64 k, .string s, .int .i64 n, .int .i64 a, .slice A len cap], .int .i64 27] w fun e w' => e = .returned (.bool (mayB k s 27)) ∧ Below w.heap.size w w' := by
  have HF : Hid (mayB k s 27 = (k == 40)) := by simp [Hid, mayB]
  go_enter Tryz.func66, Tryz.ntmps66
  go_wp2
  all_goals
    go_ret
    exact ⟨ret_bool (by rw [HF.out]; try (first | (simp [*]; done) | (simp [*]; intros; omega) | (simp; omega) | omega | (rw [Bool.eq_iff_iff]; simp; omega) | (rw [Bool.eq_iff_iff]; simp [*]; done) | (rw [Bool.eq_iff_iff]; simp [*]; omega) | (simp_all; done))), (Below.refl _ _).alloc (Nat.le_refl _) _⟩

set_option maxRecDepth 100000 in
set_option maxHeartbeats 400000 in
theorem may_at28 (k : Int) (s : ByteArray) (n a : Int) (A : Option Addr) (len cap : Nat) (w : World) :
    Calls Tryz.prog 66 #[.agg #[.int .i64 k, .string s, .int .i64 n, .int .i64 a, .slice A len cap], .int .i64 28] w fun e w' => e = .returned (.bool (mayB k s 28)) ∧ Below w.heap.size w w' := by
  have HF : Hid (mayB k s 28 = (k == 41)) := by simp [Hid, mayB]
  go_enter Tryz.func66, Tryz.ntmps66
  go_wp2
  all_goals
    go_ret
    exact ⟨ret_bool (by rw [HF.out]; try (first | (simp [*]; done) | (simp [*]; intros; omega) | (simp; omega) | omega | (rw [Bool.eq_iff_iff]; simp; omega) | (rw [Bool.eq_iff_iff]; simp [*]; done) | (rw [Bool.eq_iff_iff]; simp [*]; omega) | (simp_all; done))), (Below.refl _ _).alloc (Nat.le_refl _) _⟩

set_option maxRecDepth 100000 in
set_option maxHeartbeats 400000 in
theorem may_at29 (k : Int) (s : ByteArray) (n a : Int) (A : Option Addr) (len cap : Nat) (w : World) :
    Calls Tryz.prog 66 #[.agg #[.int .i64 k, .string s, .int .i64 n, .int .i64 a, .slice A len cap], .int .i64 29] w fun e w' => e = .returned (.bool (mayB k s 29)) ∧ Below w.heap.size w w' := by
  have HF : Hid (mayB k s 29 = (k == 16)) := by simp [Hid, mayB]
  go_enter Tryz.func66, Tryz.ntmps66
  go_wp2
  all_goals
    go_ret
    exact ⟨ret_bool (by rw [HF.out]; try (first | (simp [*]; done) | (simp [*]; intros; omega) | (simp; omega) | omega | (rw [Bool.eq_iff_iff]; simp; omega) | (rw [Bool.eq_iff_iff]; simp [*]; done) | (rw [Bool.eq_iff_iff]; simp [*]; omega) | (simp_all; done))), (Below.refl _ _).alloc (Nat.le_refl _) _⟩

end Go.Proofs.YtokhfhibdeneeaaGreatDoor
