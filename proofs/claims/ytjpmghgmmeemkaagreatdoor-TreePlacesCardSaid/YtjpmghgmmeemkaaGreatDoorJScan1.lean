/- lex.run at every text; lex.wrong; the text 01: lex.number, lex.one, lex.Scan, tree.ints. The text 01: lex.number, lex.one, lex.Scan, tree.ints. -/
import Derived.Deep.RegionWith
import Derived.Test.YtjpmghgmmeemkaaGreatDoorShelf
import Derived.Test.YtjpmghgmmeemkaaGreatDoorLex1
namespace Go.Proofs.YtjpmghgmmeemkaaGreatDoor
open Go.RowKit

def runP (letters : Bool) (c : Int) : Bool := digitB c || (letters && letterB c)
def runN (letters : Bool) : List UInt8 → Nat
  | [] => 0
  | c :: r => if runP letters c.toNat = true then runN letters r + 1 else 0
theorem runN_go {letters : Bool} {c : UInt8} {r : List UInt8} (h : runP letters c.toNat = true) : runN letters (c :: r) = runN letters r + 1 := by rw [runN, if_pos h]
theorem runN_stop {letters : Bool} {c : UInt8} {r : List UInt8} (h : runP letters c.toNat = false) : runN letters (c :: r) = 0 := by rw [runN, if_neg (by simp [h])]

set_option maxRecDepth 100000 in
set_option maxHeartbeats 1000000 in
theorem run_true (s : ByteArray) (w : World) : Calls Tryz.prog 112 #[.string s, .bool true] w fun e w' => e = .returned (.int .i64 (runN true s.data.toList)) ∧ Below w.heap.size w w' := by
  obtain ⟨N, HN⟩ : ∃ N, Hid (runN true s.data.toList = N) := ⟨_, rfl⟩
  rw [HN.out]
  go_enter Tryz.func112, Tryz.ntmps112
  go_wp2
  go_loopw [4] (fun v wr => v = .int .i64 0 ∧ ∃ pos : Nat, wr = w.iter s pos ∧ pos ≤ s.size ∧ Hid (N = pos + runN true (s.data.toList.drop pos))) (fun _ wr => s.size - wr.iterPos w.heap.size)
  case atStart => exact ⟨rfl, 0, rfl, Nat.zero_le _, by show _ = _; rw [← HN.out]; simp⟩
  case round =>
  obtain ⟨rfl, pos, rfl, hle, HI⟩ := hrel
  by_cases hp : pos < s.size
  · have hd := Lib.hid (drop_byte s pos hp)
    by_cases ha : (s[pos]'hp).toNat < 128
    · have hnx := fun ty => run_next_ascii (P := Tryz.prog) w s pos ty hp ha
      obtain ⟨c, HC⟩ : ∃ c : Nat, Hid ((s[pos]'hp).toNat = c) := ⟨_, rfl⟩
      rw [HC.out] at hnx
      cases hdi : digitB c <;> cases hle : letterB c
      all_goals
        go_wp2_with (first
          | (go_at_call 94; refine (letter_any _ _).mono ?_; rintro e w' ⟨rfl, rfl⟩)
          | (go_at_call 95; refine (digit_any _ _).mono ?_; rintro e w' ⟨rfl, rfl⟩))
        first
        | (go_roundw
           case rel =>
             refine ⟨by trivial, pos + 1, rfl, by omega, ?_⟩
             show _ = _
             rw [HI.out, hd.out, runN_go (by rw [HC.out]; simp [runP, hdi, hle])]
             omega
           case measure => simp; omega)
        | (go_ret
           refine ⟨ret_int ?_, (Below.refl _ _).alloc (Nat.le_refl _) _⟩
           rw [HI.out, hd.out, runN_stop (by rw [HC.out]; simp [runP, hdi, hle])]
           simp)
    · have hnx := fun ty => run_next_any (P := Tryz.prog) w s pos ty hp
      obtain ⟨h1, h2⟩ := decode_high s pos hp (by omega)
      have l1 := letter_high (c := ((Utf8.decode s pos).1 : Int)) (by omega)
      have l2 := digit_high (c := ((Utf8.decode s pos).1 : Int)) (by omega)
      go_wp2_with (first
          | (go_at_call 94; refine (letter_any _ _).mono ?_; rintro e w' ⟨rfl, rfl⟩)
          | (go_at_call 95; refine (digit_any _ _).mono ?_; rintro e w' ⟨rfl, rfl⟩))
      go_ret
      refine ⟨ret_int ?_, (Below.refl _ _).alloc (Nat.le_refl _) _⟩
      rw [HI.out, hd.out, runN_stop (by simp [runP, letter_high (c := ((s[pos]'hp).toNat : Int)) (by omega), digit_high (c := ((s[pos]'hp).toNat : Int)) (by omega)])]
      simp
  · have hnx := fun ty => run_next_end (P := Tryz.prog) w s pos ty hp
    obtain rfl : pos = s.size := by omega
    go_wp2
    go_ret
    refine ⟨ret_int ?_, (Below.refl _ _).alloc (Nat.le_refl _) _⟩
    rw [HI.out, List.drop_of_length_le (by simp)]
    simp [runN]

set_option maxRecDepth 100000 in
set_option maxHeartbeats 1000000 in
theorem run_false (s : ByteArray) (w : World) : Calls Tryz.prog 112 #[.string s, .bool false] w fun e w' => e = .returned (.int .i64 (runN false s.data.toList)) ∧ Below w.heap.size w w' := by
  obtain ⟨N, HN⟩ : ∃ N, Hid (runN false s.data.toList = N) := ⟨_, rfl⟩
  rw [HN.out]
  go_enter Tryz.func112, Tryz.ntmps112
  go_wp2
  go_loopw [4] (fun v wr => v = .int .i64 0 ∧ ∃ pos : Nat, wr = w.iter s pos ∧ pos ≤ s.size ∧ Hid (N = pos + runN false (s.data.toList.drop pos))) (fun _ wr => s.size - wr.iterPos w.heap.size)
  case atStart => exact ⟨rfl, 0, rfl, Nat.zero_le _, by show _ = _; rw [← HN.out]; simp⟩
  case round =>
  obtain ⟨rfl, pos, rfl, hle, HI⟩ := hrel
  by_cases hp : pos < s.size
  · have hd := Lib.hid (drop_byte s pos hp)
    by_cases ha : (s[pos]'hp).toNat < 128
    · have hnx := fun ty => run_next_ascii (P := Tryz.prog) w s pos ty hp ha
      obtain ⟨c, HC⟩ : ∃ c : Nat, Hid ((s[pos]'hp).toNat = c) := ⟨_, rfl⟩
      rw [HC.out] at hnx
      cases hdi : digitB c <;> cases hle : letterB c
      all_goals
        go_wp2_with (first
          | (go_at_call 94; refine (letter_any _ _).mono ?_; rintro e w' ⟨rfl, rfl⟩)
          | (go_at_call 95; refine (digit_any _ _).mono ?_; rintro e w' ⟨rfl, rfl⟩))
        first
        | (go_roundw
           case rel =>
             refine ⟨by trivial, pos + 1, rfl, by omega, ?_⟩
             show _ = _
             rw [HI.out, hd.out, runN_go (by rw [HC.out]; simp [runP, hdi, hle])]
             omega
           case measure => simp; omega)
        | (go_ret
           refine ⟨ret_int ?_, (Below.refl _ _).alloc (Nat.le_refl _) _⟩
           rw [HI.out, hd.out, runN_stop (by rw [HC.out]; simp [runP, hdi, hle])]
           simp)
    · have hnx := fun ty => run_next_any (P := Tryz.prog) w s pos ty hp
      obtain ⟨h1, h2⟩ := decode_high s pos hp (by omega)
      have l1 := letter_high (c := ((Utf8.decode s pos).1 : Int)) (by omega)
      have l2 := digit_high (c := ((Utf8.decode s pos).1 : Int)) (by omega)
      go_wp2_with (first
          | (go_at_call 94; refine (letter_any _ _).mono ?_; rintro e w' ⟨rfl, rfl⟩)
          | (go_at_call 95; refine (digit_any _ _).mono ?_; rintro e w' ⟨rfl, rfl⟩))
      go_ret
      refine ⟨ret_int ?_, (Below.refl _ _).alloc (Nat.le_refl _) _⟩
      rw [HI.out, hd.out, runN_stop (by simp [runP, letter_high (c := ((s[pos]'hp).toNat : Int)) (by omega), digit_high (c := ((s[pos]'hp).toNat : Int)) (by omega)])]
      simp
  · have hnx := fun ty => run_next_end (P := Tryz.prog) w s pos ty hp
    obtain rfl : pos = s.size := by omega
    go_wp2
    go_ret
    refine ⟨ret_int ?_, (Below.refl _ _).alloc (Nat.le_refl _) _⟩
    rw [HI.out, List.drop_of_length_le (by simp)]
    simp [runN]

theorem run_any (s : ByteArray) (letters : Bool) (w : World) : Calls Tryz.prog 112 #[.string s, .bool letters] w fun e w' => e = .returned (.int .i64 (runN letters s.data.toList)) ∧ Below w.heap.size w w' := by
  cases letters
  · exact run_false s w
  · exact run_true s w

theorem lexWrong_any (c a : Int) (w : World) : Calls Tryz.prog 98 #[.int .i64 c, .int .i64 a] w fun e w' => e = .returned (.pointer (some ⟨w.heap.size, 0, none⟩)) ∧ w' = w.alloc (.cells #[.int .i64 c, .int .i64 a, .string ⟨#[]⟩] 31) := by
  go_enter Tryz.func98, Tryz.ntmps98
  go_wp2
  go_ret
  exact ⟨rfl, rfl⟩

end Go.Proofs.YtjpmghgmmeemkaaGreatDoor

namespace Go.Proofs.YtjpmghgmmeemkaaGreatDoor
open Go.RowKit

theorem run_01f (w : World) : Calls Tryz.prog 112 #[.string ⟨#[48, 49]⟩, .bool false] w fun e w' => e = .returned (.int .i64 2) ∧ Below w.heap.size w w' := run_any ⟨#[48, 49]⟩ false w
theorem run_0t (w : World) : Calls Tryz.prog 112 #[.string ⟨#[]⟩, .bool true] w fun e w' => e = .returned (.int .i64 0) ∧ Below w.heap.size w w' := run_any ⟨#[]⟩ true w

theorem number_result (tmps : Array Value) (W : World) (g : Nat) (v0 v1 v2 x y : Value) (h4 : tmps.getD 4 undef = .pointer (some ⟨g, 0, none⟩)) (h5 : tmps.getD 5 undef = x) (h6 : tmps.getD 6 undef = y) {fr : Nat × Nat} (hrow : W.heap[g]? = some (.cells #[v0, v1, v2] 147 fr)) :
    (results Tryz.f111 tmps).run Tryz.prog W = .ok (.tuple #[.agg #[v0, v1, v2], x, y]) W := by
  have h4' : tmps[4]?.getD undef = .pointer (some ⟨g, 0, none⟩) := by simpa using h4
  have h5' : tmps[5]?.getD undef = x := by simpa using h5
  have h6' : tmps[6]?.getD undef = y := by simpa using h6
  have e0 : W.cell? ⟨g, 0, none⟩ = some v0 := cell_of_row W _ 0 _ _ _ hrow
  have e1 : W.cell? ⟨g, 1, none⟩ = some v1 := cell_of_row W _ 1 _ _ _ hrow
  have e2 : W.cell? ⟨g, 2, none⟩ = some v2 := cell_of_row W _ 2 _ _ _ hrow
  simp [results, Tryz.f111, go_sem, h4', h5', h6', e0, e1, e2]

set_option maxRecDepth 100000 in
set_option maxHeartbeats 1000000 in
theorem number_01 (w : World) : Calls Tryz.prog 111 #[.string ⟨#[48, 49]⟩, .int .i64 0] w fun e w' =>
    ∃ b, e = .returned (.tuple #[.agg #[.int .i64 4, .string ⟨#[48, 49]⟩, .int .i64 0], .int .i64 0, .pointer (some ⟨b, 0, none⟩)]) ∧ w.heap.size ≤ b ∧ Below w.heap.size w w' := by
  have x02 : (⟨#[48, 49]⟩ : ByteArray).extract 0 2 = ⟨#[48, 49]⟩ := by decide
  have x22 : (⟨#[48, 49]⟩ : ByteArray).extract 2 2 = ⟨#[]⟩ := by decide
  have HRA := Lib.hid run_01f
  go_enter Tryz.func111, Tryz.ntmps111
  go_wp2_with (first
    | (go_at_call 112; refine (HRA.out _).mono ?_; clear HRA; rintro e w1 ⟨rfl, hb1⟩
       have r1 : w1.heap[w.heap.size]? = some (.cells #[.int .i64 0, .string ⟨#[]⟩, .int .i64 0] 147) := (hb1.block _ (by simp)).trans (heap_alloc_new _ _)
       have HB1 := Lib.hid hb1
       have HR1 := Lib.hid r1
       have hs1 : w.heap.size < w1.heap.size := by have := hb1.size; simp at this; omega
       clear hb1 r1)
    | (go_at_call 112; refine (run_0t _).mono ?_; rintro e w2 ⟨rfl, hb2⟩
       have hs2 : w1.heap.size < w2.heap.size := by have := hb2.size; simp at this; omega
       have r1 : w2.heap[w.heap.size]? = some (.cells #[.int .i64 0, .string ⟨#[]⟩, .int .i64 0] 147) := (hb2.block _ (by simp; omega)).trans ((heap_alloc_old _ _ hs1).trans HR1.out)
       have r2 : w2.heap[w1.heap.size]? = some (.cells #[.int .i64 4, .string ⟨#[48, 49]⟩, .int .i64 0] 147) := (hb2.block _ (by simp)).trans (heap_alloc_new _ _)
       have a0 : ∀ i, w2.cell? ⟨w.heap.size, i, none⟩ = (#[Value.int .i64 0, .string ⟨#[]⟩, .int .i64 0])[i]? := fun i => cell_of_row w2 _ i _ _ _ r1
       have c0 : w2.cell? ⟨w.heap.size, 0, none⟩ = some (.int .i64 0) := a0 0
       have c1 : w2.cell? ⟨w.heap.size, 1, none⟩ = some (.string ⟨#[]⟩) := a0 1
       have c2 : w2.cell? ⟨w.heap.size, 2, none⟩ = some (.int .i64 0) := a0 2
       have f0 : ∀ i, w2.frozen? ⟨w.heap.size, i, none⟩ = false := fun i => frozen_of_row w2 _ i _ _ r1
       have b0 : ∀ i, w2.cell? ⟨w1.heap.size, i, none⟩ = (#[Value.int .i64 4, .string ⟨#[48, 49]⟩, .int .i64 0])[i]? := fun i => cell_of_row w2 _ i _ _ _ r2
       have d0 : w2.cell? ⟨w1.heap.size, 0, none⟩ = some (.int .i64 4) := b0 0
       have d1 : w2.cell? ⟨w1.heap.size, 1, none⟩ = some (.string ⟨#[48, 49]⟩) := b0 1
       have d2 : w2.cell? ⟨w1.heap.size, 2, none⟩ = some (.int .i64 0) := b0 2
       have hs3 : w.heap.size < w2.heap.size := by omega
       have e0 : ∀ o i, (w2.alloc o).cell? ⟨w.heap.size, i, none⟩ = (#[Value.int .i64 0, .string ⟨#[]⟩, .int .i64 0])[i]? := fun o i => cell_of_row _ _ i _ _ _ ((heap_alloc_old _ _ hs3).trans r1)
       have g0 : ∀ o, (w2.alloc o).cell? ⟨w.heap.size, 0, none⟩ = some (.int .i64 0) := fun o => e0 o 0
       have g1 : ∀ o, (w2.alloc o).cell? ⟨w.heap.size, 1, none⟩ = some (.string ⟨#[]⟩) := fun o => e0 o 1
       have g2 : ∀ o, (w2.alloc o).cell? ⟨w.heap.size, 2, none⟩ = some (.int .i64 0) := fun o => e0 o 2
       have g3 : ∀ o i, (w2.alloc o).frozen? ⟨w.heap.size, i, none⟩ = false := fun o i => frozen_of_row _ _ i _ _ ((heap_alloc_old _ _ hs3).trans r1)
       have e1 : ∀ o i, (w2.alloc o).cell? ⟨w1.heap.size, i, none⟩ = (#[Value.int .i64 4, .string ⟨#[48, 49]⟩, .int .i64 0])[i]? := fun o i => cell_of_row _ _ i _ _ _ ((heap_alloc_old _ _ hs2).trans r2)
       have j0 : ∀ o, (w2.alloc o).cell? ⟨w1.heap.size, 0, none⟩ = some (.int .i64 4) := fun o => e1 o 0
       have j1 : ∀ o, (w2.alloc o).cell? ⟨w1.heap.size, 1, none⟩ = some (.string ⟨#[48, 49]⟩) := fun o => e1 o 1
       have j2 : ∀ o, (w2.alloc o).cell? ⟨w1.heap.size, 2, none⟩ = some (.int .i64 0) := fun o => e1 o 2
       clear e0 e1
       have HB2 := Lib.hid hb2
       have HR1 := Lib.hid r1
       have HR2 := Lib.hid r2
       clear hb2 r1 r2 a0 b0))
  go_region_with (go_at_call 98; refine (lexWrong_any _ _ _).mono ?_; rintro e w' ⟨rfl, rfl⟩)
  all_goals go_wp2
  all_goals
    have hrow := heap_setCell_same _ w.heap.size 2 _ _ (.int .i64 0) (heap_setCell_same _ w.heap.size 1 _ _ (.string ⟨#[48, 49]⟩) (heap_setCell_same w2 w.heap.size 0 _ _ (.int .i64 4) HR1.out))
    refine bodyPost_ret (number_result _ _ w.heap.size _ _ _ _ _ rfl rfl rfl ((heap_alloc_old _ _ (by simp; omega)).trans hrow)) rfl ⟨_, rfl, ?_, ?_⟩
    · omega
    · exact (((((((((Below.refl w.heap.size w).alloc (Nat.le_refl _) _).trans (HB1.out.mono (by simp))).alloc (by omega) _).trans (HB2.out.mono (by simp; omega))).setCell (p := ⟨w.heap.size, 0, none⟩) (Nat.le_refl _) _).setCell (p := ⟨w.heap.size, 1, none⟩) (Nat.le_refl _) _).setCell (p := ⟨w.heap.size, 2, none⟩) (Nat.le_refl _) _).alloc (by simp; omega) _).drew

theorem one_result (tmps : Array Value) (W : World) (g : Nat) (v0 v1 v2 x y : Value) (h4 : tmps.getD 4 undef = .pointer (some ⟨g, 0, none⟩)) (h5 : tmps.getD 5 undef = x) (h6 : tmps.getD 6 undef = y) {fr : Nat × Nat} (hrow : W.heap[g]? = some (.cells #[v0, v1, v2] 147 fr)) :
    (results Tryz.f102 tmps).run Tryz.prog W = .ok (.tuple #[.agg #[v0, v1, v2], x, y]) W := by
  have h4' : tmps[4]?.getD undef = .pointer (some ⟨g, 0, none⟩) := by simpa using h4
  have h5' : tmps[5]?.getD undef = x := by simpa using h5
  have h6' : tmps[6]?.getD undef = y := by simpa using h6
  have e0 : W.cell? ⟨g, 0, none⟩ = some v0 := cell_of_row W _ 0 _ _ _ hrow
  have e1 : W.cell? ⟨g, 1, none⟩ = some v1 := cell_of_row W _ 1 _ _ _ hrow
  have e2 : W.cell? ⟨g, 2, none⟩ = some v2 := cell_of_row W _ 2 _ _ _ hrow
  simp [results, Tryz.f102, go_sem, h4', h5', h6', e0, e1, e2]

set_option maxRecDepth 100000 in
set_option maxHeartbeats 1000000 in
theorem one_01 (w : World) : Calls Tryz.prog 102 #[.string ⟨#[48, 49]⟩, .int .i64 0] w fun e w' =>
    ∃ b, e = .returned (.tuple #[.agg #[.int .i64 4, .string ⟨#[48, 49]⟩, .int .i64 0], .int .i64 0, .pointer (some ⟨b, 0, none⟩)]) ∧ w.heap.size ≤ b ∧ Below w.heap.size w w' := by
  have hd : digitB 48 = true := by decide
  have hb0 : ∀ h, ((⟨#[48, 49]⟩ : ByteArray)[0]'h).toNat = 48 := fun _ => rfl
  have hw : wrap32 48 = 48 := by simp [wrap32]
  go_enter Tryz.func102, Tryz.ntmps102
  go_wp2_with (first
    | (go_at_call 95; refine (digit_any _ _).mono ?_; rintro e w' ⟨rfl, rfl⟩)
    | (go_at_call 111; refine (number_01 _).mono ?_; rintro e w1 ⟨b, rfl, hb1, hbl⟩
       have r1 : w1.heap[w.heap.size]? = some (.cells #[.int .i64 0, .string ⟨#[]⟩, .int .i64 0] 147) := (hbl.block _ (by simp)).trans (heap_alloc_new _ _)
       have a0 : ∀ i, w1.cell? ⟨w.heap.size, i, none⟩ = (#[Value.int .i64 0, .string ⟨#[]⟩, .int .i64 0])[i]? := fun i => cell_of_row w1 _ i _ _ _ r1
       have c0 : w1.cell? ⟨w.heap.size, 0, none⟩ = some (.int .i64 0) := a0 0
       have c1 : w1.cell? ⟨w.heap.size, 1, none⟩ = some (.string ⟨#[]⟩) := a0 1
       have c2 : w1.cell? ⟨w.heap.size, 2, none⟩ = some (.int .i64 0) := a0 2
       have f0 : ∀ i, w1.frozen? ⟨w.heap.size, i, none⟩ = false := fun i => frozen_of_row w1 _ i _ _ r1
       have HBL := Lib.hid hbl
       have HB1 := Lib.hid hb1
       have HR1 := Lib.hid r1
       clear hbl hb1 r1 a0))
  have hrow := heap_setCell_same _ w.heap.size 2 _ _ (.int .i64 0) (heap_setCell_same _ w.heap.size 1 _ _ (.string ⟨#[48, 49]⟩) (heap_setCell_same w1 w.heap.size 0 _ _ (.int .i64 4) HR1.out))
  refine bodyPost_ret (one_result _ _ w.heap.size _ _ _ _ _ rfl rfl rfl hrow) rfl ⟨_, rfl, ?_, ?_⟩
  · have := HB1.out; simp at this; omega
  · exact (((((Below.refl w.heap.size w).alloc (Nat.le_refl _) _).trans (HBL.out.mono (by simp))).setCell (p := ⟨w.heap.size, 0, none⟩) (Nat.le_refl _) _).setCell (p := ⟨w.heap.size, 1, none⟩) (Nat.le_refl _) _).setCell (p := ⟨w.heap.size, 2, none⟩) (Nat.le_refl _) _

theorem pfx_01 (w : World) : Calls Tryz.prog 100 #[.string ⟨#[48, 49]⟩, .string ⟨#[47, 47]⟩] w fun e w' => e = .returned (.bool false) ∧ w' = w := by
  refine (Go.Proofs.Tryz.strings_HasPrefix ⟨#[48, 49]⟩ ⟨#[47, 47]⟩ w).mono ?_
  rintro e w1 ⟨rfl, rfl⟩
  have hp : Lib.hasPrefix (⟨#[48, 49]⟩ : ByteArray).data.toList (⟨#[47, 47]⟩ : ByteArray).data.toList = false := by decide
  rw [hp]
  exact ⟨rfl, rfl⟩

set_option maxRecDepth 100000 in
set_option maxHeartbeats 1000000 in
theorem Scan_01 (w : World) (h : Gl w) : Calls Tryz.prog 88 #[.string ⟨#[48, 49]⟩] w fun e w' =>
    ∃ b, e = .returned (.tuple #[.slice none 0 0, .iface 55 (.pointer (some ⟨b, 0, none⟩))]) ∧ Below w.heap.size w w' := by
  have x02 : (⟨#[48, 49]⟩ : ByteArray).extract 0 2 = ⟨#[48, 49]⟩ := by decide
  have hb0 : ∀ h, ((⟨#[48, 49]⟩ : ByteArray)[0]'h).toNat = 48 := fun _ => rfl
  go_enter Tryz.func88, Tryz.ntmps88
  go_wp2
  go_loopw [4, 5] (fun l i wr => l = .slice none 0 0 ∧ i = .int .i64 0 ∧ wr = w) (fun _ _ _ => 0)
  case atStart => exact ⟨rfl, rfl, rfl⟩
  case round =>
    obtain ⟨rfl, rfl, rfl⟩ := hrel
    go_wp2_with (first
      | (go_at_call 100; refine (pfx_01 _).mono ?_; rintro e w1 ⟨rfl, rfl⟩)
      | (go_at_call 102; refine (one_01 _).mono ?_; rintro e w1 ⟨b, rfl, hb1, hbl⟩))
    go_ret2
    exact ⟨b, rfl, (hbl.mono (Nat.le_refl _)).alloc hbl.size _⟩

set_option maxRecDepth 100000 in
set_option maxHeartbeats 1000000 in
theorem ints_01 (w : World) (h : Gl w) : Calls Tryz.prog 64 #[.string ⟨#[48, 49]⟩] w fun e w' => e = .returned (.bool false) ∧ Below w.heap.size w w' := by
  have HS := Lib.hid (Scan_01 w h)
  clear h
  go_enter Tryz.func64, Tryz.ntmps64
  go_wp2_with (go_at_call 88; refine HS.out.mono ?_; rintro e w1 ⟨b, rfl, hb⟩)
  go_ret
  exact ⟨rfl, hb⟩


end Go.Proofs.YtjpmghgmmeemkaaGreatDoor
