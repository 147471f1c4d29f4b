/- lex.run at every text; lex.wrong; the text 01: lex.number, lex.one, lex.Scan, tree.ints. -/
import Derived.Test.YtjpmghgmmeemkaaGreatDoorLex1
namespace Go.Proofs.YtjpmghgmmeemkaaGreatDoor
open Go.RowKit

def runP (letters : Bool) (c : Int) : Bool := digitB c || (letters && letterB c)
def runN (letters : Bool) : List UInt8 → Nat
  | [] => 0
  | c :: r => if runP letters c.toNat = true then runN letters r + 1 else 0
theorem runN_go {letters : Bool} {c : UInt8} {r : List UInt8} (h : runP letters c.toNat = true) : runN letters (c :: r) = runN letters r + 1 := by rw [runN, if_pos h]
theorem runN_stop {letters : Bool} {c : UInt8} {r : List UInt8} (h : runP letters c.toNat = false) : runN letters (c :: r) = 0 := by rw [runN, if_neg (by simp [h])]

set_option maxRecDepth 100000 in
set_option maxHeartbeats 1000000 in
theorem run_true (s : ByteArray) (w : World) : Calls Tryz.prog 112 #[.string s, .bool true] w fun e w' => e = .returned (.int .i64 (runN true s.data.toList)) ∧ Below w.heap.size w w' := by
  obtain ⟨N, HN⟩ : ∃ N, Hid (runN true s.data.toList = N) := ⟨_, rfl⟩
  rw [HN.out]
  go_enter Tryz.func112, Tryz.ntmps112
  go_wp2
  go_loopw [4] (fun v wr => v = .int .i64 0 ∧ ∃ pos : Nat, wr = w.iter s pos ∧ pos ≤ s.size ∧ Hid (N = pos + runN true (s.data.toList.drop pos))) (fun _ wr => s.size - wr.iterPos w.heap.size)
  case atStart => exact ⟨rfl, 0, rfl, Nat.zero_le _, by show _ = _; rw [← HN.out]; simp⟩
  case round =>
  obtain ⟨rfl, pos, rfl, hle, HI⟩ := hrel
  by_cases hp : pos < s.size
  · have hd := Lib.hid (drop_byte s pos hp)
    by_cases ha : (s[pos]'hp).toNat < 128
    · have hnx := fun ty => run_next_ascii (P := Tryz.prog) w s pos ty hp ha
      obtain ⟨c, HC⟩ : ∃ c : Nat, Hid ((s[pos]'hp).toNat = c) := ⟨_, rfl⟩
      rw [HC.out] at hnx
      cases hdi : digitB c <;> cases hle : letterB c
      all_goals
        go_wp2_with (first
          | (go_at_call 94; refine (letter_any _ _).mono ?_; rintro e w' ⟨rfl, rfl⟩)
          | (go_at_call 95; refine (digit_any _ _).mono ?_; rintro e w' ⟨rfl, rfl⟩))
        first
        | (go_roundw
           case rel =>
             refine ⟨by trivial, pos + 1, rfl, by omega, ?_⟩
             show _ = _
             rw [HI.out, hd.out, runN_go (by rw [HC.out]; simp [runP, hdi, hle])]
             omega
           case measure => simp; omega)
        | (go_ret
           refine ⟨ret_int ?_, (Below.refl _ _).alloc (Nat.le_refl _) _⟩
           rw [HI.out, hd.out, runN_stop (by rw [HC.out]; simp [runP, hdi, hle])]
           simp)
    · have hnx := fun ty => run_next_any (P := Tryz.prog) w s pos ty hp
      obtain ⟨h1, h2⟩ := decode_high s pos hp (by omega)
      have l1 := letter_high (c := ((Utf8.decode s pos).1 : Int)) (by omega)
      have l2 := digit_high (c := ((Utf8.decode s pos).1 : Int)) (by omega)
      go_wp2_with (first
          | (go_at_call 94; refine (letter_any _ _).mono ?_; rintro e w' ⟨rfl, rfl⟩)
          | (go_at_call 95; refine (digit_any _ _).mono ?_; rintro e w' ⟨rfl, rfl⟩))
      go_ret
      refine ⟨ret_int ?_, (Below.refl _ _).alloc (Nat.le_refl _) _⟩
      rw [HI.out, hd.out, runN_stop (by simp [runP, letter_high (c := ((s[pos]'hp).toNat : Int)) (by omega), digit_high (c := ((s[pos]'hp).toNat : Int)) (by omega)])]
      simp
  · have hnx := fun ty => run_next_end (P := Tryz.prog) w s pos ty hp
    obtain rfl : pos = s.size := by omega
    go_wp2
    go_ret
    refine ⟨ret_int ?_, (Below.refl _ _).alloc (Nat.le_refl _) _⟩
    rw [HI.out, List.drop_of_length_le (by simp)]
    simp [runN]

set_option maxRecDepth 100000 in
set_option maxHeartbeats 1000000 in
theorem run_false (s : ByteArray) (w : World) : Calls Tryz.prog 112 #[.string s, .bool false] w fun e w' => e = .returned (.int .i64 (runN false s.data.toList)) ∧ Below w.heap.size w w' := by
  obtain ⟨N, HN⟩ : ∃ N, Hid (runN false s.data.toList = N) := ⟨_, rfl⟩
  rw [HN.out]
  go_enter Tryz.func112, Tryz.ntmps112
  go_wp2
  go_loopw [4] (fun v wr => v = .int .i64 0 ∧ ∃ pos : Nat, wr = w.iter s pos ∧ pos ≤ s.size ∧ Hid (N = pos + runN false (s.data.toList.drop pos))) (fun _ wr => s.size - wr.iterPos w.heap.size)
  case atStart => exact ⟨rfl, 0, rfl, Nat.zero_le _, by show _ = _; rw [← HN.out]; simp⟩
  case round =>
  obtain ⟨rfl, pos, rfl, hle, HI⟩ := hrel
  by_cases hp : pos < s.size
  · have hd := Lib.hid (drop_byte s pos hp)
    by_cases ha : (s[pos]'hp).toNat < 128
    · have hnx := fun ty => run_next_ascii (P := Tryz.prog) w s pos ty hp ha
      obtain ⟨c, HC⟩ : ∃ c : Nat, Hid ((s[pos]'hp).toNat = c) := ⟨_, rfl⟩
      rw [HC.out] at hnx
      cases hdi : digitB c <;> cases hle : letterB c
      all_goals
        go_wp2_with (first
          | (go_at_call 94; refine (letter_any _ _).mono ?_; rintro e w' ⟨rfl, rfl⟩)
          | (go_at_call 95; refine (digit_any _ _).mono ?_; rintro e w' ⟨rfl, rfl⟩))
        first
        | (go_roundw
           case rel =>
             refine ⟨by trivial, pos + 1, rfl, by omega, ?_⟩
             show _ = _
             rw [HI.out, hd.out, runN_go (by rw [HC.out]; simp [runP, hdi, hle])]
             omega
           case measure => simp; omega)
        | (go_ret
           refine ⟨ret_int ?_, (Below.refl _ _).alloc (Nat.le_refl _) _⟩
           rw [HI.out, hd.out, runN_stop (by rw [HC.out]; simp [runP, hdi, hle])]
           simp)
    · have hnx := fun ty => run_next_any (P := Tryz.prog) w s pos ty hp
      obtain ⟨h1, h2⟩ := decode_high s pos hp (by omega)
      have l1 := letter_high (c := ((Utf8.decode s pos).1 : Int)) (by omega)
      have l2 := digit_high (c := ((Utf8.decode s pos).1 : Int)) (by omega)
      go_wp2_with (first
          | (go_at_call 94; refine (letter_any _ _).mono ?_; rintro e w' ⟨rfl, rfl⟩)
          | (go_at_call 95; refine (digit_any _ _).mono ?_; rintro e w' ⟨rfl, rfl⟩))
      go_ret
      refine ⟨ret_int ?_, (Below.refl _ _).alloc (Nat.le_refl _) _⟩
      rw [HI.out, hd.out, runN_stop (by simp [runP, letter_high (c := ((s[pos]'hp).toNat : Int)) (by omega), digit_high (c := ((s[pos]'hp).toNat : Int)) (by omega)])]
      simp
  · have hnx := fun ty => run_next_end (P := Tryz.prog) w s pos ty hp
    obtain rfl : pos = s.size := by omega
    go_wp2
    go_ret
    refine ⟨ret_int ?_, (Below.refl _ _).alloc (Nat.le_refl _) _⟩
    rw [HI.out, List.drop_of_length_le (by simp)]
    simp [runN]

theorem run_any (s : ByteArray) (letters : Bool) (w : World) : Calls Tryz.prog 112 #[.string s, .bool letters] w fun e w' => e = .returned (.int .i64 (runN letters s.data.toList)) ∧ Below w.heap.size w w' := by
  cases letters
  · exact run_false s w
  · exact run_true s w

theorem lexWrong_any (c a : Int) (w : World) : Calls Tryz.prog 98 #[.int .i64 c, .int .i64 a] w fun e w' => e = .returned (.pointer (some ⟨w.heap.size, 0, none⟩)) ∧ w' = w.alloc (.cells #[.int .i64 c, .int .i64 a, .string ⟨#[]⟩] 31) := by
  go_enter Tryz.func98, Tryz.ntmps98
  go_wp2
  go_ret
  exact ⟨rfl, rfl⟩

end Go.Proofs.YtjpmghgmmeemkaaGreatDoor
