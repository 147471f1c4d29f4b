/- tree.isName, among, nameText, number, text: what each returns, at every text. -/
import Derived.Test.YtjpmghgmmeemkaaGreatDoorLex1
import Derived.Test.YtjpmghgmmeemkaaGreatDoorShelf
namespace Go.Proofs.YtjpmghgmmeemkaaGreatDoor
open Go.RowKit

def isNameB (s : ByteArray) : Bool := s.toList != [95] && nameB s
def amongB (s l : ByteArray) : Bool := s.toList != [] && Lib.contains (32 :: (l.data.toList ++ [32])) (32 :: (s.data.toList ++ [32]))

theorem isName_any (s : ByteArray) (w : World) (h : Gl w) (hs : s.size ≤ 140737488351232) : Calls Tryz.prog 61 #[.string s] w fun e w' => e = .returned (.bool (isNameB s)) ∧ Below w.heap.size w w' := by
  have H := Lib.hid h
  have HF : Hid (isNameB s = (s.toList != [95] && nameB s)) := rfl
  clear h
  go_enter Tryz.func61, Tryz.ntmps61
  go_wp2_with (go_at_call 86; refine (Name_any s _ H.out hs).mono ?_; rintro e w' ⟨rfl, hb⟩)
  all_goals
    go_ret
    refine ⟨ret_bool (by rw [HF.out]; first | (simp_all; done) | (simp [*]; done) | rfl), ?_⟩
    first | exact hb | exact Below.refl _ _

theorem cat_data (a b : ByteArray) : (a ++ b).data.toList = a.data.toList ++ b.data.toList := by simp

set_option maxRecDepth 100000 in
theorem among_any (s l : ByteArray) (w : World) (h : Gl w) (hs : s.size ≤ 140737488351232) (hl : l.size < 1000000) : Calls Tryz.prog 63 #[.string s, .string l] w fun e w' => e = .returned (.bool (amongB s l)) ∧ w' = w := by
  obtain ⟨_, ⟨m, hm⟩, _⟩ := h
  have HM := Lib.hid hm
  clear hm
  have HF : Hid (amongB s l = (s.toList != [] && Lib.contains (32 :: (l.data.toList ++ [32])) (32 :: (s.data.toList ++ [32])))) := rfl
  go_enter Tryz.func63, Tryz.ntmps63
  go_wp2_with (go_at_call 87; refine (Go.Proofs.Tryz.strings_Contains _ _ m _ ?_ HM.out).mono ?_; rotate_left; rintro e w' ⟨rfl, rfl⟩; rotate_left)
  · go_ret
    exact ⟨ret_bool (by rw [HF.out]; first | (simp_all; done) | (simp [*]; done) | rfl), rfl⟩
  · rw [ByteArray.size_append, ByteArray.size_append, show (⟨#[32]⟩ : ByteArray).size = 1 from rfl]; omega
  · go_ret
    exact ⟨ret_bool (by rw [HF.out]; first | (simp_all; done) | (cases s.toList <;> rfl)), rfl⟩

def numberB (k n : Int) : Bool := n == 0 || (k == 11 && (decide (0 < n) && decide (n ≤ 12)))

theorem number_any (k : Int) (s : ByteArray) (n a : Int) (A : Option Addr) (len cap : Nat) (w : World) :
    Calls Tryz.prog 45 #[.agg #[.int .i64 k, .string s, .int .i64 n, .int .i64 a, .slice A len cap]] w fun e w' => e = .returned (.bool (numberB k n)) ∧ Below w.heap.size w w' := by
  obtain ⟨r, HF⟩ : ∃ r, Hid (numberB k n = r) := ⟨_, rfl⟩
  rw [HF.out]
  go_enter Tryz.func45, Tryz.ntmps45
  go_wp2
  all_goals
    go_ret
    exact ⟨ret_bool (by rw [← HF.out, numberB]; first | (simp [*]; done) | (simp [*]; omega) | (rw [Bool.eq_iff_iff]; simp; omega) | (rw [Bool.eq_iff_iff]; simp [*]; omega)), (Below.refl _ _).alloc (Nat.le_refl _) _⟩

def nameTextB (s : ByteArray) (q : Int) : Bool :=
  if isNameB s then true else if q = 0 then amongB s ⟨#[116, 114, 117, 101, 32, 102, 97, 108, 115, 101, 32, 110, 105, 108, 32, 109, 97, 112, 32, 97, 110, 121, 32, 102, 117, 110, 99]⟩ else if q = 11 ∨ q = 12 then amongB s ⟨#[116, 114, 117, 101, 32, 102, 97, 108, 115, 101, 32, 110, 105, 108]⟩ else if q = 18 then amongB s ⟨#[116, 114, 117, 101, 32, 102, 97, 108, 115, 101, 32, 110, 105, 108, 32, 109, 97, 112]⟩ else if q = 5 ∨ q = 25 then amongB s ⟨#[109, 97, 112, 32, 102, 117, 110, 99]⟩ else if q = 24 then amongB s ⟨#[109, 97, 112, 32, 102, 117, 110, 99, 32, 97, 110, 121]⟩ else if q = 23 then amongB s ⟨#[109, 97, 112, 32, 102, 117, 110, 99, 32, 97, 110, 121, 32, 110, 105, 108]⟩ else false


set_option maxRecDepth 100000 in
theorem nameText_any (s : ByteArray) (q : Int) (w : World) (h : Gl w) (hs : s.size ≤ 140737488351232) : Calls Tryz.prog 62 #[.string s, .int .i64 q] w fun e w' => e = .returned (.bool (nameTextB s q)) ∧ Below w.heap.size w w' := by
  have H := Lib.hid h
  obtain ⟨r, HF⟩ : ∃ r, Hid (nameTextB s q = r) := ⟨_, rfl⟩
  rw [HF.out]
  clear h
  go_enter Tryz.func62, Tryz.ntmps62
  go_wp2_with (first
    | (go_at_call 61; refine (isName_any s _ H.out hs).mono ?_; rintro e w' ⟨rfl, hb⟩)
    | (go_at_call 63; refine (among_any s _ _ (H.out.up hb) hs (by decide)).mono ?_; rintro e w'' ⟨rfl, rfl⟩))
  all_goals
    go_ret
    refine ⟨ret_bool ?_, hb⟩
    rw [← HF.out, nameTextB]
    first | (simp [*]; done) | (simp_all; done)

def textB (iB fB : ByteArray → Bool) (k : Int) (s : ByteArray) (q : Int) : Bool :=
  if k = 2 ∨ k = 3 ∨ k = 4 ∨ k = 5 ∨ k = 6 ∨ k = 7 ∨ k = 8 ∨ k = 9 ∨ k = 10 ∨ k = 11 ∨ k = 12 ∨ k = 18 ∨ k = 41 ∨ k = 45 then isNameB s
  else if k = 14 then nameTextB s q
  else if k = 23 ∨ k = 24 ∨ k = 25 ∨ k = 26 ∨ k = 31 ∨ k = 32 then s.toList == [] || isNameB s
  else if k = 20 then amongB s ⟨#[61, 32, 43, 61, 32, 45, 61, 32, 42, 61, 32, 47, 61, 32, 37, 61, 32, 38, 61, 32, 124, 61, 32, 94, 61, 32, 60, 60, 61, 32, 62, 62, 61]⟩
  else if k = 34 then amongB s ⟨#[43, 43, 32, 45, 45]⟩
  else if k = 35 then iB s
  else if k = 36 then fB s
  else if k = 37 then decide ((s.size : Int) ≤ 65536)
  else if k = 50 then amongB s ⟨#[45, 32, 33, 32, 94, 32, 42]⟩
  else if k = 51 then amongB s ⟨#[124, 124, 32, 38, 38, 32, 61, 61, 32, 33, 61, 32, 60, 32, 60, 61, 32, 62, 32, 62, 61, 32, 43, 32, 45, 32, 124, 32, 94, 32, 42, 32, 47, 32, 37, 32, 38, 32, 60, 60, 32, 62, 62]⟩
  else if k = 40 then (if q = 27 ∨ (q = 0 ∧ ¬ s.toList = []) then isNameB s else s.toList == [])
  else s.toList == []


set_option maxRecDepth 100000 in
set_option maxHeartbeats 4000000 in
theorem text_any (iB fB : ByteArray → Bool) (k : Int) (s : ByteArray) (n a : Int) (A : Option Addr) (len cap : Nat) (q : Int) (w : World) (h : Gl w) (hs : s.size ≤ 140737488351232)
    (hI : k = 35 → ∀ w, Gl w → Calls Tryz.prog 64 #[.string s] w fun e w' => e = .returned (.bool (iB s)) ∧ Below w.heap.size w w')
    (hF : k = 36 → ∀ w, Gl w → Calls Tryz.prog 65 #[.string s] w fun e w' => e = .returned (.bool (fB s)) ∧ Below w.heap.size w w') :
    Calls Tryz.prog 44 #[.agg #[.int .i64 k, .string s, .int .i64 n, .int .i64 a, .slice A len cap], .int .i64 q] w fun e w' => e = .returned (.bool (textB iB fB k s q)) ∧ Below w.heap.size w w' := by
  have H := Lib.hid h
  have HI := Lib.hid hI
  have HF' := Lib.hid hF
  obtain ⟨r, HF⟩ : ∃ r, Hid (textB iB fB k s q = r) := ⟨_, rfl⟩
  rw [HF.out]
  clear h hI hF
  have hb0 : ∀ v t, Below w.heap.size w (w.alloc (.cells v t)) := fun v t => (Below.refl _ _).alloc (Nat.le_refl _) _
  have HB := Lib.hid hb0
  clear hb0
  go_enter Tryz.func44, Tryz.ntmps44
  go_wp2_with (first
    | (go_at_call 61; refine (isName_any s _ (H.out.up (HB.out _ _)) hs).mono ?_; rintro e w' ⟨rfl, hb⟩)
    | (go_at_call 62; refine (nameText_any s q _ (H.out.up (HB.out _ _)) hs).mono ?_; rintro e w' ⟨rfl, hb⟩)
    | (go_at_call 64; have hk : k = 35 := (by first | assumption | exact eq_of_beq (by assumption)); refine (HI.out hk _ (H.out.up (HB.out _ _))).mono ?_; rintro e w' ⟨rfl, hb⟩)
    | (go_at_call 65; have hk : k = 36 := (by first | assumption | exact eq_of_beq (by assumption)); refine (HF'.out hk _ (H.out.up (HB.out _ _))).mono ?_; rintro e w' ⟨rfl, hb⟩)
    | (go_at_call 63; refine (among_any s _ _ (H.out.up (HB.out _ _)) hs (by decide)).mono ?_; rintro e w'' ⟨rfl, rfl⟩))
  all_goals
    go_ret
    refine ⟨ret_bool ?_, ?_⟩
    · rw [← HF.out, textB]
      first | (simp [*]; done) | (simp_all; done)
    · first
        | exact HB.out _ _
        | exact (HB.out _ _).trans (hb.mono (by simp))

end Go.Proofs.YtjpmghgmmeemkaaGreatDoor
