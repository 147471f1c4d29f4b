/- tree.isName, among, nameText, number, text: what each returns, at every text. tree.wrong, fixed, row, limited, typed, statement, shaped: what each returns, at every node. -/
import Derived.Test.YtokhfhibdeneeaaGreatDoorShelf
import Derived.Test.YtokhfhibdeneeaaGreatDoorMLex1
namespace Go.Proofs.YtokhfhibdeneeaaGreatDoor
open Go.RowKit

def isNameB (s : ByteArray) : Bool := s.toList != [95] && nameB s
def amongB (s l : ByteArray) : Bool := s.toList != [] && Lib.contains (32 :: (l.data.toList ++ [32])) (32 :: (s.data.toList ++ [32]))

theorem isName_any (s : ByteArray) (w : World) (h : Gl w) (hs : s.size ≤ 140737488351232) : Calls Tryz.prog 112 #[.string s] w fun e w' => e = .returned (.bool (isNameB s)) ∧ Below w.heap.size w w' := by
  have H := Lib.hid h
  have HF : Hid (isNameB s = (s.toList != [95] && nameB s)) := rfl
  clear h
  go_enter Tryz.func112, Tryz.ntmps112
  go_wp2_with (go_at_call 174; refine (Name_any s _ H.out hs).mono ?_; rintro e w' ⟨rfl, hb⟩)
  all_goals
    go_ret
    refine ⟨ret_bool (by rw [HF.out]; first | (simp_all; done) | (simp [*]; done) | rfl), ?_⟩
    first | exact hb | exact Below.refl _ _

set_option maxRecDepth 100000 in
theorem among_any (s l : ByteArray) (w : World) (h : Gl w) (hs : s.size ≤ 140737488351232) (hl : l.size < 1000000) : Calls Tryz.prog 114 #[.string s, .string l] w fun e w' => e = .returned (.bool (amongB s l)) ∧ w' = w := by
  obtain ⟨_, ⟨m, hm⟩, _⟩ := h
  have HM := Lib.hid hm
  clear hm
  have HF : Hid (amongB s l = (s.toList != [] && Lib.contains (32 :: (l.data.toList ++ [32])) (32 :: (s.data.toList ++ [32])))) := rfl
  go_enter Tryz.func114, Tryz.ntmps114
  go_wp2_with (go_at_call 54; refine (Go.Proofs.Tryz.strings_Contains _ _ m _ ?_ HM.out).mono ?_; rotate_left; rintro e w' ⟨rfl, rfl⟩; rotate_left)
  · go_ret
    exact ⟨ret_bool (by rw [HF.out]; first | (simp_all; done) | (simp [*]; done) | rfl), rfl⟩
  · rw [ByteArray.size_append, ByteArray.size_append, show (⟨#[32]⟩ : ByteArray).size = 1 from rfl]; omega
  · go_ret
    exact ⟨ret_bool (by rw [HF.out]; first | (simp_all; done) | (cases s.toList <;> rfl)), rfl⟩

def numberB (k n : Int) : Bool := n == 0 || (k == 11 && (decide (0 < n) && decide (n ≤ 12)))

theorem number_any (k : Int) (s : ByteArray) (n a : Int) (A : Option Addr) (len cap : Nat) (w : World) :
    Calls Tryz.prog 68 #[.agg #[.int .i64 k, .string s, .int .i64 n, .int .i64 a, .slice A len cap]] w fun e w' => e = .returned (.bool (numberB k n)) ∧ Below w.heap.size w w' := by
  obtain ⟨r, HF⟩ : ∃ r, Hid (numberB k n = r) := ⟨_, rfl⟩
  rw [HF.out]
  go_enter Tryz.func68, Tryz.ntmps68
  go_wp2
  all_goals
    go_ret
    exact ⟨ret_bool (by rw [← HF.out, numberB]; first | (simp [*]; done) | (simp [*]; omega) | (rw [Bool.eq_iff_iff]; simp; omega) | (rw [Bool.eq_iff_iff]; simp [*]; omega)), (Below.refl _ _).alloc (Nat.le_refl _) _⟩

def nameTextB (s : ByteArray) (q : Int) : Bool :=
  if isNameB s then true else if q = 0 then amongB s ⟨#[116, 114, 117, 101, 32, 102, 97, 108, 115, 101, 32, 110, 105, 108, 32, 109, 97, 112, 32, 97, 110, 121, 32, 102, 117, 110, 99]⟩ else if q = 11 ∨ q = 12 then amongB s ⟨#[116, 114, 117, 101, 32, 102, 97, 108, 115, 101, 32, 110, 105, 108]⟩ else if q = 18 then amongB s ⟨#[116, 114, 117, 101, 32, 102, 97, 108, 115, 101, 32, 110, 105, 108, 32, 109, 97, 112]⟩ else if q = 5 ∨ q = 25 then amongB s ⟨#[109, 97, 112, 32, 102, 117, 110, 99]⟩ else if q = 24 then amongB s ⟨#[109, 97, 112, 32, 102, 117, 110, 99, 32, 97, 110, 121]⟩ else if q = 23 then amongB s ⟨#[109, 97, 112, 32, 102, 117, 110, 99, 32, 97, 110, 121, 32, 110, 105, 108]⟩ else false


set_option maxRecDepth 100000 in
theorem nameText_any (s : ByteArray) (q : Int) (w : World) (h : Gl w) (hs : s.size ≤ 140737488351232) : Calls Tryz.prog 113 #[.string s, .int .i64 q] w fun e w' => e = .returned (.bool (nameTextB s q)) ∧ Below w.heap.size w w' := by
  have H := Lib.hid h
  obtain ⟨r, HF⟩ : ∃ r, Hid (nameTextB s q = r) := ⟨_, rfl⟩
  rw [HF.out]
  clear h
  go_enter Tryz.func113, Tryz.ntmps113
  go_wp2_with (first
    | (go_at_call 112; refine (isName_any s _ H.out hs).mono ?_; rintro e w' ⟨rfl, hb⟩)
    | (go_at_call 114; refine (among_any s _ _ (H.out.up hb) hs (by decide)).mono ?_; rintro e w'' ⟨rfl, rfl⟩))
  all_goals
    go_ret
    refine ⟨ret_bool ?_, hb⟩
    rw [← HF.out, nameTextB]
    first | (simp [*]; done) | (simp_all; done)

def textB (iB fB : ByteArray → Bool) (k : Int) (s : ByteArray) (q : Int) : Bool :=
  if k = 2 ∨ k = 3 ∨ k = 4 ∨ k = 5 ∨ k = 6 ∨ k = 7 ∨ k = 8 ∨ k = 9 ∨ k = 10 ∨ k = 11 ∨ k = 12 ∨ k = 18 ∨ k = 41 ∨ k = 45 then isNameB s
  else if k = 14 then nameTextB s q
  else if k = 23 ∨ k = 24 ∨ k = 25 ∨ k = 26 ∨ k = 31 ∨ k = 32 then s.toList == [] || isNameB s
  else if k = 20 then amongB s ⟨#[61, 32, 43, 61, 32, 45, 61, 32, 42, 61, 32, 47, 61, 32, 37, 61, 32, 38, 61, 32, 124, 61, 32, 94, 61, 32, 60, 60, 61, 32, 62, 62, 61]⟩
  else if k = 34 then amongB s ⟨#[43, 43, 32, 45, 45]⟩
  else if k = 35 then iB s
  else if k = 36 then fB s
  else if k = 37 then decide ((s.size : Int) ≤ 65536)
  else if k = 50 then amongB s ⟨#[45, 32, 33, 32, 94, 32, 42]⟩
  else if k = 51 then amongB s ⟨#[124, 124, 32, 38, 38, 32, 61, 61, 32, 33, 61, 32, 60, 32, 60, 61, 32, 62, 32, 62, 61, 32, 43, 32, 45, 32, 124, 32, 94, 32, 42, 32, 47, 32, 37, 32, 38, 32, 60, 60, 32, 62, 62]⟩
  else if k = 40 then (if q = 27 ∨ (q = 0 ∧ ¬ s.toList = []) then isNameB s else s.toList == [])
  else s.toList == []


set_option maxRecDepth 100000 in
set_option maxHeartbeats 4000000 in
theorem text_any (iB fB : ByteArray → Bool) (k : Int) (s : ByteArray) (n a : Int) (A : Option Addr) (len cap : Nat) (q : Int) (w : World) (h : Gl w) (hs : s.size ≤ 140737488351232)
    (hI : k = 35 → ∀ w, Gl w → Calls Tryz.prog 115 #[.string s] w fun e w' => e = .returned (.bool (iB s)) ∧ Below w.heap.size w w')
    (hF : k = 36 → ∀ w, Gl w → Calls Tryz.prog 116 #[.string s] w fun e w' => e = .returned (.bool (fB s)) ∧ Below w.heap.size w w') :
    Calls Tryz.prog 67 #[.agg #[.int .i64 k, .string s, .int .i64 n, .int .i64 a, .slice A len cap], .int .i64 q] w fun e w' => e = .returned (.bool (textB iB fB k s q)) ∧ Below w.heap.size w w' := by
  have H := Lib.hid h
  have HI := Lib.hid hI
  have HF' := Lib.hid hF
  obtain ⟨r, HF⟩ : ∃ r, Hid (textB iB fB k s q = r) := ⟨_, rfl⟩
  rw [HF.out]
  clear h hI hF
  have hb0 : ∀ v t, Below w.heap.size w (w.alloc (.cells v t)) := fun v t => (Below.refl _ _).alloc (Nat.le_refl _) _
  have HB := Lib.hid hb0
  clear hb0
  go_enter Tryz.func67, Tryz.ntmps67
  go_wp2_with (first
    | (go_at_call 112; refine (isName_any s _ (H.out.up (HB.out _ _)) hs).mono ?_; rintro e w' ⟨rfl, hb⟩)
    | (go_at_call 113; refine (nameText_any s q _ (H.out.up (HB.out _ _)) hs).mono ?_; rintro e w' ⟨rfl, hb⟩)
    | (go_at_call 115; have hk : k = 35 := (by first | assumption | exact eq_of_beq (by assumption)); refine (HI.out hk _ (H.out.up (HB.out _ _))).mono ?_; rintro e w' ⟨rfl, hb⟩)
    | (go_at_call 116; have hk : k = 36 := (by first | assumption | exact eq_of_beq (by assumption)); refine (HF'.out hk _ (H.out.up (HB.out _ _))).mono ?_; rintro e w' ⟨rfl, hb⟩)
    | (go_at_call 114; refine (among_any s _ _ (H.out.up (HB.out _ _)) hs (by decide)).mono ?_; rintro e w'' ⟨rfl, rfl⟩))
  all_goals
    go_ret
    refine ⟨ret_bool ?_, ?_⟩
    · rw [← HF.out, textB]
      first | (simp [*]; done) | (simp_all; done)
    · first
        | exact HB.out _ _
        | exact (HB.out _ _).trans (hb.mono (by simp))

end Go.Proofs.YtokhfhibdeneeaaGreatDoor

namespace Go.Proofs.YtokhfhibdeneeaaGreatDoor
open Go.RowKit

/-- A *api.Wrong that lies in block b. -/
def WrongAt (w : World) (b : Nat) (code at_ : Int) (name : ByteArray) : Prop :=
  w.cell? ⟨b, 0, none⟩ = some (.int .i64 code) ∧ w.cell? ⟨b, 1, none⟩ = some (.int .i64 at_) ∧ w.cell? ⟨b, 2, none⟩ = some (.string name) ∧ w.frozen? ⟨b, 0, none⟩ = false ∧ w.frozen? ⟨b, 1, none⟩ = false ∧ w.frozen? ⟨b, 2, none⟩ = false
def shortB (s : ByteArray) : ByteArray := if (s.size : Int) ≤ 40 then s else ⟨#[]⟩

set_option maxRecDepth 100000 in
theorem wrong_any (c k : Int) (s : ByteArray) (n a : Int) (A : Option Addr) (len cap : Nat) (w : World) :
    Calls Tryz.prog 65 #[.int .i64 c, .agg #[.int .i64 k, .string s, .int .i64 n, .int .i64 a, .slice A len cap]] w fun e w' =>
      e = .returned (.pointer (some ⟨w.heap.size + 1, 0, none⟩)) ∧ WrongAt w' (w.heap.size + 1) c a (shortB s) ∧ Below w.heap.size w w' := by
  obtain ⟨r, HF⟩ : ∃ r, Hid (shortB s = r) := ⟨_, rfl⟩
  rw [HF.out]
  go_enter Tryz.func65, Tryz.ntmps65
  go_wp2
  · go_ret
    have hr : r = s := by rw [← HF.out, shortB, if_pos (by assumption)]
    subst hr
    refine ⟨rfl, ?_, ?_⟩
    · refine ⟨?_, ?_, ?_, ?_, ?_, ?_⟩ <;> go_simp
    · exact ((Below.refl _ _).alloc (Nat.le_refl _) _).alloc (by simp) _
  · go_ret
    have hr : r = ⟨#[]⟩ := by rw [← HF.out, shortB, if_neg (by omega)]
    subst hr
    refine ⟨rfl, ?_, ?_⟩
    · refine ⟨?_, ?_, ?_, ?_, ?_, ?_⟩ <;> go_simp
    · exact ((Below.refl _ _).alloc (Nat.le_refl _) _).alloc (by simp) _

theorem fixed_any (A : Option Addr) (len cap : Nat) (w : World) :
    Calls Tryz.prog 118 #[.slice A len cap] w fun e w' => e = .returned (.agg #[.slice A len cap, .int .i64 29, .int .i64 len, .int .i64 len, .int .i64 20]) ∧ w' = w.alloc (.cells #[.slice A len cap, .int .i64 29, .int .i64 len, .int .i64 len, .int .i64 20] 99) := by
  go_enter Tryz.func118, Tryz.ntmps118
  go_wp2
  exact bodyPost_ret (results_cell_row rfl _ _ w.heap.size 99 _ _ _ rfl (heap_alloc_new w _) Tryz.underlying99 rfl (by kernel_rfl)) rfl ⟨rfl, rfl⟩
theorem row_any (r : Int) (A : Option Addr) (len cap : Nat) (w : World) :
    Calls Tryz.prog 117 #[.int .i64 r, .slice A len cap] w fun e w' => e = .returned (.agg #[.slice A len cap, .int .i64 r, .int .i64 len, .int .i64 (-1), .int .i64 20]) ∧ w' = w.alloc (.cells #[.slice A len cap, .int .i64 r, .int .i64 len, .int .i64 (-1), .int .i64 20] 99) := by
  go_enter Tryz.func117, Tryz.ntmps117
  go_wp2
  exact bodyPost_ret (results_cell_row rfl _ _ w.heap.size 99 _ _ _ rfl (heap_alloc_new w _) Tryz.underlying99 rfl (by kernel_rfl)) rfl ⟨rfl, rfl⟩
theorem limited_any (r m : Int) (w : World) :
    Calls Tryz.prog 119 #[.int .i64 r, .int .i64 m] w fun e w' => e = .returned (.agg #[.slice none 0 0, .int .i64 r, .int .i64 0, .int .i64 m, .int .i64 22]) ∧ w' = w.alloc (.cells #[.slice none 0 0, .int .i64 r, .int .i64 0, .int .i64 m, .int .i64 22] 99) := by
  go_enter Tryz.func119, Tryz.ntmps119
  go_wp2
  exact bodyPost_ret (results_cell_row rfl _ _ w.heap.size 99 _ _ _ rfl (heap_alloc_new w _) Tryz.underlying99 rfl (by kernel_rfl)) rfl ⟨rfl, rfl⟩

/-! ### typed -/
def typedOne (x : Nd) : Bool := x.kind == 15 || (x.kind == 14 && amongB x.text ⟨#[109, 97, 112, 32, 102, 117, 110, 99, 32, 97, 110, 121]⟩)
def typedB (ks : List Nd) : Bool := match ks with
  | [] => false
  | x :: _ => x.kind == 38 && x.kids.any typedOne

set_option maxRecDepth 100000 in
set_option maxHeartbeats 1000000 in
theorem typed_any (k : Int) (s : ByteArray) (n a : Int) (A : Option Addr) (cap : Nat) (ks : List Nd) (w : World) (h : Gl w)
    (hl : Lies w w.heap.size (.mk k s n a ks) (.agg #[.int .i64 k, .string s, .int .i64 n, .int .i64 a, .slice A ks.length cap])) :
    Calls Tryz.prog 175 #[.agg #[.int .i64 k, .string s, .int .i64 n, .int .i64 a, .slice A ks.length cap]] w fun e w' => e = .returned (.bool (typedB ks)) ∧ Below w.heap.size w w' := by
  have H := Lib.hid h
  clear h
  have hl0 := hl
  unfold Lies at hl
  obtain ⟨A', cap', he, _, _, _, _, _, _, hkids⟩ := hl
  simp only [Value.agg.injEq, Array.mk.injEq, List.cons.injEq, Value.slice.injEq, and_true, true_and] at he
  obtain ⟨rfl, rfl⟩ := he
  rcases hkids with rfl | ⟨b, o, rfl, hlt, hkl⟩
  · go_enter Tryz.func175, Tryz.ntmps175
    go_wp2
    go_ret
    exact ⟨rfl, (Below.refl _ _).alloc (Nat.le_refl _) _⟩
  · cases ks with
    | nil =>
      go_enter Tryz.func175, Tryz.ntmps175
      go_wp2
      go_ret
      exact ⟨rfl, (Below.refl _ _).alloc (Nat.le_refl _) _⟩
    | cons x xs =>
      obtain ⟨k1, s1, n1, a1, A1, cap1, ks1, hx, c0, c1, c2, c3, c4, hl1⟩ := LiesL.get 0 (by simp) hkl
      simp at hx
      subst hx
      have HK := Lib.hid hkl
      have HL1 := Lib.hid hl1
      clear hkl hl1 hl0
      obtain ⟨r, HR⟩ : ∃ r, Hid (typedB (.mk k1 s1 n1 a1 ks1 :: xs) = r) := ⟨_, rfl⟩
      rw [HR.out]
      simp only [Nat.zero_mul, Nat.add_zero] at c0 c1 c2 c3 c4
      clear c1 c2 c3
      go_enter Tryz.func175, Tryz.ntmps175
      go_wp2
      · go_ret
        refine ⟨ret_bool ?_, (Below.refl _ _).alloc (Nat.le_refl _) _⟩
        rw [← HR.out]
        simp_all [typedB, Nd.kind]
      · have HK38 : Hid (k1 = 38) := by
          show _ = _
          simp_all
        rename (_ == _) = false ∧ _ => hz
        clear hz
        rename ¬ (_ + 1 = 0) => hz
        clear hz
        have HF : Hid (r = ks1.any typedOne) := by
          show _ = _
          rw [← HR.out, HK38.out]; rfl
        have HL2 := HL1.out
        unfold Lies at HL2
        obtain ⟨A', cap', he, _, _, _, _, _, _, hkids1⟩ := HL2
        simp only [Value.agg.injEq, Array.mk.injEq, List.cons.injEq, Value.slice.injEq, and_true, true_and] at he
        obtain ⟨rfl, rfl⟩ := he
        have HK1 := Lib.hid hkids1
        clear hkids1
        go_loopw [23] (fun i wr => ∃ (j : Nat), j ≤ ks1.length ∧ i = .int .i64 j ∧ Hid ((ks1.drop j).any typedOne = ks1.any typedOne) ∧ Below w.heap.size w wr) (fun i _ => ks1.length - (intOf i).toNat)
        case atStart => exact ⟨0, by omega, rfl, rfl, (Below.refl _ _).alloc (Nat.le_refl _) _⟩
        case round =>
          obtain ⟨j, hj, rfl, HI, hb⟩ := hrel
          by_cases hlt1 : j < ks1.length
          · rcases HK1.out with h | ⟨b1, o1, rfl, hb1, hk1⟩
            · rw [h] at hlt1; simp at hlt1
            obtain ⟨k2, s2, n2, a2, A2, cap2, ks2, hx2, d0, d1, d2, d3, d4, hl2⟩ := LiesL.get j hlt1 (hk1.below hb hb1)
            have hs2 : s2.size ≤ 140737488351232 := by unfold Lies at hl2; obtain ⟨_, _, _, _, _, _, h, _⟩ := hl2; exact h
            have HL3 := Lib.hid hl2
            have HX2 := Lib.hid hx2
            have HK2 := Lib.hid hk1
            clear hl2 hx2 hk1
            have HD : Hid ((ks1.drop j).any typedOne = (typedOne (.mk k2 s2 n2 a2 ks2) || (ks1.drop (j + 1)).any typedOne)) := by
              show _ = _
              rw [drop_cons HX2.out]; rfl
            have hT : typedOne (.mk k2 s2 n2 a2 ks2) = (k2 == 15 || (k2 == 14 && amongB s2 ⟨#[109, 97, 112, 32, 102, 117, 110, 99, 32, 97, 110, 121]⟩)) := rfl
            have HT := Lib.hid hT
            clear hT
            go_wp2_with (go_at_call 114; refine (among_any s2 _ _ (H.out.up (hb.alloc hb.size _)) hs2 ?_).mono ?_; exact (by decide : (⟨#[109, 97, 112, 32, 102, 117, 110, 99, 32, 97, 110, 121]⟩ : ByteArray).size < 1000000); rintro e w'' ⟨rfl, rfl⟩)
            all_goals first
              | (go_ret
                 refine ⟨ret_bool ?_, hb.alloc hb.size _⟩
                 rw [HF.out, ← HI.out, HD.out, HT.out]
                 simp_all; done)
              | (go_roundw
                 case rel =>
                   refine ⟨j + 1, by omega, by simp, ?_, hb.alloc hb.size _⟩
                   show _ = _
                   rw [← HI.out, HD.out, HT.out]
                   simp_all
                 case measure => simp [intOf]; omega)
          · obtain rfl : j = ks1.length := by omega
            go_wp2
            go_ret
            refine ⟨ret_bool ?_, hb⟩
            rw [HF.out, ← HI.out]
            simp

end Go.Proofs.YtokhfhibdeneeaaGreatDoor
