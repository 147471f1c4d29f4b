/- tree.isName, among, nameText, number, text: what each returns, at every text. tree.wrong, fixed, row, limited, typed, statement, shaped: what each returns, at every node. tree.statement, tree.shaped: the shape of every node. tree.shaped at the kinds 47, 40, 38; the leaf of the statement arm. tree.shaped: the shape of every node. -/
import Derived.Test.YtjpmghgmmeemkaaGreatDoorShelf
import Derived.Test.YtjpmghgmmeemkaaGreatDoorLex1
namespace Go.Proofs.YtjpmghgmmeemkaaGreatDoor
open Go.RowKit

def isNameB (s : ByteArray) : Bool := s.toList != [95] && nameB s
def amongB (s l : ByteArray) : Bool := s.toList != [] && Lib.contains (32 :: (l.data.toList ++ [32])) (32 :: (s.data.toList ++ [32]))

theorem isName_any (s : ByteArray) (w : World) (h : Gl w) (hs : s.size ≤ 140737488351232) : Calls Tryz.prog 61 #[.string s] w fun e w' => e = .returned (.bool (isNameB s)) ∧ Below w.heap.size w w' := by
  have H := Lib.hid h
  have HF : Hid (isNameB s = (s.toList != [95] && nameB s)) := rfl
  clear h
  go_enter Tryz.func61, Tryz.ntmps61
  go_wp2_with (go_at_call 86; refine (Name_any s _ H.out hs).mono ?_; rintro e w' ⟨rfl, hb⟩)
  all_goals
    go_ret
    refine ⟨ret_bool (by rw [HF.out]; first | (simp_all; done) | (simp [*]; done) | rfl), ?_⟩
    first | exact hb | exact Below.refl _ _

theorem cat_data (a b : ByteArray) : (a ++ b).data.toList = a.data.toList ++ b.data.toList := by simp

set_option maxRecDepth 100000 in
theorem among_any (s l : ByteArray) (w : World) (h : Gl w) (hs : s.size ≤ 140737488351232) (hl : l.size < 1000000) : Calls Tryz.prog 63 #[.string s, .string l] w fun e w' => e = .returned (.bool (amongB s l)) ∧ w' = w := by
  obtain ⟨_, ⟨m, hm⟩, _⟩ := h
  have HM := Lib.hid hm
  clear hm
  have HF : Hid (amongB s l = (s.toList != [] && Lib.contains (32 :: (l.data.toList ++ [32])) (32 :: (s.data.toList ++ [32])))) := rfl
  go_enter Tryz.func63, Tryz.ntmps63
  go_wp2_with (go_at_call 87; refine (Go.Proofs.Tryz.strings_Contains _ _ m _ ?_ HM.out).mono ?_; rotate_left; rintro e w' ⟨rfl, rfl⟩; rotate_left)
  · go_ret
    exact ⟨ret_bool (by rw [HF.out]; first | (simp_all; done) | (simp [*]; done) | rfl), rfl⟩
  · rw [ByteArray.size_append, ByteArray.size_append, show (⟨#[32]⟩ : ByteArray).size = 1 from rfl]; omega
  · go_ret
    exact ⟨ret_bool (by rw [HF.out]; first | (simp_all; done) | (cases s.toList <;> rfl)), rfl⟩

def numberB (k n : Int) : Bool := n == 0 || (k == 11 && (decide (0 < n) && decide (n ≤ 12)))

theorem number_any (k : Int) (s : ByteArray) (n a : Int) (A : Option Addr) (len cap : Nat) (w : World) :
    Calls Tryz.prog 45 #[.agg #[.int .i64 k, .string s, .int .i64 n, .int .i64 a, .slice A len cap]] w fun e w' => e = .returned (.bool (numberB k n)) ∧ Below w.heap.size w w' := by
  obtain ⟨r, HF⟩ : ∃ r, Hid (numberB k n = r) := ⟨_, rfl⟩
  rw [HF.out]
  go_enter Tryz.func45, Tryz.ntmps45
  go_wp2
  all_goals
    go_ret
    exact ⟨ret_bool (by rw [← HF.out, numberB]; first | (simp [*]; done) | (simp [*]; omega) | (rw [Bool.eq_iff_iff]; simp; omega) | (rw [Bool.eq_iff_iff]; simp [*]; omega)), (Below.refl _ _).alloc (Nat.le_refl _) _⟩

def nameTextB (s : ByteArray) (q : Int) : Bool :=
  if isNameB s then true else if q = 0 then amongB s ⟨#[116, 114, 117, 101, 32, 102, 97, 108, 115, 101, 32, 110, 105, 108, 32, 109, 97, 112, 32, 97, 110, 121, 32, 102, 117, 110, 99]⟩ else if q = 11 ∨ q = 12 then amongB s ⟨#[116, 114, 117, 101, 32, 102, 97, 108, 115, 101, 32, 110, 105, 108]⟩ else if q = 18 then amongB s ⟨#[116, 114, 117, 101, 32, 102, 97, 108, 115, 101, 32, 110, 105, 108, 32, 109, 97, 112]⟩ else if q = 5 ∨ q = 25 then amongB s ⟨#[109, 97, 112, 32, 102, 117, 110, 99]⟩ else if q = 24 then amongB s ⟨#[109, 97, 112, 32, 102, 117, 110, 99, 32, 97, 110, 121]⟩ else if q = 23 then amongB s ⟨#[109, 97, 112, 32, 102, 117, 110, 99, 32, 97, 110, 121, 32, 110, 105, 108]⟩ else false


set_option maxRecDepth 100000 in
theorem nameText_any (s : ByteArray) (q : Int) (w : World) (h : Gl w) (hs : s.size ≤ 140737488351232) : Calls Tryz.prog 62 #[.string s, .int .i64 q] w fun e w' => e = .returned (.bool (nameTextB s q)) ∧ Below w.heap.size w w' := by
  have H := Lib.hid h
  obtain ⟨r, HF⟩ : ∃ r, Hid (nameTextB s q = r) := ⟨_, rfl⟩
  rw [HF.out]
  clear h
  go_enter Tryz.func62, Tryz.ntmps62
  go_wp2_with (first
    | (go_at_call 61; refine (isName_any s _ H.out hs).mono ?_; rintro e w' ⟨rfl, hb⟩)
    | (go_at_call 63; refine (among_any s _ _ (H.out.up hb) hs (by decide)).mono ?_; rintro e w'' ⟨rfl, rfl⟩))
  all_goals
    go_ret
    refine ⟨ret_bool ?_, hb⟩
    rw [← HF.out, nameTextB]
    first | (simp [*]; done) | (simp_all; done)

def textB (iB fB : ByteArray → Bool) (k : Int) (s : ByteArray) (q : Int) : Bool :=
  if k = 2 ∨ k = 3 ∨ k = 4 ∨ k = 5 ∨ k = 6 ∨ k = 7 ∨ k = 8 ∨ k = 9 ∨ k = 10 ∨ k = 11 ∨ k = 12 ∨ k = 18 ∨ k = 41 ∨ k = 45 then isNameB s
  else if k = 14 then nameTextB s q
  else if k = 23 ∨ k = 24 ∨ k = 25 ∨ k = 26 ∨ k = 31 ∨ k = 32 then s.toList == [] || isNameB s
  else if k = 20 then amongB s ⟨#[61, 32, 43, 61, 32, 45, 61, 32, 42, 61, 32, 47, 61, 32, 37, 61, 32, 38, 61, 32, 124, 61, 32, 94, 61, 32, 60, 60, 61, 32, 62, 62, 61]⟩
  else if k = 34 then amongB s ⟨#[43, 43, 32, 45, 45]⟩
  else if k = 35 then iB s
  else if k = 36 then fB s
  else if k = 37 then decide ((s.size : Int) ≤ 65536)
  else if k = 50 then amongB s ⟨#[45, 32, 33, 32, 94, 32, 42]⟩
  else if k = 51 then amongB s ⟨#[124, 124, 32, 38, 38, 32, 61, 61, 32, 33, 61, 32, 60, 32, 60, 61, 32, 62, 32, 62, 61, 32, 43, 32, 45, 32, 124, 32, 94, 32, 42, 32, 47, 32, 37, 32, 38, 32, 60, 60, 32, 62, 62]⟩
  else if k = 40 then (if q = 27 ∨ (q = 0 ∧ ¬ s.toList = []) then isNameB s else s.toList == [])
  else s.toList == []


set_option maxRecDepth 100000 in
set_option maxHeartbeats 4000000 in
theorem text_any (iB fB : ByteArray → Bool) (k : Int) (s : ByteArray) (n a : Int) (A : Option Addr) (len cap : Nat) (q : Int) (w : World) (h : Gl w) (hs : s.size ≤ 140737488351232)
    (hI : k = 35 → ∀ w, Gl w → Calls Tryz.prog 64 #[.string s] w fun e w' => e = .returned (.bool (iB s)) ∧ Below w.heap.size w w')
    (hF : k = 36 → ∀ w, Gl w → Calls Tryz.prog 65 #[.string s] w fun e w' => e = .returned (.bool (fB s)) ∧ Below w.heap.size w w') :
    Calls Tryz.prog 44 #[.agg #[.int .i64 k, .string s, .int .i64 n, .int .i64 a, .slice A len cap], .int .i64 q] w fun e w' => e = .returned (.bool (textB iB fB k s q)) ∧ Below w.heap.size w w' := by
  have H := Lib.hid h
  have HI := Lib.hid hI
  have HF' := Lib.hid hF
  obtain ⟨r, HF⟩ : ∃ r, Hid (textB iB fB k s q = r) := ⟨_, rfl⟩
  rw [HF.out]
  clear h hI hF
  have hb0 : ∀ v t, Below w.heap.size w (w.alloc (.cells v t)) := fun v t => (Below.refl _ _).alloc (Nat.le_refl _) _
  have HB := Lib.hid hb0
  clear hb0
  go_enter Tryz.func44, Tryz.ntmps44
  go_wp2_with (first
    | (go_at_call 61; refine (isName_any s _ (H.out.up (HB.out _ _)) hs).mono ?_; rintro e w' ⟨rfl, hb⟩)
    | (go_at_call 62; refine (nameText_any s q _ (H.out.up (HB.out _ _)) hs).mono ?_; rintro e w' ⟨rfl, hb⟩)
    | (go_at_call 64; have hk : k = 35 := (by first | assumption | exact eq_of_beq (by assumption)); refine (HI.out hk _ (H.out.up (HB.out _ _))).mono ?_; rintro e w' ⟨rfl, hb⟩)
    | (go_at_call 65; have hk : k = 36 := (by first | assumption | exact eq_of_beq (by assumption)); refine (HF'.out hk _ (H.out.up (HB.out _ _))).mono ?_; rintro e w' ⟨rfl, hb⟩)
    | (go_at_call 63; refine (among_any s _ _ (H.out.up (HB.out _ _)) hs (by decide)).mono ?_; rintro e w'' ⟨rfl, rfl⟩))
  all_goals
    go_ret
    refine ⟨ret_bool ?_, ?_⟩
    · rw [← HF.out, textB]
      first | (simp [*]; done) | (simp_all; done)
    · first
        | exact HB.out _ _
        | exact (HB.out _ _).trans (hb.mono (by simp))

end Go.Proofs.YtjpmghgmmeemkaaGreatDoor

namespace Go.Proofs.YtjpmghgmmeemkaaGreatDoor
open Go.RowKit

/-- A *api.Wrong that lies in block b. -/
def WrongAt (w : World) (b : Nat) (code at_ : Int) (name : ByteArray) : Prop :=
  w.cell? ⟨b, 0, none⟩ = some (.int .i64 code) ∧ w.cell? ⟨b, 1, none⟩ = some (.int .i64 at_) ∧ w.cell? ⟨b, 2, none⟩ = some (.string name) ∧ w.frozen? ⟨b, 0, none⟩ = false ∧ w.frozen? ⟨b, 1, none⟩ = false ∧ w.frozen? ⟨b, 2, none⟩ = false
def shortB (s : ByteArray) : ByteArray := if (s.size : Int) ≤ 40 then s else ⟨#[]⟩

set_option maxRecDepth 100000 in
theorem wrong_any (c k : Int) (s : ByteArray) (n a : Int) (A : Option Addr) (len cap : Nat) (w : World) :
    Calls Tryz.prog 42 #[.int .i64 c, .agg #[.int .i64 k, .string s, .int .i64 n, .int .i64 a, .slice A len cap]] w fun e w' =>
      e = .returned (.pointer (some ⟨w.heap.size + 1, 0, none⟩)) ∧ WrongAt w' (w.heap.size + 1) c a (shortB s) ∧ Below w.heap.size w w' := by
  obtain ⟨r, HF⟩ : ∃ r, Hid (shortB s = r) := ⟨_, rfl⟩
  rw [HF.out]
  go_enter Tryz.func42, Tryz.ntmps42
  go_wp2
  · go_ret
    have hr : r = s := by rw [← HF.out, shortB, if_pos (by assumption)]
    subst hr
    refine ⟨rfl, ?_, ?_⟩
    · refine ⟨?_, ?_, ?_, ?_, ?_, ?_⟩ <;> go_simp
    · exact ((Below.refl _ _).alloc (Nat.le_refl _) _).alloc (by simp) _
  · go_ret
    have hr : r = ⟨#[]⟩ := by rw [← HF.out, shortB, if_neg (by omega)]
    subst hr
    refine ⟨rfl, ?_, ?_⟩
    · refine ⟨?_, ?_, ?_, ?_, ?_, ?_⟩ <;> go_simp
    · exact ((Below.refl _ _).alloc (Nat.le_refl _) _).alloc (by simp) _

theorem fixed_any (A : Option Addr) (len cap : Nat) (w : World) :
    Calls Tryz.prog 67 #[.slice A len cap] w fun e w' => e = .returned (.agg #[.slice A len cap, .int .i64 29, .int .i64 len, .int .i64 len, .int .i64 20]) ∧ w' = w.alloc (.cells #[.slice A len cap, .int .i64 29, .int .i64 len, .int .i64 len, .int .i64 20] 98) := by
  go_enter Tryz.func67, Tryz.ntmps67
  go_wp2
  exact bodyPost_ret (results_cell_row rfl _ _ w.heap.size 98 _ _ _ rfl (heap_alloc_new w _) Tryz.underlying98 rfl (by kernel_rfl)) rfl ⟨rfl, rfl⟩
theorem row_any (r : Int) (A : Option Addr) (len cap : Nat) (w : World) :
    Calls Tryz.prog 66 #[.int .i64 r, .slice A len cap] w fun e w' => e = .returned (.agg #[.slice A len cap, .int .i64 r, .int .i64 len, .int .i64 (-1), .int .i64 20]) ∧ w' = w.alloc (.cells #[.slice A len cap, .int .i64 r, .int .i64 len, .int .i64 (-1), .int .i64 20] 98) := by
  go_enter Tryz.func66, Tryz.ntmps66
  go_wp2
  exact bodyPost_ret (results_cell_row rfl _ _ w.heap.size 98 _ _ _ rfl (heap_alloc_new w _) Tryz.underlying98 rfl (by kernel_rfl)) rfl ⟨rfl, rfl⟩
theorem limited_any (r m : Int) (w : World) :
    Calls Tryz.prog 68 #[.int .i64 r, .int .i64 m] w fun e w' => e = .returned (.agg #[.slice none 0 0, .int .i64 r, .int .i64 0, .int .i64 m, .int .i64 22]) ∧ w' = w.alloc (.cells #[.slice none 0 0, .int .i64 r, .int .i64 0, .int .i64 m, .int .i64 22] 98) := by
  go_enter Tryz.func68, Tryz.ntmps68
  go_wp2
  exact bodyPost_ret (results_cell_row rfl _ _ w.heap.size 98 _ _ _ rfl (heap_alloc_new w _) Tryz.underlying98 rfl (by kernel_rfl)) rfl ⟨rfl, rfl⟩

/-! ### typed -/
def typedOne (x : Nd) : Bool := x.kind == 15 || (x.kind == 14 && amongB x.text ⟨#[109, 97, 112, 32, 102, 117, 110, 99, 32, 97, 110, 121]⟩)
def typedB (ks : List Nd) : Bool := match ks with
  | [] => false
  | x :: _ => x.kind == 38 && x.kids.any typedOne

set_option maxRecDepth 100000 in
set_option maxHeartbeats 1000000 in
theorem typed_any (k : Int) (s : ByteArray) (n a : Int) (A : Option Addr) (cap : Nat) (ks : List Nd) (w : World) (h : Gl w)
    (hl : Lies w w.heap.size (.mk k s n a ks) (.agg #[.int .i64 k, .string s, .int .i64 n, .int .i64 a, .slice A ks.length cap])) :
    Calls Tryz.prog 89 #[.agg #[.int .i64 k, .string s, .int .i64 n, .int .i64 a, .slice A ks.length cap]] w fun e w' => e = .returned (.bool (typedB ks)) ∧ Below w.heap.size w w' := by
  have H := Lib.hid h
  clear h
  have hl0 := hl
  unfold Lies at hl
  obtain ⟨A', cap', he, _, _, _, _, _, _, hkids⟩ := hl
  simp only [Value.agg.injEq, Array.mk.injEq, List.cons.injEq, Value.slice.injEq, and_true, true_and] at he
  obtain ⟨rfl, rfl⟩ := he
  rcases hkids with rfl | ⟨b, o, rfl, hlt, hkl⟩
  · go_enter Tryz.func89, Tryz.ntmps89
    go_wp2
    go_ret
    exact ⟨rfl, (Below.refl _ _).alloc (Nat.le_refl _) _⟩
  · cases ks with
    | nil =>
      go_enter Tryz.func89, Tryz.ntmps89
      go_wp2
      go_ret
      exact ⟨rfl, (Below.refl _ _).alloc (Nat.le_refl _) _⟩
    | cons x xs =>
      obtain ⟨k1, s1, n1, a1, A1, cap1, ks1, hx, c0, c1, c2, c3, c4, hl1⟩ := LiesL.get 0 (by simp) hkl
      simp at hx
      subst hx
      have HK := Lib.hid hkl
      have HL1 := Lib.hid hl1
      clear hkl hl1 hl0
      obtain ⟨r, HR⟩ : ∃ r, Hid (typedB (.mk k1 s1 n1 a1 ks1 :: xs) = r) := ⟨_, rfl⟩
      rw [HR.out]
      simp only [Nat.zero_mul, Nat.add_zero] at c0 c1 c2 c3 c4
      clear c1 c2 c3
      go_enter Tryz.func89, Tryz.ntmps89
      go_wp2
      · go_ret
        refine ⟨ret_bool ?_, (Below.refl _ _).alloc (Nat.le_refl _) _⟩
        rw [← HR.out]
        simp_all [typedB, Nd.kind]
      · have HK38 : Hid (k1 = 38) := by
          show _ = _
          simp_all
        rename (_ == _) = false ∧ _ => hz
        clear hz
        rename ¬ (_ + 1 = 0) => hz
        clear hz
        have HF : Hid (r = ks1.any typedOne) := by
          show _ = _
          rw [← HR.out, HK38.out]; rfl
        have HL2 := HL1.out
        unfold Lies at HL2
        obtain ⟨A', cap', he, _, _, _, _, _, _, hkids1⟩ := HL2
        simp only [Value.agg.injEq, Array.mk.injEq, List.cons.injEq, Value.slice.injEq, and_true, true_and] at he
        obtain ⟨rfl, rfl⟩ := he
        have HK1 := Lib.hid hkids1
        clear hkids1
        go_loopw [23] (fun i wr => ∃ (j : Nat), j ≤ ks1.length ∧ i = .int .i64 j ∧ Hid ((ks1.drop j).any typedOne = ks1.any typedOne) ∧ Below w.heap.size w wr) (fun i _ => ks1.length - (intOf i).toNat)
        case atStart => exact ⟨0, by omega, rfl, rfl, (Below.refl _ _).alloc (Nat.le_refl _) _⟩
        case round =>
          obtain ⟨j, hj, rfl, HI, hb⟩ := hrel
          by_cases hlt1 : j < ks1.length
          · rcases HK1.out with h | ⟨b1, o1, rfl, hb1, hk1⟩
            · rw [h] at hlt1; simp at hlt1
            obtain ⟨k2, s2, n2, a2, A2, cap2, ks2, hx2, d0, d1, d2, d3, d4, hl2⟩ := LiesL.get j hlt1 (hk1.below hb hb1)
            have hs2 : s2.size ≤ 140737488351232 := by unfold Lies at hl2; obtain ⟨_, _, _, _, _, _, h, _⟩ := hl2; exact h
            have HL3 := Lib.hid hl2
            have HX2 := Lib.hid hx2
            have HK2 := Lib.hid hk1
            clear hl2 hx2 hk1
            have HD : Hid ((ks1.drop j).any typedOne = (typedOne (.mk k2 s2 n2 a2 ks2) || (ks1.drop (j + 1)).any typedOne)) := by
              show _ = _
              rw [drop_cons HX2.out]; rfl
            have hT : typedOne (.mk k2 s2 n2 a2 ks2) = (k2 == 15 || (k2 == 14 && amongB s2 ⟨#[109, 97, 112, 32, 102, 117, 110, 99, 32, 97, 110, 121]⟩)) := rfl
            have HT := Lib.hid hT
            clear hT
            go_wp2_with (go_at_call 63; refine (among_any s2 _ _ (H.out.up (hb.alloc hb.size _)) hs2 ?_).mono ?_; exact (by decide : (⟨#[109, 97, 112, 32, 102, 117, 110, 99, 32, 97, 110, 121]⟩ : ByteArray).size < 1000000); rintro e w'' ⟨rfl, rfl⟩)
            all_goals first
              | (go_ret
                 refine ⟨ret_bool ?_, hb.alloc hb.size _⟩
                 rw [HF.out, ← HI.out, HD.out, HT.out]
                 simp_all; done)
              | (go_roundw
                 case rel =>
                   refine ⟨j + 1, by omega, by simp, ?_, hb.alloc hb.size _⟩
                   show _ = _
                   rw [← HI.out, HD.out, HT.out]
                   simp_all
                 case measure => simp [intOf]; omega)
          · obtain rfl : j = ks1.length := by omega
            go_wp2
            go_ret
            refine ⟨ret_bool ?_, hb⟩
            rw [HF.out, ← HI.out]
            simp

end Go.Proofs.YtjpmghgmmeemkaaGreatDoor

namespace Go.Proofs.YtjpmghgmmeemkaaGreatDoor
open Go.RowKit

structure Shp where
  first : List Int
  rest : Int
  least : Int
  most : Int
  many : Int
def Shp.at_ (s : Shp) (i : Nat) : Int := (s.first[i]?).getD s.rest
def fx (l : List Int) : Shp := ⟨l, 29, l.length, l.length, 20⟩
def rwS (r : Int) (l : List Int) : Shp := ⟨l, r, l.length, -1, 20⟩
def lim (r m : Int) : Shp := ⟨[], r, 0, m, 22⟩

def CellsAt (w : World) (b : Nat) : List Int → Nat → Prop
  | [], _ => True
  | x :: xs, j => w.cell? ⟨b, j, none⟩ = some (.int .i64 x) ∧ CellsAt w b xs (j + 1)
theorem CellsAt.get {w : World} {b : Nat} : ∀ {l : List Int} {j : Nat}, CellsAt w b l j → ∀ (i : Nat) (x : Int), l[i]? = some x → w.cell? ⟨b, j + i, none⟩ = some (.int .i64 x)
  | [], _, _, i, x, h => by simp at h
  | y :: l, j, h, 0, x, hx => by simp at hx; subst hx; exact h.1
  | y :: l, j, h, i + 1, x, hx => by
    have := CellsAt.get h.2 i x (by simpa using hx)
    rw [show j + (i + 1) = j + 1 + i by omega]
    exact this
theorem CellsAt.below {w w' : World} {b B : Nat} (hb : Below B w w') (hlt : b < B) : ∀ {l : List Int} {j : Nat}, CellsAt w b l j → CellsAt w' b l j
  | [], _, _ => trivial
  | y :: l, j, h => ⟨by rw [hb.cell (p := ⟨b, j, none⟩) hlt]; exact h.1, CellsAt.below hb hlt h.2⟩

/-- The value v is the shape sh, whose list lies in w in a block from B on. -/
def ShapeIs (B : Nat) (w : World) (v : Value) (sh : Shp) : Prop :=
  ∃ (A : Option Addr) (cap : Nat), v = .agg #[.slice A sh.first.length cap, .int .i64 sh.rest, .int .i64 sh.least, .int .i64 sh.most, .int .i64 sh.many] ∧ sh.first.length ≤ 4 ∧
    (sh.first = [] ∨ ∃ b, A = some ⟨b, 0, none⟩ ∧ B ≤ b ∧ b < w.heap.size ∧ CellsAt w b sh.first 0)

def stmtShape (k q : Int) (ty : Bool) : Shp :=
  if k = 17 then rwS 10 []
  else if k = 19 ∨ k = 21 then fx [4, 4, 16]
  else if k = 20 then fx [13, 11]
  else if k = 22 then fx [11, 9, 14]
  else if k = 23 then fx [12, 9]
  else if k = 24 then fx [15, 15, 11, 9]
  else if k = 25 then rwS 19 [12]
  else if k = 26 then rwS 20 [15, 11]
  else if k = 27 then (if q = 20 ∨ (q = 0 ∧ ty = true) then fx [22, 9] else fx [21, 9])
  else if k = 28 then fx [12]
  else if k = 29 ∨ k = 30 then fx [17]
  else if k = 34 then fx [13]
  else fx []

def lastOf (ks : List Nd) : Int := if ks.length = 4 ∧ (ks[2]?.map Nd.kind) = some 16 then 29 else 12
def shapeOf (k : Int) (s : ByteArray) (ks : List Nd) (q : Int) : Shp :=
  if k = 1 then rwS 1 []
  else if k = 2 then fx [5]
  else if k = 3 then lim 2 30
  else if k = 4 then lim 3 60
  else if k = 5 ∨ k = 43 then fx [8, 9]
  else if k = 6 then fx [7, 8, 9]
  else if k = 7 ∨ k = 18 ∨ k = 45 ∨ k = 50 then fx [11]
  else if k = 12 then fx [6]
  else if k = 13 then lim 4 12
  else if k = 15 then fx [4]
  else if k = 42 then fx [28]
  else if k = 44 then fx [25]
  else if k = 46 ∨ k = 51 then fx [11, 11]
  else if k = 49 then fx [11, 24]
  else if k = 48 then rwS 11 [18]
  else if k = 39 then rwS 26 []
  else if k = 41 then rwS 27 []
  else if k = 47 then fx [11, 12, 12, lastOf ks]
  else if k = 40 then (if q = 27 ∨ (q = 0 ∧ ¬ s.toList = []) then fx [11] else fx [11, 11])
  else if k = 38 then (if q = 22 then ⟨[], 23, 1, -1, 20⟩ else if q = 21 then ⟨[], 11, 1, -1, 20⟩ else rwS 11 [])
  else stmtShape k q (typedB ks)

theorem hrow_old1 (w : World) (A B C : Obj) : (((w.alloc A).alloc B).alloc C).heap[w.heap.size + 1]? = some B := by
  rw [heap_alloc_old _ _ (by simp)]; exact heap_alloc2_new w A B
theorem hrow_old2 (w : World) (A B C D : Obj) : ((((w.alloc A).alloc B).alloc C).alloc D).heap[w.heap.size + 1]? = some B := by
  rw [heap_alloc_old _ _ (by simp)]; exact hrow_old1 w A B C

theorem hrow_old3 (w : World) (A B C D : Obj) : ((((w.alloc A).alloc B).alloc C).alloc D).heap[w.heap.size + 1 + 1]? = some C := by
  have h := hrow_old1 (w.alloc A) B C D
  rw [World.size_alloc] at h
  exact h

theorem hrow_five (w : World) (g : Nat) (t : TypeId) (z0 z1 z2 z3 z4 v0 v1 v2 v3 v4 : Value) (h : w.heap[g]? = some (.cells #[z0, z1, z2, z3, z4] t)) :
    (((((w.setCell ⟨g, 0, none⟩ v0).setCell ⟨g, 1, none⟩ v1).setCell ⟨g, 2, none⟩ v2).setCell ⟨g, 3, none⟩ v3).setCell ⟨g, 4, none⟩ v4).heap[g]? = some (.cells #[v0, v1, v2, v3, v4] t) :=
  heap_setCell_same _ _ _ _ _ _ (heap_setCell_same _ _ _ _ _ _ (heap_setCell_same _ _ _ _ _ _ (heap_setCell_same _ _ _ _ _ _ (heap_setCell_same _ _ _ _ _ _ h))))

theorem stmt_leafT (w w' : World) (C : Obj) (x1 x2 x3 x4 y0 y1 : Int) (t : TypeId) (z0 z1 z2 z3 z4 : Value) (h : w'.heap[w.heap.size + 1]? = some (.cells #[z0, z1, z2, z3, z4] 98)) (hsz : w.heap.size + 1 < w'.heap.size) (hB : Below w.heap.size w w')
    (tmps : Array Value) (h4 : tmps.getD 4 undef = .pointer (some ⟨w.heap.size + 1, 0, none⟩)) (r : Shp) (hr : r = ⟨[y0, y1], x1, x2, x3, x4⟩) :
    bodyPost Tryz.prog Tryz.f69 (fun e w' => ∃ v, e = .returned v ∧ ShapeIs w.heap.size w' v r ∧ Below w.heap.size w w') .ret { tmps := tmps, defers := [] }
      (((((((w'.setCell ⟨w.heap.size + 1, 0, none⟩ (.slice (some ⟨w'.heap.size, 0, none⟩) 2 2)).setCell ⟨w.heap.size + 1, 1, none⟩ (.int .i64 x1)).setCell ⟨w.heap.size + 1, 2, none⟩ (.int .i64 x2)).setCell ⟨w.heap.size + 1, 3, none⟩ (.int .i64 x3)).setCell ⟨w.heap.size + 1, 4, none⟩ (.int .i64 x4)).alloc (.cells #[.int .i64 y0, .int .i64 y1] t)).alloc C) := by
  subst hr
  have h5 := hrow_five w' (w.heap.size + 1) _ z0 z1 z2 z3 z4 (.slice (some ⟨w'.heap.size, 0, none⟩) 2 2) (.int .i64 x1) (.int .i64 x2) (.int .i64 x3) (.int .i64 x4) h
  have hBX : Below w.heap.size w (((((w'.setCell ⟨w.heap.size + 1, 0, none⟩ (.slice (some ⟨w'.heap.size, 0, none⟩) 2 2)).setCell ⟨w.heap.size + 1, 1, none⟩ (.int .i64 x1)).setCell ⟨w.heap.size + 1, 2, none⟩ (.int .i64 x2)).setCell ⟨w.heap.size + 1, 3, none⟩ (.int .i64 x3)).setCell ⟨w.heap.size + 1, 4, none⟩ (.int .i64 x4)) :=
    ((((hB.setCell (p := ⟨w.heap.size + 1, 0, none⟩) (Nat.le_succ _) _).setCell (p := ⟨w.heap.size + 1, 1, none⟩) (Nat.le_succ _) _).setCell (p := ⟨w.heap.size + 1, 2, none⟩) (Nat.le_succ _) _).setCell (p := ⟨w.heap.size + 1, 3, none⟩) (Nat.le_succ _) _).setCell (p := ⟨w.heap.size + 1, 4, none⟩) (Nat.le_succ _) _
  have hX : (((((w'.setCell ⟨w.heap.size + 1, 0, none⟩ (.slice (some ⟨w'.heap.size, 0, none⟩) 2 2)).setCell ⟨w.heap.size + 1, 1, none⟩ (.int .i64 x1)).setCell ⟨w.heap.size + 1, 2, none⟩ (.int .i64 x2)).setCell ⟨w.heap.size + 1, 3, none⟩ (.int .i64 x3)).setCell ⟨w.heap.size + 1, 4, none⟩ (.int .i64 x4)).heap.size = w'.heap.size := by simp
  generalize (((((w'.setCell ⟨w.heap.size + 1, 0, none⟩ (.slice (some ⟨w'.heap.size, 0, none⟩) 2 2)).setCell ⟨w.heap.size + 1, 1, none⟩ (.int .i64 x1)).setCell ⟨w.heap.size + 1, 2, none⟩ (.int .i64 x2)).setCell ⟨w.heap.size + 1, 3, none⟩ (.int .i64 x3)).setCell ⟨w.heap.size + 1, 4, none⟩ (.int .i64 x4)) = X at h5 hBX hX ⊢
  have h6 : ((X.alloc (.cells #[.int .i64 y0, .int .i64 y1] t)).alloc C).heap[w.heap.size + 1]? = some (.cells #[.slice (some ⟨w'.heap.size, 0, none⟩) 2 2, .int .i64 x1, .int .i64 x2, .int .i64 x3, .int .i64 x4] 98) := by
    rw [heap_alloc_old _ _ (by simp; omega), heap_alloc_old _ _ (by omega)]; exact h5
  have h7 : ((X.alloc (.cells #[.int .i64 y0, .int .i64 y1] t)).alloc C).heap[w'.heap.size]? = some (.cells #[.int .i64 y0, .int .i64 y1] t) := by rw [← hX]; exact heap_alloc2_old _ _ _
  refine bodyPost_ret (results_cell_row rfl _ _ (w.heap.size + 1) 98 _ _ _ h4 h6 Tryz.underlying98 rfl (by kernel_rfl)) rfl
    ⟨_, rfl, ⟨_, 2, rfl, by simp, .inr ⟨_, rfl, by omega, by simp; omega, ?_⟩⟩, (hBX.alloc hBX.size _).alloc (by have := hBX.size; simp; omega) _⟩
  simp [CellsAt, cell_of_row _ _ _ _ _ _ h7]

theorem stmt_leaf0 (w : World) (A C : Obj) (x1 x2 x3 x4 : Int) (tmps : Array Value) (h4 : tmps.getD 4 undef = .pointer (some ⟨w.heap.size + 1, 0, none⟩)) (r : Shp) (hr : r = ⟨[], x1, x2, x3, x4⟩) :
    bodyPost Tryz.prog Tryz.f69 (fun e w' => ∃ v, e = .returned v ∧ ShapeIs w.heap.size w' v r ∧ Below w.heap.size w w') .ret { tmps := tmps, defers := [] }
      (((w.alloc A).alloc (.cells #[.slice none 0 0, .int .i64 x1, .int .i64 x2, .int .i64 x3, .int .i64 x4] 98)).alloc C) := by
  subst hr
  exact bodyPost_ret (results_cell_row rfl _ _ (w.heap.size + 1) 98 _ _ _ h4 (hrow_old1 _ _ _ _) Tryz.underlying98 rfl (by kernel_rfl)) rfl
    ⟨_, rfl, ⟨none, 0, rfl, by simp, .inl rfl⟩, (((Below.refl _ _).alloc (Nat.le_refl _) _).alloc (by simp) _).alloc (by simp; omega) _⟩

theorem stmt_leaf1 (w : World) (A C : Obj) (x1 x2 x3 x4 y0 : Int) (t : TypeId) (tmps : Array Value) (h4 : tmps.getD 4 undef = .pointer (some ⟨w.heap.size + 1, 0, none⟩)) (r : Shp) (hr : r = ⟨[y0], x1, x2, x3, x4⟩) :
    bodyPost Tryz.prog Tryz.f69 (fun e w' => ∃ v, e = .returned v ∧ ShapeIs w.heap.size w' v r ∧ Below w.heap.size w w') .ret { tmps := tmps, defers := [] }
      ((((w.alloc A).alloc (.cells #[.slice (some ⟨w.heap.size + 1 + 1, 0, none⟩) 1 1, .int .i64 x1, .int .i64 x2, .int .i64 x3, .int .i64 x4] 98)).alloc (.cells #[.int .i64 y0] t)).alloc C) := by
  subst hr
  refine bodyPost_ret (results_cell_row rfl _ _ (w.heap.size + 1) 98 _ _ _ h4 (hrow_old2 _ _ _ _ _) Tryz.underlying98 rfl (by kernel_rfl)) rfl
    ⟨_, rfl, ⟨_, 1, rfl, by simp, .inr ⟨_, rfl, by omega, by simp, ?_⟩⟩, ((((Below.refl _ _).alloc (Nat.le_refl _) _).alloc (by simp) _).alloc (by simp; omega) _).alloc (by simp; omega) _⟩
  have h := hrow_old3 w A (.cells #[.slice (some ⟨w.heap.size + 1 + 1, 0, none⟩) 1 1, .int .i64 x1, .int .i64 x2, .int .i64 x3, .int .i64 x4] 98) (.cells #[.int .i64 y0] t) C
  simp [CellsAt, cell_of_row _ _ _ _ _ _ h]

theorem stmt_leaf2 (w : World) (A C : Obj) (x1 x2 x3 x4 y0 y1 : Int) (t : TypeId) (tmps : Array Value) (h4 : tmps.getD 4 undef = .pointer (some ⟨w.heap.size + 1, 0, none⟩)) (r : Shp) (hr : r = ⟨[y0, y1], x1, x2, x3, x4⟩) :
    bodyPost Tryz.prog Tryz.f69 (fun e w' => ∃ v, e = .returned v ∧ ShapeIs w.heap.size w' v r ∧ Below w.heap.size w w') .ret { tmps := tmps, defers := [] }
      ((((w.alloc A).alloc (.cells #[.slice (some ⟨w.heap.size + 1 + 1, 0, none⟩) 2 2, .int .i64 x1, .int .i64 x2, .int .i64 x3, .int .i64 x4] 98)).alloc (.cells #[.int .i64 y0, .int .i64 y1] t)).alloc C) := by
  subst hr
  refine bodyPost_ret (results_cell_row rfl _ _ (w.heap.size + 1) 98 _ _ _ h4 (hrow_old2 _ _ _ _ _) Tryz.underlying98 rfl (by kernel_rfl)) rfl
    ⟨_, rfl, ⟨_, 2, rfl, by simp, .inr ⟨_, rfl, by omega, by simp, ?_⟩⟩, ((((Below.refl _ _).alloc (Nat.le_refl _) _).alloc (by simp) _).alloc (by simp; omega) _).alloc (by simp; omega) _⟩
  have h := hrow_old3 w A (.cells #[.slice (some ⟨w.heap.size + 1 + 1, 0, none⟩) 2 2, .int .i64 x1, .int .i64 x2, .int .i64 x3, .int .i64 x4] 98) (.cells #[.int .i64 y0, .int .i64 y1] t) C
  simp [CellsAt, cell_of_row _ _ _ _ _ _ h]

theorem stmt_leaf3 (w : World) (A C : Obj) (x1 x2 x3 x4 y0 y1 y2 : Int) (t : TypeId) (tmps : Array Value) (h4 : tmps.getD 4 undef = .pointer (some ⟨w.heap.size + 1, 0, none⟩)) (r : Shp) (hr : r = ⟨[y0, y1, y2], x1, x2, x3, x4⟩) :
    bodyPost Tryz.prog Tryz.f69 (fun e w' => ∃ v, e = .returned v ∧ ShapeIs w.heap.size w' v r ∧ Below w.heap.size w w') .ret { tmps := tmps, defers := [] }
      ((((w.alloc A).alloc (.cells #[.slice (some ⟨w.heap.size + 1 + 1, 0, none⟩) 3 3, .int .i64 x1, .int .i64 x2, .int .i64 x3, .int .i64 x4] 98)).alloc (.cells #[.int .i64 y0, .int .i64 y1, .int .i64 y2] t)).alloc C) := by
  subst hr
  refine bodyPost_ret (results_cell_row rfl _ _ (w.heap.size + 1) 98 _ _ _ h4 (hrow_old2 _ _ _ _ _) Tryz.underlying98 rfl (by kernel_rfl)) rfl
    ⟨_, rfl, ⟨_, 3, rfl, by simp, .inr ⟨_, rfl, by omega, by simp, ?_⟩⟩, ((((Below.refl _ _).alloc (Nat.le_refl _) _).alloc (by simp) _).alloc (by simp; omega) _).alloc (by simp; omega) _⟩
  have h := hrow_old3 w A (.cells #[.slice (some ⟨w.heap.size + 1 + 1, 0, none⟩) 3 3, .int .i64 x1, .int .i64 x2, .int .i64 x3, .int .i64 x4] 98) (.cells #[.int .i64 y0, .int .i64 y1, .int .i64 y2] t) C
  simp [CellsAt, cell_of_row _ _ _ _ _ _ h]

theorem stmt_leaf4 (w : World) (A C : Obj) (x1 x2 x3 x4 y0 y1 y2 y3 : Int) (t : TypeId) (tmps : Array Value) (h4 : tmps.getD 4 undef = .pointer (some ⟨w.heap.size + 1, 0, none⟩)) (r : Shp) (hr : r = ⟨[y0, y1, y2, y3], x1, x2, x3, x4⟩) :
    bodyPost Tryz.prog Tryz.f69 (fun e w' => ∃ v, e = .returned v ∧ ShapeIs w.heap.size w' v r ∧ Below w.heap.size w w') .ret { tmps := tmps, defers := [] }
      ((((w.alloc A).alloc (.cells #[.slice (some ⟨w.heap.size + 1 + 1, 0, none⟩) 4 4, .int .i64 x1, .int .i64 x2, .int .i64 x3, .int .i64 x4] 98)).alloc (.cells #[.int .i64 y0, .int .i64 y1, .int .i64 y2, .int .i64 y3] t)).alloc C) := by
  subst hr
  refine bodyPost_ret (results_cell_row rfl _ _ (w.heap.size + 1) 98 _ _ _ h4 (hrow_old2 _ _ _ _ _) Tryz.underlying98 rfl (by kernel_rfl)) rfl
    ⟨_, rfl, ⟨_, 4, rfl, by simp, .inr ⟨_, rfl, by omega, by simp, ?_⟩⟩, ((((Below.refl _ _).alloc (Nat.le_refl _) _).alloc (by simp) _).alloc (by simp; omega) _).alloc (by simp; omega) _⟩
  have h := hrow_old3 w A (.cells #[.slice (some ⟨w.heap.size + 1 + 1, 0, none⟩) 4 4, .int .i64 x1, .int .i64 x2, .int .i64 x3, .int .i64 x4] 98) (.cells #[.int .i64 y0, .int .i64 y1, .int .i64 y2, .int .i64 y3] t) C
  simp [CellsAt, cell_of_row _ _ _ _ _ _ h]

theorem shp_leaf0 (w : World) (A C : Obj) (x1 x2 x3 x4 : Int) (tmps : Array Value) (h4 : tmps.getD 4 undef = .pointer (some ⟨w.heap.size + 1, 0, none⟩)) (r : Shp) (hr : r = ⟨[], x1, x2, x3, x4⟩) :
    bodyPost Tryz.prog Tryz.f46 (fun e w' => ∃ v, e = .returned v ∧ ShapeIs w.heap.size w' v r ∧ Below w.heap.size w w') .ret { tmps := tmps, defers := [] }
      (((w.alloc A).alloc (.cells #[.slice none 0 0, .int .i64 x1, .int .i64 x2, .int .i64 x3, .int .i64 x4] 98)).alloc C) := by
  subst hr
  exact bodyPost_ret (results_cell_row rfl _ _ (w.heap.size + 1) 98 _ _ _ h4 (hrow_old1 _ _ _ _) Tryz.underlying98 rfl (by kernel_rfl)) rfl
    ⟨_, rfl, ⟨none, 0, rfl, by simp, .inl rfl⟩, (((Below.refl _ _).alloc (Nat.le_refl _) _).alloc (by simp) _).alloc (by simp; omega) _⟩

theorem shp_leaf1 (w : World) (A C : Obj) (x1 x2 x3 x4 y0 : Int) (t : TypeId) (tmps : Array Value) (h4 : tmps.getD 4 undef = .pointer (some ⟨w.heap.size + 1, 0, none⟩)) (r : Shp) (hr : r = ⟨[y0], x1, x2, x3, x4⟩) :
    bodyPost Tryz.prog Tryz.f46 (fun e w' => ∃ v, e = .returned v ∧ ShapeIs w.heap.size w' v r ∧ Below w.heap.size w w') .ret { tmps := tmps, defers := [] }
      ((((w.alloc A).alloc (.cells #[.slice (some ⟨w.heap.size + 1 + 1, 0, none⟩) 1 1, .int .i64 x1, .int .i64 x2, .int .i64 x3, .int .i64 x4] 98)).alloc (.cells #[.int .i64 y0] t)).alloc C) := by
  subst hr
  refine bodyPost_ret (results_cell_row rfl _ _ (w.heap.size + 1) 98 _ _ _ h4 (hrow_old2 _ _ _ _ _) Tryz.underlying98 rfl (by kernel_rfl)) rfl
    ⟨_, rfl, ⟨_, 1, rfl, by simp, .inr ⟨_, rfl, by omega, by simp, ?_⟩⟩, ((((Below.refl _ _).alloc (Nat.le_refl _) _).alloc (by simp) _).alloc (by simp; omega) _).alloc (by simp; omega) _⟩
  have h := hrow_old3 w A (.cells #[.slice (some ⟨w.heap.size + 1 + 1, 0, none⟩) 1 1, .int .i64 x1, .int .i64 x2, .int .i64 x3, .int .i64 x4] 98) (.cells #[.int .i64 y0] t) C
  simp [CellsAt, cell_of_row _ _ _ _ _ _ h]

theorem shp_leaf2 (w : World) (A C : Obj) (x1 x2 x3 x4 y0 y1 : Int) (t : TypeId) (tmps : Array Value) (h4 : tmps.getD 4 undef = .pointer (some ⟨w.heap.size + 1, 0, none⟩)) (r : Shp) (hr : r = ⟨[y0, y1], x1, x2, x3, x4⟩) :
    bodyPost Tryz.prog Tryz.f46 (fun e w' => ∃ v, e = .returned v ∧ ShapeIs w.heap.size w' v r ∧ Below w.heap.size w w') .ret { tmps := tmps, defers := [] }
      ((((w.alloc A).alloc (.cells #[.slice (some ⟨w.heap.size + 1 + 1, 0, none⟩) 2 2, .int .i64 x1, .int .i64 x2, .int .i64 x3, .int .i64 x4] 98)).alloc (.cells #[.int .i64 y0, .int .i64 y1] t)).alloc C) := by
  subst hr
  refine bodyPost_ret (results_cell_row rfl _ _ (w.heap.size + 1) 98 _ _ _ h4 (hrow_old2 _ _ _ _ _) Tryz.underlying98 rfl (by kernel_rfl)) rfl
    ⟨_, rfl, ⟨_, 2, rfl, by simp, .inr ⟨_, rfl, by omega, by simp, ?_⟩⟩, ((((Below.refl _ _).alloc (Nat.le_refl _) _).alloc (by simp) _).alloc (by simp; omega) _).alloc (by simp; omega) _⟩
  have h := hrow_old3 w A (.cells #[.slice (some ⟨w.heap.size + 1 + 1, 0, none⟩) 2 2, .int .i64 x1, .int .i64 x2, .int .i64 x3, .int .i64 x4] 98) (.cells #[.int .i64 y0, .int .i64 y1] t) C
  simp [CellsAt, cell_of_row _ _ _ _ _ _ h]

theorem shp_leaf3 (w : World) (A C : Obj) (x1 x2 x3 x4 y0 y1 y2 : Int) (t : TypeId) (tmps : Array Value) (h4 : tmps.getD 4 undef = .pointer (some ⟨w.heap.size + 1, 0, none⟩)) (r : Shp) (hr : r = ⟨[y0, y1, y2], x1, x2, x3, x4⟩) :
    bodyPost Tryz.prog Tryz.f46 (fun e w' => ∃ v, e = .returned v ∧ ShapeIs w.heap.size w' v r ∧ Below w.heap.size w w') .ret { tmps := tmps, defers := [] }
      ((((w.alloc A).alloc (.cells #[.slice (some ⟨w.heap.size + 1 + 1, 0, none⟩) 3 3, .int .i64 x1, .int .i64 x2, .int .i64 x3, .int .i64 x4] 98)).alloc (.cells #[.int .i64 y0, .int .i64 y1, .int .i64 y2] t)).alloc C) := by
  subst hr
  refine bodyPost_ret (results_cell_row rfl _ _ (w.heap.size + 1) 98 _ _ _ h4 (hrow_old2 _ _ _ _ _) Tryz.underlying98 rfl (by kernel_rfl)) rfl
    ⟨_, rfl, ⟨_, 3, rfl, by simp, .inr ⟨_, rfl, by omega, by simp, ?_⟩⟩, ((((Below.refl _ _).alloc (Nat.le_refl _) _).alloc (by simp) _).alloc (by simp; omega) _).alloc (by simp; omega) _⟩
  have h := hrow_old3 w A (.cells #[.slice (some ⟨w.heap.size + 1 + 1, 0, none⟩) 3 3, .int .i64 x1, .int .i64 x2, .int .i64 x3, .int .i64 x4] 98) (.cells #[.int .i64 y0, .int .i64 y1, .int .i64 y2] t) C
  simp [CellsAt, cell_of_row _ _ _ _ _ _ h]

theorem shp_leaf4 (w : World) (A C : Obj) (x1 x2 x3 x4 y0 y1 y2 y3 : Int) (t : TypeId) (tmps : Array Value) (h4 : tmps.getD 4 undef = .pointer (some ⟨w.heap.size + 1, 0, none⟩)) (r : Shp) (hr : r = ⟨[y0, y1, y2, y3], x1, x2, x3, x4⟩) :
    bodyPost Tryz.prog Tryz.f46 (fun e w' => ∃ v, e = .returned v ∧ ShapeIs w.heap.size w' v r ∧ Below w.heap.size w w') .ret { tmps := tmps, defers := [] }
      ((((w.alloc A).alloc (.cells #[.slice (some ⟨w.heap.size + 1 + 1, 0, none⟩) 4 4, .int .i64 x1, .int .i64 x2, .int .i64 x3, .int .i64 x4] 98)).alloc (.cells #[.int .i64 y0, .int .i64 y1, .int .i64 y2, .int .i64 y3] t)).alloc C) := by
  subst hr
  refine bodyPost_ret (results_cell_row rfl _ _ (w.heap.size + 1) 98 _ _ _ h4 (hrow_old2 _ _ _ _ _) Tryz.underlying98 rfl (by kernel_rfl)) rfl
    ⟨_, rfl, ⟨_, 4, rfl, by simp, .inr ⟨_, rfl, by omega, by simp, ?_⟩⟩, ((((Below.refl _ _).alloc (Nat.le_refl _) _).alloc (by simp) _).alloc (by simp; omega) _).alloc (by simp; omega) _⟩
  have h := hrow_old3 w A (.cells #[.slice (some ⟨w.heap.size + 1 + 1, 0, none⟩) 4 4, .int .i64 x1, .int .i64 x2, .int .i64 x3, .int .i64 x4] 98) (.cells #[.int .i64 y0, .int .i64 y1, .int .i64 y2, .int .i64 y3] t) C
  simp [CellsAt, cell_of_row _ _ _ _ _ _ h]


set_option maxRecDepth 100000 in
set_option maxHeartbeats 4000000 in
theorem statement_any (k : Int) (s : ByteArray) (n a : Int) (A : Option Addr) (cap : Nat) (ks : List Nd) (q : Int) (w : World) (h : Gl w)
    (hl : Lies w w.heap.size (.mk k s n a ks) (.agg #[.int .i64 k, .string s, .int .i64 n, .int .i64 a, .slice A ks.length cap])) :
    Calls Tryz.prog 69 #[.agg #[.int .i64 k, .string s, .int .i64 n, .int .i64 a, .slice A ks.length cap], .int .i64 q] w fun e w' =>
      ∃ v, e = .returned v ∧ ShapeIs w.heap.size w' v (stmtShape k q (typedB ks)) ∧ Below w.heap.size w w' := by
  have h17 : k = 17 → stmtShape k q (typedB ks) = rwS 10 [] := fun h => by subst h; rfl
  have H17 := Lib.hid h17
  clear h17
  have h19 : k = 19 → stmtShape k q (typedB ks) = fx [4, 4, 16] := fun h => by subst h; rfl
  have H19 := Lib.hid h19
  clear h19
  have h21 : k = 21 → stmtShape k q (typedB ks) = fx [4, 4, 16] := fun h => by subst h; rfl
  have H21 := Lib.hid h21
  clear h21
  have h20 : k = 20 → stmtShape k q (typedB ks) = fx [13, 11] := fun h => by subst h; rfl
  have H20 := Lib.hid h20
  clear h20
  have h22 : k = 22 → stmtShape k q (typedB ks) = fx [11, 9, 14] := fun h => by subst h; rfl
  have H22 := Lib.hid h22
  clear h22
  have h23 : k = 23 → stmtShape k q (typedB ks) = fx [12, 9] := fun h => by subst h; rfl
  have H23 := Lib.hid h23
  clear h23
  have h24 : k = 24 → stmtShape k q (typedB ks) = fx [15, 15, 11, 9] := fun h => by subst h; rfl
  have H24 := Lib.hid h24
  clear h24
  have h25 : k = 25 → stmtShape k q (typedB ks) = rwS 19 [12] := fun h => by subst h; rfl
  have H25 := Lib.hid h25
  clear h25
  have h26 : k = 26 → stmtShape k q (typedB ks) = rwS 20 [15, 11] := fun h => by subst h; rfl
  have H26 := Lib.hid h26
  clear h26
  have h28 : k = 28 → stmtShape k q (typedB ks) = fx [12] := fun h => by subst h; rfl
  have H28 := Lib.hid h28
  clear h28
  have h29 : k = 29 → stmtShape k q (typedB ks) = fx [17] := fun h => by subst h; rfl
  have H29 := Lib.hid h29
  clear h29
  have h30 : k = 30 → stmtShape k q (typedB ks) = fx [17] := fun h => by subst h; rfl
  have H30 := Lib.hid h30
  clear h30
  have h34 : k = 34 → stmtShape k q (typedB ks) = fx [13] := fun h => by subst h; rfl
  have H34 := Lib.hid h34
  clear h34
  have h27 : k = 27 → stmtShape k q (typedB ks) = if q = 20 ∨ (q = 0 ∧ typedB ks = true) then fx [22, 9] else fx [21, 9] := fun h => by subst h; rfl
  have H27 := Lib.hid h27
  clear h27
  have h00 : (k == 17) = false → (k == 19) = false → (k == 21) = false → (k == 20) = false → (k == 22) = false → (k == 23) = false → (k == 24) = false → (k == 25) = false → (k == 26) = false → (k == 27) = false → (k == 28) = false → (k == 29) = false → (k == 30) = false → (k == 34) = false → stmtShape k q (typedB ks) = fx [] := by
    intros
    simp_all [stmtShape]
  have H00 := Lib.hid h00
  clear h00
  obtain ⟨r, HF⟩ : ∃ r, Hid (stmtShape k q (typedB ks) = r) := ⟨_, rfl⟩
  rw [HF.out]
  have H := Lib.hid h
  have HL := Lib.hid hl
  clear h hl
  have hb0 : ∀ v t v' t', Below w.heap.size w ((w.alloc (.cells v t)).alloc (.cells v' t')) := fun v t v' t' => ((Below.refl _ _).alloc (Nat.le_refl _) _).alloc (by simp) _
  have HB := Lib.hid hb0
  have hb3 : ∀ v t v' t' v'' t'', Below w.heap.size w (((w.alloc (.cells v t)).alloc (.cells v' t')).alloc (.cells v'' t'')) := fun v t v' t' v'' t'' => (hb0 _ _ _ _).alloc (by simp; omega) _
  have HB3 := Lib.hid hb3
  have hb4 : ∀ v t v' t' v'' t'' v3 t3, Below w.heap.size w ((((w.alloc (.cells v t)).alloc (.cells v' t')).alloc (.cells v'' t'')).alloc (.cells v3 t3)) := fun v t v' t' v'' t'' v3 t3 => (hb3 _ _ _ _ _ _).alloc (by simp; omega) _
  have HB4 := Lib.hid hb4
  clear hb0 hb3 hb4
  go_enter Tryz.func69, Tryz.ntmps69
  go_wp2_with (first
    | (go_at_call 67; refine (fixed_any _ _ _ _).mono ?_; rintro e w' ⟨rfl, rfl⟩)
    | (go_at_call 66; refine (row_any _ _ _ _ _).mono ?_; rintro e w' ⟨rfl, rfl⟩)
    | (go_at_call 89; refine (typed_any k s n a A cap ks _ (H.out.up (HB.out _ _ _ _)) (HL.out.up (HB.out _ _ _ _))).mono ?_; rintro e w' ⟨rfl, hb⟩
       have hrow : w'.heap[w.heap.size + 1]? = some (.cells #[.slice none 0 0, .int .i64 0, .int .i64 0, .int .i64 0, .int .i64 0] 98) := (hb.block _ (by simp)).trans (heap_alloc2_new _ _ _)
       have HROW := Lib.hid hrow
       have e0 : ∀ i, w'.cell? ⟨w.heap.size + 1, i, none⟩ = (#[Value.slice none 0 0, .int .i64 0, .int .i64 0, .int .i64 0, .int .i64 0])[i]? := fun i => cell_of_row w' _ i _ _ _ hrow
       have c0 : w'.cell? ⟨w.heap.size + 1, 0, none⟩ = some (.slice none 0 0) := e0 0
       have c1 : w'.cell? ⟨w.heap.size + 1, 1, none⟩ = some (.int .i64 0) := e0 1
       have c2 : w'.cell? ⟨w.heap.size + 1, 2, none⟩ = some (.int .i64 0) := e0 2
       have c3 : w'.cell? ⟨w.heap.size + 1, 3, none⟩ = some (.int .i64 0) := e0 3
       have c4 : w'.cell? ⟨w.heap.size + 1, 4, none⟩ = some (.int .i64 0) := e0 4
       have f0 : ∀ i, w'.frozen? ⟨w.heap.size + 1, i, none⟩ = false := fun i => frozen_of_row w' _ i _ _ hrow
       have hsz : w.heap.size + 1 < w'.heap.size := by have := hb.size; simp at this; omega
       have hsz2 : w.heap.size < w'.heap.size := by omega
       have hne : ¬ w.heap.size + 1 = w'.heap.size := by omega
       have hne2 : ¬ w.heap.size + 1 = w'.heap.size + 1 := by omega
       have HBB := Lib.hid hb
       clear hrow e0 hb))
  all_goals first
    | (have hR := HROW.out
       have hBW := (HB.out _ _ _ _).trans (HBB.out.mono (by simp; omega))
       first
         | exact stmt_leafT w w' _ _ _ _ _ _ _ _ _ _ _ _ _ hR hsz hBW _ rfl _ (HF.out.symm.trans ((H27.out (eq_of_beq (by assumption))).trans (if_pos (.inr ⟨by assumption, by assumption⟩))))
         | exact stmt_leafT w w' _ _ _ _ _ _ _ _ _ _ _ _ _ hR hsz hBW _ rfl _ (HF.out.symm.trans ((H27.out (eq_of_beq (by assumption))).trans (if_neg (fun h => h.elim (by assumption) (fun h => Bool.noConfusion (h.2.symm.trans (by assumption : typedB ks = false))))))))
    | (exact stmt_leaf0 w _ _ _ _ _ _ _ rfl _ (HF.out.symm.trans (H17.out (eq_of_beq (by assumption)))))
    | (exact stmt_leaf3 w _ _ _ _ _ _ _ _ _ _ _ rfl _ (HF.out.symm.trans (H19.out (eq_of_beq (by assumption)))))
    | (exact stmt_leaf3 w _ _ _ _ _ _ _ _ _ _ _ rfl _ (HF.out.symm.trans (H21.out (eq_of_beq (by assumption)))))
    | (exact stmt_leaf2 w _ _ _ _ _ _ _ _ _ _ rfl _ (HF.out.symm.trans (H20.out (eq_of_beq (by assumption)))))
    | (exact stmt_leaf3 w _ _ _ _ _ _ _ _ _ _ _ rfl _ (HF.out.symm.trans (H22.out (eq_of_beq (by assumption)))))
    | (exact stmt_leaf2 w _ _ _ _ _ _ _ _ _ _ rfl _ (HF.out.symm.trans (H23.out (eq_of_beq (by assumption)))))
    | (exact stmt_leaf4 w _ _ _ _ _ _ _ _ _ _ _ _ rfl _ (HF.out.symm.trans (H24.out (eq_of_beq (by assumption)))))
    | (exact stmt_leaf1 w _ _ _ _ _ _ _ _ _ rfl _ (HF.out.symm.trans (H25.out (eq_of_beq (by assumption)))))
    | (exact stmt_leaf2 w _ _ _ _ _ _ _ _ _ _ rfl _ (HF.out.symm.trans (H26.out (eq_of_beq (by assumption)))))
    | (exact stmt_leaf1 w _ _ _ _ _ _ _ _ _ rfl _ (HF.out.symm.trans (H28.out (eq_of_beq (by assumption)))))
    | (exact stmt_leaf1 w _ _ _ _ _ _ _ _ _ rfl _ (HF.out.symm.trans (H29.out (eq_of_beq (by assumption)))))
    | (exact stmt_leaf1 w _ _ _ _ _ _ _ _ _ rfl _ (HF.out.symm.trans (H30.out (eq_of_beq (by assumption)))))
    | (exact stmt_leaf1 w _ _ _ _ _ _ _ _ _ rfl _ (HF.out.symm.trans (H34.out (eq_of_beq (by assumption)))))
    | (exact stmt_leaf0 w _ _ _ _ _ _ _ rfl _ (HF.out.symm.trans (H00.out (by assumption) (by assumption) (by assumption) (by assumption) (by assumption) (by assumption) (by assumption) (by assumption) (by assumption) (by assumption) (by assumption) (by assumption) (by assumption) (by assumption))))
    | (exact stmt_leaf2 w _ _ _ _ _ _ _ _ _ _ rfl _ (HF.out.symm.trans ((H27.out (eq_of_beq (by assumption))).trans (if_pos (.inl (by assumption))))))
    | (exact stmt_leaf2 w _ _ _ _ _ _ _ _ _ _ rfl _ (HF.out.symm.trans ((H27.out (eq_of_beq (by assumption))).trans (if_neg (fun h => h.elim (by assumption) (fun h => (by assumption : ¬ q = 0) h.1))))))

end Go.Proofs.YtjpmghgmmeemkaaGreatDoor

namespace Go.Proofs.YtjpmghgmmeemkaaGreatDoor
open Go.RowKit


theorem CellsAt.setCell {w : World} {b : Nat} {p : Addr} {v : Value} (hb : p.block ≠ b) : ∀ {l : List Int} {j : Nat}, CellsAt w b l j → CellsAt (w.setCell p v) b l j
  | [], _, _ => trivial
  | y :: l, j, h => ⟨by rw [World.cell?_setCell_other (h := fun e => hb (by rw [e]))]; exact h.1, CellsAt.setCell hb h.2⟩

theorem shp_leafS (w w' : World) (A' : Option Addr) (cap' : Nat) (x1 x2 x3 x4 : Int) (z0 z1 z2 z3 z4 : Value) (l : List Int) (h : w'.heap[w.heap.size + 1]? = some (.cells #[z0, z1, z2, z3, z4] 98)) (hB : Below w.heap.size w w')
    (hlen : l.length ≤ 4) (hf : l = [] ∨ ∃ b, A' = some ⟨b, 0, none⟩ ∧ w.heap.size + 2 ≤ b ∧ b < w'.heap.size ∧ CellsAt w' b l 0)
    (tmps : Array Value) (h4 : tmps.getD 4 undef = .pointer (some ⟨w.heap.size + 1, 0, none⟩)) (r : Shp) (hr : r = ⟨l, x1, x2, x3, x4⟩) :
    bodyPost Tryz.prog Tryz.f46 (fun e w' => ∃ v, e = .returned v ∧ ShapeIs w.heap.size w' v r ∧ Below w.heap.size w w') .ret { tmps := tmps, defers := [] }
      (((((w'.setCell ⟨w.heap.size + 1, 0, none⟩ (.slice A' l.length cap')).setCell ⟨w.heap.size + 1, 1, none⟩ (.int .i64 x1)).setCell ⟨w.heap.size + 1, 2, none⟩ (.int .i64 x2)).setCell ⟨w.heap.size + 1, 3, none⟩ (.int .i64 x3)).setCell ⟨w.heap.size + 1, 4, none⟩ (.int .i64 x4)) := by
  subst hr
  have h5 := hrow_five w' (w.heap.size + 1) _ z0 z1 z2 z3 z4 (.slice A' l.length cap') (.int .i64 x1) (.int .i64 x2) (.int .i64 x3) (.int .i64 x4) h
  refine bodyPost_ret (results_cell_row rfl _ _ (w.heap.size + 1) 98 _ _ _ h4 h5 Tryz.underlying98 rfl (by kernel_rfl)) rfl
    ⟨_, rfl, ⟨A', cap', rfl, hlen, ?_⟩, ((((hB.setCell (p := ⟨w.heap.size + 1, 0, none⟩) (Nat.le_succ _) _).setCell (p := ⟨w.heap.size + 1, 1, none⟩) (Nat.le_succ _) _).setCell (p := ⟨w.heap.size + 1, 2, none⟩) (Nat.le_succ _) _).setCell (p := ⟨w.heap.size + 1, 3, none⟩) (Nat.le_succ _) _).setCell (p := ⟨w.heap.size + 1, 4, none⟩) (Nat.le_succ _) _⟩
  rcases hf with hf | ⟨b, hA, hb1, hb2, hc⟩
  · exact .inl hf
  · have hne : w.heap.size + 1 ≠ b := by omega
    exact .inr ⟨b, hA, by omega, by simpa using hb2, CellsAt.setCell hne (CellsAt.setCell hne (CellsAt.setCell hne (CellsAt.setCell hne (CellsAt.setCell hne hc))))⟩

set_option maxRecDepth 100000 in
set_option maxHeartbeats 2000000 in
theorem shaped_47 (s : ByteArray) (n a : Int) (A : Option Addr) (cap : Nat) (ks : List Nd) (q : Int) (w : World)
    (hl : Lies w w.heap.size (.mk 47 s n a ks) (.agg #[.int .i64 47, .string s, .int .i64 n, .int .i64 a, .slice A ks.length cap])) :
    Calls Tryz.prog 46 #[.agg #[.int .i64 47, .string s, .int .i64 n, .int .i64 a, .slice A ks.length cap], .int .i64 q] w fun e w' =>
      ∃ v, e = .returned v ∧ ShapeIs w.heap.size w' v (shapeOf 47 s ks q) ∧ Below w.heap.size w w' := by
  have hr0 : shapeOf 47 s ks q = fx [11, 12, 12, lastOf ks] := rfl
  rw [hr0]
  unfold Lies at hl
  obtain ⟨A', cap', he, _, _, _, _, hcl, hcc, hkids⟩ := hl
  simp only [Value.agg.injEq, Array.mk.injEq, List.cons.injEq, Value.slice.injEq, and_true, true_and] at he
  obtain ⟨rfl, rfl⟩ := he
  by_cases h4 : ks.length = 4
  · obtain ⟨b, o, c, rfl, hlt, hc, hlast⟩ : ∃ b o c, A = some ⟨b, o, none⟩ ∧ b < w.heap.size ∧ w.cell? ⟨b, o + 10, none⟩ = some (.int .i64 c) ∧ lastOf ks = if c = 16 then 29 else 12 := by
      rcases hkids with rfl | ⟨b, o, rfl, hlt, hkl⟩
      · simp at h4
      · obtain ⟨k1, s1, n1, a1, A1, cap1, ks1, hx, c0, _⟩ := LiesL.get 2 (by omega) hkl
        refine ⟨b, o, k1, rfl, hlt, c0, ?_⟩
        unfold lastOf
        rw [hx]
        by_cases hk1 : k1 = 16 <;> simp [h4, Nd.kind, hk1]
    have hc2 : ∀ v t v' t', ((w.alloc (.cells v t)).alloc (.cells v' t')).cell? ⟨b, o + 10, none⟩ = some (.int .i64 c) := fun v t v' t' => by
      rw [(((Below.refl w.heap.size w).alloc (Nat.le_refl _) (.cells v t)).alloc (by simp) (.cells v' t')).cell (p := ⟨b, o + 10, none⟩) hlt]; exact hc
    have hc3 : ∀ v t v' t' v'' t'', (((w.alloc (.cells v t)).alloc (.cells v' t')).alloc (.cells v'' t'')).cell? ⟨b, o + 10, none⟩ = some (.int .i64 c) := fun v t v' t' v'' t'' => by
      rw [((((Below.refl w.heap.size w).alloc (Nat.le_refl _) (.cells v t)).alloc (by simp) (.cells v' t')).alloc (by simp; omega) (.cells v'' t'')).cell (p := ⟨b, o + 10, none⟩) hlt]; exact hc
    rw [hlast]
    clear hlast hkids hc
    rw [h4] at hcl ⊢
    clear h4
    by_cases h16 : c = 16
    · subst h16
      go_enter Tryz.func46, Tryz.ntmps46
      go_wp2_with (first
        | (go_at_call 67; refine (fixed_any _ _ _ _).mono ?_; rintro e w' ⟨rfl, rfl⟩))
      exact shp_leaf4 w _ _ _ _ _ _ _ _ _ _ _ _ rfl _ rfl
    · have h16b : (c == 16) = false := by simp [h16]
      rw [if_neg h16]
      go_enter Tryz.func46, Tryz.ntmps46
      go_wp2_with (first
        | (go_at_call 67; refine (fixed_any _ _ _ _).mono ?_; rintro e w' ⟨rfl, rfl⟩))
      exact shp_leaf4 w _ _ _ _ _ _ _ _ _ _ _ _ rfl _ rfl
  · have hlast : lastOf ks = 12 := by simp [lastOf, h4]
    rw [hlast]
    have h4b : (((ks.length : Nat) : Int) == 4) = false := by simp; omega
    clear h4 hlast hkids
    go_enter Tryz.func46, Tryz.ntmps46
    go_wp2_with (first
      | (go_at_call 67; refine (fixed_any _ _ _ _).mono ?_; rintro e w' ⟨rfl, rfl⟩))
    exact shp_leaf4 w _ _ _ _ _ _ _ _ _ _ _ _ rfl _ rfl

set_option maxRecDepth 100000 in
set_option maxHeartbeats 2000000 in
theorem shaped_40 (s : ByteArray) (n a : Int) (A : Option Addr) (len cap : Nat) (ks : List Nd) (q : Int) (w : World) :
    Calls Tryz.prog 46 #[.agg #[.int .i64 40, .string s, .int .i64 n, .int .i64 a, .slice A len cap], .int .i64 q] w fun e w' =>
      ∃ v, e = .returned v ∧ ShapeIs w.heap.size w' v (shapeOf 40 s ks q) ∧ Below w.heap.size w w' := by
  have hr0 : shapeOf 40 s ks q = if q = 27 ∨ (q = 0 ∧ ¬ s.toList = []) then fx [11] else fx [11, 11] := rfl
  rw [hr0]
  have H1 : Hid (q = 27 → (if q = 27 ∨ (q = 0 ∧ ¬ s.toList = []) then fx [11] else fx [11, 11]) = fx [11]) := fun h => if_pos (.inl h)
  have H2 : Hid (q = 0 → (!s.toList.isEmpty) = true → (if q = 27 ∨ (q = 0 ∧ ¬ s.toList = []) then fx [11] else fx [11, 11]) = fx [11]) := fun h h' => if_pos (.inr ⟨h, by simpa using h'⟩)
  have H3 : Hid (¬ q = 27 → (!s.toList.isEmpty) = false → (if q = 27 ∨ (q = 0 ∧ ¬ s.toList = []) then fx [11] else fx [11, 11]) = fx [11, 11]) := fun h h' => if_neg (fun e => e.elim h (fun e => e.2 (by simpa using h')))
  have H4 : Hid (¬ q = 27 → ¬ q = 0 → (if q = 27 ∨ (q = 0 ∧ ¬ s.toList = []) then fx [11] else fx [11, 11]) = fx [11, 11]) := fun h h' => if_neg (fun e => e.elim h (fun e => h' e.1))
  obtain ⟨r, HF⟩ : ∃ r, Hid ((if q = 27 ∨ (q = 0 ∧ ¬ s.toList = []) then fx [11] else fx [11, 11]) = r) := ⟨_, rfl⟩
  rw [HF.out]
  go_enter Tryz.func46, Tryz.ntmps46
  go_wp2_with (first
    | (go_at_call 67; refine (fixed_any _ _ _ _).mono ?_; rintro e w' ⟨rfl, rfl⟩))
  all_goals first
    | exact shp_leaf1 w _ _ _ _ _ _ _ _ _ rfl _ (HF.out.symm.trans (H1.out (by assumption)))
    | exact shp_leaf1 w _ _ _ _ _ _ _ _ _ rfl _ (HF.out.symm.trans (H2.out (by assumption) (by assumption)))
    | exact shp_leaf2 w _ _ _ _ _ _ _ _ _ _ rfl _ (HF.out.symm.trans (H3.out (by assumption) (by assumption)))
    | exact shp_leaf2 w _ _ _ _ _ _ _ _ _ _ rfl _ (HF.out.symm.trans (H4.out (by assumption) (by assumption)))

theorem shp_leaf0b (w : World) (A C D : Obj) (x1 x2 x3 x4 : Int) (tmps : Array Value) (h4 : tmps.getD 4 undef = .pointer (some ⟨w.heap.size + 1, 0, none⟩)) (r : Shp) (hr : r = ⟨[], x1, x2, x3, x4⟩) :
    bodyPost Tryz.prog Tryz.f46 (fun e w' => ∃ v, e = .returned v ∧ ShapeIs w.heap.size w' v r ∧ Below w.heap.size w w') .ret { tmps := tmps, defers := [] }
      ((((w.alloc A).alloc (.cells #[.slice none 0 0, .int .i64 x1, .int .i64 x2, .int .i64 x3, .int .i64 x4] 98)).alloc C).alloc D) := by
  subst hr
  exact bodyPost_ret (results_cell_row rfl _ _ (w.heap.size + 1) 98 _ _ _ h4 (hrow_old2 _ _ _ _ _) Tryz.underlying98 rfl (by kernel_rfl)) rfl
    ⟨_, rfl, ⟨none, 0, rfl, by simp, .inl rfl⟩, ((((Below.refl _ _).alloc (Nat.le_refl _) _).alloc (by simp) _).alloc (by simp; omega) _).alloc (by simp; omega) _⟩

set_option maxRecDepth 100000 in
set_option maxHeartbeats 2000000 in
theorem shaped_38 (s : ByteArray) (n a : Int) (A : Option Addr) (len cap : Nat) (ks : List Nd) (q : Int) (w : World) :
    Calls Tryz.prog 46 #[.agg #[.int .i64 38, .string s, .int .i64 n, .int .i64 a, .slice A len cap], .int .i64 q] w fun e w' =>
      ∃ v, e = .returned v ∧ ShapeIs w.heap.size w' v (shapeOf 38 s ks q) ∧ Below w.heap.size w w' := by
  have hr0 : shapeOf 38 s ks q = if q = 22 then ⟨[], 23, 1, -1, 20⟩ else if q = 21 then ⟨[], 11, 1, -1, 20⟩ else rwS 11 [] := rfl
  rw [hr0]
  have H1 : Hid ((q == 22) = true → (if q = 22 then ⟨[], 23, 1, -1, 20⟩ else if q = 21 then ⟨[], 11, 1, -1, 20⟩ else rwS 11 [] : Shp) = ⟨[], 23, 1, -1, 20⟩) := fun h => if_pos (eq_of_beq h)
  have H2 : Hid ((q == 22) = false → (q == 21) = true → (if q = 22 then ⟨[], 23, 1, -1, 20⟩ else if q = 21 then ⟨[], 11, 1, -1, 20⟩ else rwS 11 [] : Shp) = ⟨[], 11, 1, -1, 20⟩) := fun h h' => by rw [if_neg (by simpa using h), if_pos (eq_of_beq h')]
  have H3 : Hid ((q == 22) = false → (q == 21) = false → (if q = 22 then ⟨[], 23, 1, -1, 20⟩ else if q = 21 then ⟨[], 11, 1, -1, 20⟩ else rwS 11 [] : Shp) = rwS 11 []) := fun h h' => by rw [if_neg (by simpa using h), if_neg (by simpa using h')]
  obtain ⟨r, HF⟩ : ∃ r, Hid ((if q = 22 then ⟨[], 23, 1, -1, 20⟩ else if q = 21 then ⟨[], 11, 1, -1, 20⟩ else rwS 11 [] : Shp) = r) := ⟨_, rfl⟩
  rw [HF.out]
  go_enter Tryz.func46, Tryz.ntmps46
  go_wp2_with (first
    | (go_at_call 66; refine (row_any _ _ _ _ _).mono ?_; rintro e w' ⟨rfl, rfl⟩))
  all_goals first
    | exact shp_leaf0b w _ _ _ _ _ _ _ _ rfl _ (HF.out.symm.trans (H1.out (by assumption)))
    | exact shp_leaf0b w _ _ _ _ _ _ _ _ rfl _ (HF.out.symm.trans (H2.out (by assumption) (by assumption)))
    | exact shp_leaf0b w _ _ _ _ _ _ _ _ rfl _ (HF.out.symm.trans (H3.out (by assumption) (by assumption)))

end Go.Proofs.YtjpmghgmmeemkaaGreatDoor

namespace Go.Proofs.YtjpmghgmmeemkaaGreatDoor
open Go.RowKit


set_option maxRecDepth 100000 in
set_option maxHeartbeats 8000000 in
theorem shaped_any (k : Int) (s : ByteArray) (n a : Int) (A : Option Addr) (cap : Nat) (ks : List Nd) (q : Int) (w : World) (h : Gl w)
    (hl : Lies w w.heap.size (.mk k s n a ks) (.agg #[.int .i64 k, .string s, .int .i64 n, .int .i64 a, .slice A ks.length cap])) :
    Calls Tryz.prog 46 #[.agg #[.int .i64 k, .string s, .int .i64 n, .int .i64 a, .slice A ks.length cap], .int .i64 q] w fun e w' =>
      ∃ v, e = .returned v ∧ ShapeIs w.heap.size w' v (shapeOf k s ks q) ∧ Below w.heap.size w w' := by
  by_cases e47 : k = 47
  · subst e47; exact shaped_47 s n a A cap ks q w hl
  by_cases e40 : k = 40
  · subst e40; exact shaped_40 s n a A ks.length cap ks q w
  by_cases e38 : k = 38
  · subst e38; exact shaped_38 s n a A ks.length cap ks q w
  have b47 : (k == 47) = false := by simp [e47]
  have b40 : (k == 40) = false := by simp [e40]
  have b38 : (k == 38) = false := by simp [e38]
  clear e47 e40 e38
  have h1 : k = 1 → shapeOf k s ks q = rwS 1 [] := fun h => by subst h; rfl
  have H1 := Lib.hid h1
  clear h1
  have h2 : k = 2 → shapeOf k s ks q = fx [5] := fun h => by subst h; rfl
  have H2 := Lib.hid h2
  clear h2
  have h3 : k = 3 → shapeOf k s ks q = lim 2 30 := fun h => by subst h; rfl
  have H3 := Lib.hid h3
  clear h3
  have h4 : k = 4 → shapeOf k s ks q = lim 3 60 := fun h => by subst h; rfl
  have H4 := Lib.hid h4
  clear h4
  have h5 : k = 5 → shapeOf k s ks q = fx [8, 9] := fun h => by subst h; rfl
  have H5 := Lib.hid h5
  clear h5
  have h43 : k = 43 → shapeOf k s ks q = fx [8, 9] := fun h => by subst h; rfl
  have H43 := Lib.hid h43
  clear h43
  have h6 : k = 6 → shapeOf k s ks q = fx [7, 8, 9] := fun h => by subst h; rfl
  have H6 := Lib.hid h6
  clear h6
  have h7 : k = 7 → shapeOf k s ks q = fx [11] := fun h => by subst h; rfl
  have H7 := Lib.hid h7
  clear h7
  have h18 : k = 18 → shapeOf k s ks q = fx [11] := fun h => by subst h; rfl
  have H18 := Lib.hid h18
  clear h18
  have h45 : k = 45 → shapeOf k s ks q = fx [11] := fun h => by subst h; rfl
  have H45 := Lib.hid h45
  clear h45
  have h50 : k = 50 → shapeOf k s ks q = fx [11] := fun h => by subst h; rfl
  have H50 := Lib.hid h50
  clear h50
  have h12 : k = 12 → shapeOf k s ks q = fx [6] := fun h => by subst h; rfl
  have H12 := Lib.hid h12
  clear h12
  have h13 : k = 13 → shapeOf k s ks q = lim 4 12 := fun h => by subst h; rfl
  have H13 := Lib.hid h13
  clear h13
  have h15 : k = 15 → shapeOf k s ks q = fx [4] := fun h => by subst h; rfl
  have H15 := Lib.hid h15
  clear h15
  have h42 : k = 42 → shapeOf k s ks q = fx [28] := fun h => by subst h; rfl
  have H42 := Lib.hid h42
  clear h42
  have h44 : k = 44 → shapeOf k s ks q = fx [25] := fun h => by subst h; rfl
  have H44 := Lib.hid h44
  clear h44
  have h46 : k = 46 → shapeOf k s ks q = fx [11, 11] := fun h => by subst h; rfl
  have H46 := Lib.hid h46
  clear h46
  have h51 : k = 51 → shapeOf k s ks q = fx [11, 11] := fun h => by subst h; rfl
  have H51 := Lib.hid h51
  clear h51
  have h49 : k = 49 → shapeOf k s ks q = fx [11, 24] := fun h => by subst h; rfl
  have H49 := Lib.hid h49
  clear h49
  have h48 : k = 48 → shapeOf k s ks q = rwS 11 [18] := fun h => by subst h; rfl
  have H48 := Lib.hid h48
  clear h48
  have h39 : k = 39 → shapeOf k s ks q = rwS 26 [] := fun h => by subst h; rfl
  have H39 := Lib.hid h39
  clear h39
  have h41 : k = 41 → shapeOf k s ks q = rwS 27 [] := fun h => by subst h; rfl
  have H41 := Lib.hid h41
  clear h41
  have h00 : (k == 1) = false → (k == 2) = false → (k == 3) = false → (k == 4) = false → (k == 5) = false → (k == 43) = false → (k == 6) = false → (k == 7) = false → (k == 18) = false → (k == 45) = false → (k == 50) = false → (k == 12) = false → (k == 13) = false → (k == 15) = false → (k == 42) = false → (k == 44) = false → (k == 46) = false → (k == 51) = false → (k == 49) = false → (k == 48) = false → (k == 39) = false → (k == 41) = false → (k == 47) = false → (k == 40) = false → (k == 38) = false → shapeOf k s ks q = stmtShape k q (typedB ks) := by
    intros
    simp_all [shapeOf]
  have H00 := Lib.hid h00
  clear h00
  obtain ⟨r, HF⟩ : ∃ r, Hid (shapeOf k s ks q = r) := ⟨_, rfl⟩
  rw [HF.out]
  have H := Lib.hid h
  have HL := Lib.hid hl
  clear h hl
  have hb0 : ∀ v t v' t', Below w.heap.size w ((w.alloc (.cells v t)).alloc (.cells v' t')) := fun v t v' t' => ((Below.refl _ _).alloc (Nat.le_refl _) _).alloc (by simp) _
  have HB := Lib.hid hb0
  clear hb0
  go_enter Tryz.func46, Tryz.ntmps46
  go_wp2_with (first
    | (go_at_call 67; refine (fixed_any _ _ _ _).mono ?_; rintro e w' ⟨rfl, rfl⟩)
    | (go_at_call 68; refine (limited_any _ _ _).mono ?_; rintro e w' ⟨rfl, rfl⟩)
    | (go_at_call 66; refine (row_any _ _ _ _ _).mono ?_; rintro e w' ⟨rfl, rfl⟩)
    | (go_at_call 69; refine (statement_any k s n a A cap ks q _ (H.out.up (HB.out _ _ _ _)) (HL.out.up (HB.out _ _ _ _))).mono ?_; rintro e w' ⟨v, rfl, ⟨A', cap', rfl, hlen, hfirst⟩, hb⟩
       have hrow : w'.heap[w.heap.size + 1]? = some (.cells #[.slice none 0 0, .int .i64 0, .int .i64 0, .int .i64 0, .int .i64 0] 98) := (hb.block _ (by simp)).trans (heap_alloc2_new _ _ _)
       have HROW := Lib.hid hrow
       have HFIRST := Lib.hid hfirst
       have e0 : ∀ i, w'.cell? ⟨w.heap.size + 1, i, none⟩ = (#[Value.slice none 0 0, .int .i64 0, .int .i64 0, .int .i64 0, .int .i64 0])[i]? := fun i => cell_of_row w' _ i _ _ _ hrow
       have c0 : w'.cell? ⟨w.heap.size + 1, 0, none⟩ = some (.slice none 0 0) := e0 0
       have c1 : w'.cell? ⟨w.heap.size + 1, 1, none⟩ = some (.int .i64 0) := e0 1
       have c2 : w'.cell? ⟨w.heap.size + 1, 2, none⟩ = some (.int .i64 0) := e0 2
       have c3 : w'.cell? ⟨w.heap.size + 1, 3, none⟩ = some (.int .i64 0) := e0 3
       have c4 : w'.cell? ⟨w.heap.size + 1, 4, none⟩ = some (.int .i64 0) := e0 4
       have f0 : ∀ i, w'.frozen? ⟨w.heap.size + 1, i, none⟩ = false := fun i => frozen_of_row w' _ i _ _ hrow
       have HBB := Lib.hid hb
       have HLEN := Lib.hid hlen
       clear hrow e0 hb hfirst hlen))
  all_goals first
    | (have hR := HROW.out
       have hBW := (HB.out _ _ _ _).trans (HBB.out.mono (by simp; omega))
       have hfi := HFIRST.out
       have hle := HLEN.out
       have hr := HF.out.symm.trans (H00.out (by assumption) (by assumption) (by assumption) (by assumption) (by assumption) (by assumption) (by assumption) (by assumption) (by assumption) (by assumption) (by assumption) (by assumption) (by assumption) (by assumption) (by assumption) (by assumption) (by assumption) (by assumption) (by assumption) (by assumption) (by assumption) (by assumption) (by assumption) (by assumption) (by assumption))
       simp only [World.size_alloc] at hfi
       rw [hr]
       exact shp_leafS w w' A' cap' _ _ _ _ _ _ _ _ _ _ hR hBW hle hfi _ rfl _ rfl)
    | (exact shp_leaf0 w _ _ _ _ _ _ _ rfl _ (HF.out.symm.trans (H1.out (eq_of_beq (by assumption)))))
    | (exact shp_leaf1 w _ _ _ _ _ _ _ _ _ rfl _ (HF.out.symm.trans (H2.out (eq_of_beq (by assumption)))))
    | (exact shp_leaf0 w _ _ _ _ _ _ _ rfl _ (HF.out.symm.trans (H3.out (eq_of_beq (by assumption)))))
    | (exact shp_leaf0 w _ _ _ _ _ _ _ rfl _ (HF.out.symm.trans (H4.out (eq_of_beq (by assumption)))))
    | (exact shp_leaf2 w _ _ _ _ _ _ _ _ _ _ rfl _ (HF.out.symm.trans (H5.out (eq_of_beq (by assumption)))))
    | (exact shp_leaf2 w _ _ _ _ _ _ _ _ _ _ rfl _ (HF.out.symm.trans (H43.out (eq_of_beq (by assumption)))))
    | (exact shp_leaf3 w _ _ _ _ _ _ _ _ _ _ _ rfl _ (HF.out.symm.trans (H6.out (eq_of_beq (by assumption)))))
    | (exact shp_leaf1 w _ _ _ _ _ _ _ _ _ rfl _ (HF.out.symm.trans (H7.out (eq_of_beq (by assumption)))))
    | (exact shp_leaf1 w _ _ _ _ _ _ _ _ _ rfl _ (HF.out.symm.trans (H18.out (eq_of_beq (by assumption)))))
    | (exact shp_leaf1 w _ _ _ _ _ _ _ _ _ rfl _ (HF.out.symm.trans (H45.out (eq_of_beq (by assumption)))))
    | (exact shp_leaf1 w _ _ _ _ _ _ _ _ _ rfl _ (HF.out.symm.trans (H50.out (eq_of_beq (by assumption)))))
    | (exact shp_leaf1 w _ _ _ _ _ _ _ _ _ rfl _ (HF.out.symm.trans (H12.out (eq_of_beq (by assumption)))))
    | (exact shp_leaf0 w _ _ _ _ _ _ _ rfl _ (HF.out.symm.trans (H13.out (eq_of_beq (by assumption)))))
    | (exact shp_leaf1 w _ _ _ _ _ _ _ _ _ rfl _ (HF.out.symm.trans (H15.out (eq_of_beq (by assumption)))))
    | (exact shp_leaf1 w _ _ _ _ _ _ _ _ _ rfl _ (HF.out.symm.trans (H42.out (eq_of_beq (by assumption)))))
    | (exact shp_leaf1 w _ _ _ _ _ _ _ _ _ rfl _ (HF.out.symm.trans (H44.out (eq_of_beq (by assumption)))))
    | (exact shp_leaf2 w _ _ _ _ _ _ _ _ _ _ rfl _ (HF.out.symm.trans (H46.out (eq_of_beq (by assumption)))))
    | (exact shp_leaf2 w _ _ _ _ _ _ _ _ _ _ rfl _ (HF.out.symm.trans (H51.out (eq_of_beq (by assumption)))))
    | (exact shp_leaf2 w _ _ _ _ _ _ _ _ _ _ rfl _ (HF.out.symm.trans (H49.out (eq_of_beq (by assumption)))))
    | (exact shp_leaf1 w _ _ _ _ _ _ _ _ _ rfl _ (HF.out.symm.trans (H48.out (eq_of_beq (by assumption)))))
    | (exact shp_leaf0 w _ _ _ _ _ _ _ rfl _ (HF.out.symm.trans (H39.out (eq_of_beq (by assumption)))))
    | (exact shp_leaf0 w _ _ _ _ _ _ _ rfl _ (HF.out.symm.trans (H41.out (eq_of_beq (by assumption)))))

end Go.Proofs.YtjpmghgmmeemkaaGreatDoor
