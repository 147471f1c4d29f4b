/- lex.number. lex.sign. lex.one. lex.ending. The scanner's law: how far a token reaches; what scanning comes to. lex.Scan. tree.ints, tree.floats, at every text. -/
import Derived.Deep.DeepCutAuto
import Derived.Test.YtjpmghgmmeemkaaGreatDoorJScanA
import Derived.Test.YtjpmghgmmeemkaaGreatDoorJScan1
import Derived.Test.YtjpmghgmmeemkaaGreatDoorJAs
import Derived.Test.YtjpmghgmmeemkaaGreatDoorJLookSpec
namespace Go.Proofs.YtjpmghgmmeemkaaGreatDoor
open Go.RowKit

theorem ba_piece (l : List UInt8) (i j : Nat) : (⟨⟨l⟩⟩ : ByteArray).extract i (i + j) = ⟨⟨(l.drop i).take j⟩⟩ := by
  apply ByteArray.ext
  simp
theorem runN_le (b : Bool) : ∀ l : List UInt8, runN b l ≤ l.length
  | [] => by simp [runN]
  | c :: r => by
    unfold runN
    split
    · have := runN_le b r
      simp only [List.length_cons]; omega
    · omega

/-- Is a digits' run followed by a point and a digit? -/
def floatB : List UInt8 → Bool
  | d :: c :: _ => d == 46 && digitB c.toNat
  | _ => false

def topL : List UInt8 := [57, 50, 50, 51, 51, 55, 50, 48, 51, 54, 56, 53, 52, 55, 55, 53, 56, 48, 55]
/-- A number's digits that are more than an int holds. -/
def overB (wh : List UInt8) : Bool := decide (19 < wh.length) || (wh.length == 19 && (!Op.bytesLess wh topL && !(wh == topL)))

/-- A number's parts: the digits ahead, what follows them, the digits behind a point. -/
def whL (s : List UInt8) : List UInt8 := s.take (runN false s)
def restL (s : List UInt8) : List UInt8 := s.drop (runN false s)
def partL (s : List UInt8) : List UInt8 := if floatB (restL s) then ((restL s).drop 1).take (runN false ((restL s).drop 1)) else []
def numN (s : List UInt8) : Nat := runN false s + (if floatB (restL s) then 1 + (partL s).length else 0)
/-- Is a number wrong? -/
def numBad (s : List UInt8) : Bool := (!floatB (restL s) && overB (whL s)) || decide (0 < runN true (s.drop (numN s))) || (decide (1 < (whL s).length) && (whL s).head? == some 48) || (floatB (restL s) && decide (15 < (whL s).length + (partL s).length))
def numKind (s : List UInt8) : Int := if floatB (restL s) then 5 else 4

def NumPost (w : World) (p : Nat) (kind : Int) (txt : List UInt8) (bad : Bool) (e : Ending) (w' : World) : Prop := Below w.heap.size w w' ∧
  ((bad = false ∧ e = .returned (.tuple #[.agg #[.int .i64 kind, .string ⟨⟨txt⟩⟩, .int .i64 p], .int .i64 (p + txt.length : Nat), .pointer none])) ∨
   (bad = true ∧ ∃ b, e = .returned (.tuple #[.agg #[.int .i64 kind, .string ⟨⟨txt⟩⟩, .int .i64 p], .int .i64 0, .pointer (some ⟨b, 0, none⟩)]) ∧ w.heap.size ≤ b ∧ ErrAt w' b 12 p))

/-- The number's own memory: its answer, its token. -/
structure NumAt (w : World) (g : Nat) (k : Int) (t : ByteArray) (p : Nat) (W : World) : Prop where
  res : W.heap[w.heap.size]? = some (.cells #[.int .i64 0, .string ⟨#[]⟩, .int .i64 0] 147 (0, 0))
  tok : W.heap[g]? = some (.cells #[.int .i64 k, .string t, .int .i64 p] 147 (0, 0))
  low : w.heap.size < g
  lt : g < W.heap.size
  below : Below w.heap.size w W
theorem NumAt.keep {w W W' : World} {g : Nat} {k : Int} {t : ByteArray} {p : Nat} (h : NumAt w g k t p W) (hb : Below W.heap.size W W') : NumAt w g k t p W' :=
  ⟨(hb.block _ (Nat.lt_trans h.low h.lt)).trans h.res, (hb.block _ h.lt).trans h.tok, h.low, Nat.lt_of_lt_of_le h.lt hb.size, h.below.trans (hb.mono (Nat.le_of_lt (Nat.lt_trans h.low h.lt)))⟩

theorem over_yes {wh : List UInt8} (h : overB wh = true) : 19 < wh.length ∨ (wh.length = 19 ∧ Op.bytesLess wh topL = false ∧ (wh == topL) = false) := by
  unfold overB at h
  simp only [Bool.or_eq_true, decide_eq_true_eq, Bool.and_eq_true, beq_iff_eq, Bool.not_eq_true'] at h
  exact h
theorem over_no {wh : List UInt8} (h : overB wh = false) : wh.length < 19 ∨ (wh.length = 19 ∧ Op.bytesLess wh topL = true) ∨ wh = topL := by
  unfold overB at h
  simp only [Bool.or_eq_false_iff, decide_eq_false_iff_not, Bool.and_eq_false_iff, Bool.not_eq_false', beq_eq_false_iff_ne, beq_iff_eq] at h
  rcases h with ⟨h1, h2 | h2 | h2⟩
  · left; omega
  · by_cases h3 : wh.length = 19
    · exact .inr (.inl ⟨h3, h2⟩)
    · left; omega
  · exact .inr (.inr h2)


theorem NumAt.c0 {w W : World} {g : Nat} {k : Int} {t : ByteArray} {p : Nat} (h : NumAt w g k t p W) : W.cell? ⟨g, 0, none⟩ = some (.int .i64 k) := cell_of_row W _ 0 _ _ _ h.tok
theorem NumAt.c1 {w W : World} {g : Nat} {k : Int} {t : ByteArray} {p : Nat} (h : NumAt w g k t p W) : W.cell? ⟨g, 1, none⟩ = some (.string t) := cell_of_row W _ 1 _ _ _ h.tok
theorem NumAt.c2 {w W : World} {g : Nat} {k : Int} {t : ByteArray} {p : Nat} (h : NumAt w g k t p W) : W.cell? ⟨g, 2, none⟩ = some (.int .i64 p) := cell_of_row W _ 2 _ _ _ h.tok
theorem NumAt.f {w W : World} {g : Nat} {k : Int} {t : ByteArray} {p : Nat} (h : NumAt w g k t p W) (i : Nat) : W.frozen? ⟨g, i, none⟩ = false := frozen_of_row W _ i _ _ h.tok
theorem NumAt.d0 {w W : World} {g : Nat} {k : Int} {t : ByteArray} {p : Nat} (h : NumAt w g k t p W) : W.cell? ⟨w.heap.size, 0, none⟩ = some (.int .i64 0) := cell_of_row W _ 0 _ _ _ h.res
theorem NumAt.d1 {w W : World} {g : Nat} {k : Int} {t : ByteArray} {p : Nat} (h : NumAt w g k t p W) : W.cell? ⟨w.heap.size, 1, none⟩ = some (.string ⟨#[]⟩) := cell_of_row W _ 1 _ _ _ h.res
theorem NumAt.d2 {w W : World} {g : Nat} {k : Int} {t : ByteArray} {p : Nat} (h : NumAt w g k t p W) : W.cell? ⟨w.heap.size, 2, none⟩ = some (.int .i64 0) := cell_of_row W _ 2 _ _ _ h.res
theorem NumAt.e {w W : World} {g : Nat} {k : Int} {t : ByteArray} {p : Nat} (h : NumAt w g k t p W) (i : Nat) : W.frozen? ⟨w.heap.size, i, none⟩ = false := frozen_of_row W _ i _ _ h.res
theorem NumAt.kind {w W : World} {g : Nat} {k : Int} {t : ByteArray} {p : Nat} (h : NumAt w g k t p W) (k' : Int) : NumAt w g k' t p (W.setCell ⟨g, 0, none⟩ (.int .i64 k')) :=
  ⟨(heap_setCell_other _ _ _ _ (Nat.ne_of_lt h.low)).trans h.res, heap_setCell_same _ _ 0 _ _ _ h.tok, h.low, by simpa using h.lt, h.below.setCell (p := ⟨g, 0, none⟩) (Nat.le_of_lt h.low) _⟩
theorem NumAt.text {w W : World} {g : Nat} {k : Int} {t : ByteArray} {p : Nat} (h : NumAt w g k t p W) (t' : ByteArray) : NumAt w g k t' p (W.setCell ⟨g, 1, none⟩ (.string t')) :=
  ⟨(heap_setCell_other _ _ _ _ (Nat.ne_of_lt h.low)).trans h.res, heap_setCell_same _ _ 1 _ _ _ h.tok, h.low, by simpa using h.lt, h.below.setCell (p := ⟨g, 1, none⟩) (Nat.le_of_lt h.low) _⟩
/-- The answer's cells written. -/
theorem NumAt.row {w W : World} {g : Nat} {k : Int} {t : ByteArray} {p : Nat} (h : NumAt w g k t p W) (a b c : Value) : (((W.setCell ⟨w.heap.size, 0, none⟩ a).setCell ⟨w.heap.size, 1, none⟩ b).setCell ⟨w.heap.size, 2, none⟩ c).heap[w.heap.size]? = some (.cells #[a, b, c] 147 (0, 0)) :=
  heap_setCell_same _ w.heap.size 2 _ _ c (heap_setCell_same _ w.heap.size 1 _ _ b (heap_setCell_same W w.heap.size 0 _ _ a h.res))
theorem NumAt.rowBelow {w W : World} {g : Nat} {k : Int} {t : ByteArray} {p : Nat} (h : NumAt w g k t p W) (a b c : Value) : Below w.heap.size w (((W.setCell ⟨w.heap.size, 0, none⟩ a).setCell ⟨w.heap.size, 1, none⟩ b).setCell ⟨w.heap.size, 2, none⟩ c) :=
  ((h.below.setCell (p := ⟨w.heap.size, 0, none⟩) (Nat.le_refl _) _).setCell (p := ⟨w.heap.size, 1, none⟩) (Nat.le_refl _) _).setCell (p := ⟨w.heap.size, 2, none⟩) (Nat.le_refl _) _
theorem NumAt.bad {w W : World} {g : Nat} {k : Int} {t : ByteArray} {p : Nat} (h : NumAt w g k t p W) (a b c : Value) (code at_ : Int) : ErrAt (((((W.alloc (.cells #[.int .i64 code, .int .i64 at_, .string ⟨#[]⟩] 31 (0, 0))).setCell ⟨w.heap.size, 0, none⟩ a).setCell ⟨w.heap.size, 1, none⟩ b).setCell ⟨w.heap.size, 2, none⟩ c).drew) W.heap.size code at_ := by
  have hne : W.heap.size ≠ w.heap.size := by have := h.lt; have := h.low; omega
  exact (heap_setCell_other _ ⟨w.heap.size, 2, none⟩ _ _ hne).trans ((heap_setCell_other _ ⟨w.heap.size, 1, none⟩ _ _ hne).trans ((heap_setCell_other _ ⟨w.heap.size, 0, none⟩ _ _ hne).trans (heap_alloc_new _ _)))
theorem NumAt.alloc {w W : World} {g : Nat} {k : Int} {t : ByteArray} {p : Nat} (h : NumAt w g k t p W) (o : Obj) : NumAt w g k t p (W.alloc o) := h.keep ((Below.refl _ W).alloc (Nat.le_refl _) o)

attribute [local go_sem] ba0 ba1

set_option maxRecDepth 100000 in
set_option maxHeartbeats 8000000 in
theorem lexNumber_any (l : List UInt8) (p : Nat) (w : World) (hp : p < l.length) (hlen : l.length ≤ 1000000000) (hn0 : 0 < runN false (l.drop p)) :
    Calls Tryz.prog 111 #[.string ⟨⟨l⟩⟩, .int .i64 p] w (NumPost w p (numKind (l.drop p)) ((l.drop p).take (numN (l.drop p))) (numBad (l.drop p))) := by
  obtain ⟨s, HS⟩ : ∃ s, Hid (l.drop p = s) := ⟨_, rfl⟩
  rw [HS.out] at hn0 ⊢
  obtain ⟨n, HN⟩ : ∃ n, Hid (runN false s = n) := ⟨_, rfl⟩
  rw [HN.out] at hn0
  have hsl : s.length = l.length - p := by rw [← HS.out, List.length_drop]
  have hnl : n ≤ s.length := by rw [← HN.out]; exact runN_le false s
  have x1 := ba_drop l p
  rw [HS.out] at x1
  have x2 := ba_piece l p n
  rw [HS.out] at x2
  have x3 := ba_drop l (p + n)
  rw [← List.drop_drop, HS.out] at x3
  have hR1 := fun W => run_any ⟨⟨s⟩⟩ false W
  simp only [HN.out] at hR1
  have HR1 := Lib.hid hR1
  have hwl : (s.take n).length = n := by rw [List.length_take]; omega
  have hrl : (s.drop n).length = l.length - (p + n) := by rw [List.length_drop]; omega
  obtain ⟨wh, HW⟩ : ∃ wh, Hid (whL s = wh) := ⟨_, rfl⟩
  have hw1 : s.take n = wh := by rw [← HW.out, whL, HN.out]
  rw [hw1] at x2 hwl
  obtain ⟨rest, HRE⟩ : ∃ rest, Hid (restL s = rest) := ⟨_, rfl⟩
  have hr1 : s.drop n = rest := by rw [← HRE.out, restL, HN.out]
  rw [hr1] at x3 hrl
  obtain ⟨part, HP⟩ : ∃ part, Hid (partL s = part) := ⟨_, rfl⟩
  obtain ⟨m, HM⟩ : ∃ m, Hid (numN s = m) := ⟨_, rfl⟩
  obtain ⟨k, HK⟩ : ∃ k, Hid (numKind s = k) := ⟨_, rfl⟩
  obtain ⟨bad, HB⟩ : ∃ bad, Hid (numBad s = bad) := ⟨_, rfl⟩
  obtain ⟨fl, HF⟩ : ∃ fl, Hid (floatB rest = fl) := ⟨_, rfl⟩
  rw [HM.out, HK.out, HB.out]
  obtain ⟨txt, HX⟩ : ∃ txt, Hid (s.take m = txt) := ⟨_, rfl⟩
  rw [HX.out]
  obtain ⟨c0, cr, rfl⟩ : ∃ c0 cr, wh = c0 :: cr := by cases wh with | nil => simp at hwl; omega | cons a b => exact ⟨a, b, rfl⟩
  have hcl : cr.length + 1 = n := by simpa using hwl
  subst hcl
  have HRL := Lib.hid hrl
  have HSL := Lib.hid hsl
  clear hwl hR1 hw1 hr1 hrl
  rw [HSL.out] at hnl
  clear hsl
  go_enter Tryz.func111, Tryz.ntmps111
  go_upto_region 5 with (first
    | (go_at_call 112; (with_reducible refine (HR1.out _).mono ?_); rintro e w1 ⟨rfl, hb1⟩))
  have hN0 : NumAt w w1.heap.size 4 ⟨#[]⟩ p (w1.alloc (.cells #[.int .i64 4, .string ⟨#[]⟩, .int .i64 p] 147 (0, 0))) := by
    have hs := hb1.size
    simp at hs
    refine ⟨(heap_alloc_old _ _ (by omega)).trans ((hb1.block _ (by simp)).trans (heap_alloc_new _ _)), heap_alloc_new _ _, by omega, by simp, ?_⟩
    exact (((Below.refl w.heap.size w).alloc (Nat.le_refl _) _).trans (hb1.mono (by simp))).alloc (by omega) _
  have HN0 := Lib.hid hN0
  clear hN0 hb1
  simp only [x2, x3]
  go_cut [43] (fun t wx => t = .bool fl ∧ wx = w1.alloc (.cells #[.int .i64 4, .string ⟨#[]⟩, .int .i64 p] 147 (0, 0)))
  case first =>
    match rest, HF with
    | [], HF =>
      obtain rfl : false = fl := HF.out
      go_wp2_with fail
      go_meet
      exact ⟨rfl, rfl⟩
    | [d], HF =>
      obtain rfl : false = fl := HF.out
      go_wp2_with fail
      go_meet
      exact ⟨rfl, rfl⟩
    | d :: c :: r, HF =>
      by_cases hd : d = 46
      · subst hd
        have hc : wrap32 (c.toNat : Int) = c.toNat := by have := c.toNat_lt; unfold wrap32; omega
        obtain rfl : digitB c.toNat = fl := HF.out
        go_wp2_with (go_at_call 95; (with_reducible refine (digit_any _ _).mono ?_); rintro e w2 ⟨rfl, rfl⟩)
        go_meet
        exact ⟨rfl, rfl⟩
      · have hd' : ((d.toNat : Int) == 46) = false := u8_ne hd
        obtain rfl : false = fl := by rw [← HF.out]; simp [floatB, hd]
        go_wp2_with fail
        go_meet
        exact ⟨rfl, rfl⟩
  case rest =>
  obtain ⟨rfl, rfl⟩ := hcut
  clear hp
  obtain ⟨rs, HRS⟩ : ∃ rs, Hid (s.drop m = rs) := ⟨_, rfl⟩
  have hR3 := fun W => run_any ⟨⟨rs⟩⟩ true W
  obtain ⟨q, HQ⟩ : ∃ q, Hid (runN true rs = q) := ⟨_, rfl⟩
  have e0 : (⟨⟨rs⟩⟩ : ByteArray).data.toList = rs := rfl
  simp only [HQ.out] at hR3
  have HR3 := Lib.hid hR3
  clear hR3 e0
  have hPT : fl = true → part = (rest.drop 1).take (runN false (rest.drop 1)) := fun h => by rw [← HP.out, partL, HRE.out, HF.out, h]; rfl
  have hPF : fl = false → part = [] := fun h => by rw [← HP.out, partL, HRE.out, HF.out, h]; rfl
  have hMT : fl = true → m = cr.length + 1 + (1 + part.length) := fun h => by rw [← HM.out, numN, HRE.out, HF.out, HN.out, HP.out, h]; rfl
  have hMF : fl = false → m = cr.length + 1 := fun h => by rw [← HM.out, numN, HRE.out, HF.out, HN.out, h]; rfl
  have hKT : fl = true → k = 5 := fun h => by rw [← HK.out, numKind, HRE.out, HF.out, h]; rfl
  have hKF : fl = false → k = 4 := fun h => by rw [← HK.out, numKind, HRE.out, HF.out, h]; rfl
  have hPL : fl = true → part.length + 1 ≤ rest.length := fun h => by
    rw [hPT h, List.length_take]
    have h1 := runN_le false (rest.drop 1)
    rw [List.length_drop] at h1
    have h2 : 2 ≤ rest.length := by
      have h3 := HF.out
      rw [h] at h3
      match rest, h3 with
      | [], h3 => simp [floatB] at h3
      | [_], h3 => simp [floatB] at h3
      | _ :: _ :: _, _ => simp
    rw [List.length_drop]
    omega
  have HPT := Lib.hid hPT
  have HPF := Lib.hid hPF
  have HMT := Lib.hid hMT
  have HMF := Lib.hid hMF
  have HKT := Lib.hid hKT
  have HKF := Lib.hid hKF
  have HPL := Lib.hid hPL
  clear hPT hPF hMT hMF hKT hKF hPL
  go_upto_if 43 with fail
  go_cut [7, 10] (fun n pt wx => n = .int .i64 m ∧ pt = .string ⟨⟨part⟩⟩ ∧ NumAt w w1.heap.size k ⟨#[]⟩ p wx)
  case first =>
    cases fl with
    | true =>
      obtain rfl := HKT.out rfl
      have hpt := HPT.out rfl
      have hpl := HPL.out rfl
      have y1 := ba_drop rest 1
      have y2 := ba_piece rest 1 part.length
      have hz : runN false (rest.drop 1) = part.length := by
        have h1 := runN_le false (rest.drop 1)
        have h2 := congrArg List.length hpt
        rw [List.length_take] at h2
        omega
      rw [← hz, ← hpt, hz] at y2
      have hR2 := fun W => run_any ⟨⟨rest.drop 1⟩⟩ false W
      simp only [hz] at hR2
      obtain ⟨rt, hrt⟩ : ∃ rt, rest.drop 1 = rt := ⟨_, rfl⟩
      rw [hrt] at y1 hR2
      have HR2 := Lib.hid hR2
      have hrl : rest.length ≤ 1000000000 := by have := HRL.out; omega
      clear hR2 hz hpt hrt
      have hmt := Lib.hid (HMT.out rfl)
      go_wp2_with (first
        | (go_at_call 112; (with_reducible refine (HR2.out _).mono ?_); rintro e w2 ⟨rfl, hb2⟩
           have hN2 := HN0.out.keep hb2
           have c0 := hN2.c0
           have f0 := hN2.f 0
           have HN2 := Lib.hid hN2
           clear hN2 hb2))
      go_meet
      exact ⟨by rw [hmt.out]; simp, congrArg Value.string y2, HN2.out.kind 5⟩
    | false =>
      obtain rfl := HPF.out rfl
      obtain rfl := HMF.out rfl
      obtain rfl := HKF.out rfl
      go_wp2_with fail
      go_meet
      exact ⟨by simp, rfl, HN0.out⟩
  case rest =>
  obtain ⟨rfl, rfl, hN1⟩ := hcut
  have hml : p + m ≤ l.length := by
    cases fl with
    | true => have h1 := HMT.out rfl; have h2 := HPL.out rfl; have h3 := HRL.out; omega
    | false => have h1 := HMF.out rfl; omega
  have z1 := ba_piece l p m
  rw [HS.out] at z1
  have z2 := ba_drop l (p + m)
  rw [← List.drop_drop, HS.out, HRS.out] at z2
  have htl : txt.length = m := by rw [← HX.out, List.length_take]; have := HSL.out; omega
  rw [HX.out] at z1
  have c0' := hN1.c0
  have c1' := hN1.c1
  have f1' := hN1.f 1
  have HN1 := Lib.hid hN1
  have HTL := Lib.hid htl
  clear hN1 htl x1 x2 x3
  go_upto_region 9 with fail
  go_cut [] (fun wx => NumAt w w1.heap.size k ⟨⟨txt⟩⟩ p wx)
  case first =>
    go_wp2_with fail
    rw [z1]
    go_meet
    exact HN1.out.text _
  case rest =>
  have c2' := hcut.c0
  have HN2 := Lib.hid hcut
  clear hcut HN1 c0' c1' f1'
  obtain ⟨ov, HOV⟩ : ∃ ov, Hid ((!fl && overB (c0 :: cr)) = ov) := ⟨_, rfl⟩
  go_upto_region 10 with fail
  go_cut [12] (fun o wx => o = .bool ov ∧ NumAt w w1.heap.size k ⟨⟨txt⟩⟩ p wx)
  case first =>
    cases fl with
    | true =>
      obtain rfl := HKT.out rfl
      obtain rfl := HOV.out
      go_wp2_with fail
      go_meet
      exact ⟨rfl, HN2.out⟩
    | false =>
      obtain rfl := HKF.out rfl
      by_cases h1 : 19 < cr.length + 1
      · obtain rfl : true = ov := by rw [← HOV.out]; simp [overB, h1]
        go_wp2_with fail
        go_meet
        exact ⟨rfl, HN2.out⟩
      · by_cases h2 : cr.length + 1 = 19
        · obtain rfl : (!(Op.bytesLess (c0 :: cr) topL || (c0 :: cr) == topL)) = ov := by rw [← HOV.out]; simp [overB, h2]
          go_wp2_with fail
          go_meet
          exact ⟨congrArg Value.bool (by simp [topL]), HN2.out⟩
        · have h3 : ¬ cr.length = 18 := by omega
          obtain rfl : false = ov := by rw [← HOV.out]; simp [overB, h1, h3]
          clear h3
          have h2' : ((cr.length : Int) + 1 == 19) = false := by simp; omega
          clear h2
          go_wp2_with fail
          go_meet
          exact ⟨congrArg Value.bool (decide_eq_false (by omega)), HN2.out⟩
  case rest =>
  obtain ⟨rfl, hN3⟩ := hcut
  have hbad : (ov || decide (0 < q) || (decide (1 < cr.length + 1) && (c0 == 48)) || (fl && decide (15 < cr.length + 1 + part.length))) = bad := by
    rw [← HB.out, numBad, HRE.out, HF.out, HW.out, HOV.out, HM.out, HRS.out, HQ.out, HP.out]
    simp
  have HBAD := Lib.hid hbad
  have c3' := hN3.c0
  have HN3 := Lib.hid hN3
  clear hbad hN3 c2' HN2
  go_upto_region 11 with fail
  go_cut [112] (fun t wx => t = .bool bad ∧ NumAt w w1.heap.size k ⟨⟨txt⟩⟩ p wx)
  case first =>
    cases ov with
    | true =>
      obtain rfl : true = bad := by rw [← HBAD.out]; simp
      go_wp2_with fail
      go_meet
      exact ⟨rfl, HN3.out⟩
    | false =>
      by_cases hq : 0 < q
      · obtain rfl : true = bad := by rw [← HBAD.out]; simp [hq]
        go_wp2_with (first
          | (go_at_call 112; (with_reducible refine (HR3.out _).mono ?_); rintro e w2 ⟨rfl, hb2⟩
             have HN4 := Lib.hid (HN3.out.keep hb2); clear hb2))
        go_meet
        exact ⟨rfl, HN4.out⟩
      obtain rfl : q = 0 := by omega
      clear hq
      by_cases h1 : 1 < cr.length + 1
      · by_cases h2 : c0 = 48
        · subst h2
          obtain rfl : true = bad := by rw [← HBAD.out]; simp; omega
          go_wp2_with (first
            | (go_at_call 112; (with_reducible refine (HR3.out _).mono ?_); rintro e w2 ⟨rfl, hb2⟩
               have hN4 := HN3.out.keep hb2
               have c4' := hN4.c0
               have HN4 := Lib.hid hN4
               clear hN4 hb2))
          go_meet
          exact ⟨rfl, HN4.out⟩
        · have h2' : ((c0.toNat : Int) == 48) = false := u8_ne h2
          cases fl with
          | true =>
            obtain rfl := HKT.out rfl
            have hpb : part.length ≤ 1000000000 := by have h8 := HPL.out rfl; have h9 := HRL.out; omega
            by_cases h5 : 15 < cr.length + 1 + part.length
            · obtain rfl : true = bad := by rw [← HBAD.out]; simp [h5]
              go_wp2_with (first
            | (go_at_call 112; (with_reducible refine (HR3.out _).mono ?_); rintro e w2 ⟨rfl, hb2⟩
               have hN4 := HN3.out.keep hb2
               have c4' := hN4.c0
               have HN4 := Lib.hid hN4
               clear hN4 hb2))
              go_meet
              exact ⟨congrArg Value.bool (decide_eq_true (by omega)), HN4.out⟩
            · obtain rfl : false = bad := by rw [← HBAD.out]; simp [h5, h2]
              go_wp2_with (first
            | (go_at_call 112; (with_reducible refine (HR3.out _).mono ?_); rintro e w2 ⟨rfl, hb2⟩
               have hN4 := HN3.out.keep hb2
               have c4' := hN4.c0
               have HN4 := Lib.hid hN4
               clear hN4 hb2))
              go_meet
              exact ⟨congrArg Value.bool (decide_eq_false (by omega)), HN4.out⟩
          | false =>
            obtain rfl := HKF.out rfl
            obtain rfl : false = bad := by rw [← HBAD.out]; simp [h2]
            go_wp2_with (first
            | (go_at_call 112; (with_reducible refine (HR3.out _).mono ?_); rintro e w2 ⟨rfl, hb2⟩
               have hN4 := HN3.out.keep hb2
               have c4' := hN4.c0
               have HN4 := Lib.hid hN4
               clear hN4 hb2))
            go_meet
            exact ⟨rfl, HN4.out⟩
      · have h1' : ¬ 0 < cr.length := by omega
        cases fl with
        | true =>
          obtain rfl := HKT.out rfl
          have hpb : part.length ≤ 1000000000 := by have h8 := HPL.out rfl; have h9 := HRL.out; omega
          by_cases h5 : 15 < cr.length + 1 + part.length
          · obtain rfl : true = bad := by rw [← HBAD.out]; simp [h5]
            go_wp2_with (first
            | (go_at_call 112; (with_reducible refine (HR3.out _).mono ?_); rintro e w2 ⟨rfl, hb2⟩
               have hN4 := HN3.out.keep hb2
               have c4' := hN4.c0
               have HN4 := Lib.hid hN4
               clear hN4 hb2))
            go_meet
            exact ⟨congrArg Value.bool (decide_eq_true (by omega)), HN4.out⟩
          · obtain rfl : false = bad := by rw [← HBAD.out]; simp [h5, h1']
            go_wp2_with (first
            | (go_at_call 112; (with_reducible refine (HR3.out _).mono ?_); rintro e w2 ⟨rfl, hb2⟩
               have hN4 := HN3.out.keep hb2
               have c4' := hN4.c0
               have HN4 := Lib.hid hN4
               clear hN4 hb2))
            go_meet
            exact ⟨congrArg Value.bool (decide_eq_false (by omega)), HN4.out⟩
        | false =>
          obtain rfl := HKF.out rfl
          obtain rfl : false = bad := by rw [← HBAD.out]; simp [h1']
          go_wp2_with (first
            | (go_at_call 112; (with_reducible refine (HR3.out _).mono ?_); rintro e w2 ⟨rfl, hb2⟩
               have hN4 := HN3.out.keep hb2
               have c4' := hN4.c0
               have HN4 := Lib.hid hN4
               clear hN4 hb2))
          go_meet
          exact ⟨rfl, HN4.out⟩
  case rest =>
  obtain ⟨rfl, hN5⟩ := hcut
  clear HBAD HN3 c3' HR3
  have g0 := fun o => (hN5.alloc o).d0
  have g1 := fun o => (hN5.alloc o).d1
  have g2 := fun o => (hN5.alloc o).d2
  have g3 := fun o i => (hN5.alloc o).e i
  have j0 := fun o => (hN5.alloc o).c0
  have j1 := fun o => (hN5.alloc o).c1
  have j2 := fun o => (hN5.alloc o).c2
  have k0 := hN5.c0
  have k1 := hN5.c1
  have k2 := hN5.c2
  have l0 := hN5.d0
  have l1 := hN5.d1
  have l2 := hN5.d2
  have l3 := fun i => hN5.e i
  have HN5 := Lib.hid hN5
  clear hN5
  cases bad with
  | true =>
    go_wp2_with fail
    go_region_with (go_at_call 98; refine (lexWrong_any _ _ _).mono ?_; rintro e w' ⟨rfl, rfl⟩)
    all_goals go_wp2_with fail
    all_goals
      have hlt := HN5.out.lt
      have hlo := HN5.out.low
      refine bodyPost_ret (number_result _ _ w.heap.size _ _ _ _ _ rfl rfl rfl ((HN5.out.alloc _).row _ _ _)) rfl ⟨((HN5.out.alloc _).rowBelow _ _ _).drew, .inr ⟨rfl, wc.heap.size, rfl, by omega, HN5.out.bad _ _ _ _ _⟩⟩
  | false =>
    go_wp2_with fail
    refine bodyPost_ret (number_result _ _ w.heap.size _ _ _ _ _ rfl rfl rfl (HN5.out.row _ _ _)) rfl ⟨HN5.out.rowBelow _ _ _, .inl ⟨rfl, ?_⟩⟩
    rw [HTL.out]; simp
end Go.Proofs.YtjpmghgmmeemkaaGreatDoor

namespace Go.Proofs.YtjpmghgmmeemkaaGreatDoor
open Go.RowKit

/-- A token. -/
structure Tok where
  kind : Int
  text : List UInt8
  at_ : Nat
def Tok.val (t : Tok) : Value := .agg #[.int .i64 t.kind, .string ⟨⟨t.text⟩⟩, .int .i64 t.at_]

/-- What reading one token ends as. -/
def OnePost (w : World) (r : Rd (Tok × Nat)) (e : Ending) (w' : World) : Prop := Below w.heap.size w w' ∧
  ((∃ t n, r = .ok (t, n) ∧ e = .returned (.tuple #[Tok.val t, .int .i64 (n : Nat), .pointer none])) ∨
   (∃ c a t n b, r = .bad c a ∧ e = .returned (.tuple #[Tok.val t, .int .i64 n, .pointer (some ⟨b, 0, none⟩)]) ∧ w.heap.size ≤ b ∧ ErrAt w' b c a))

/-- The block of the answer, still empty. -/
structure ResAt (w : World) (W : World) : Prop where
  res : W.heap[w.heap.size]? = some (.cells #[.int .i64 0, .string ⟨#[]⟩, .int .i64 0] 147 (0, 0))
  lt : w.heap.size < W.heap.size
  below : Below w.heap.size w W
theorem ResAt.init (w : World) : ResAt w (w.alloc (.cells #[.int .i64 0, .string ⟨#[]⟩, .int .i64 0] 147 (0, 0))) :=
  ⟨heap_alloc_new _ _, by simp, (Below.refl _ _).alloc (Nat.le_refl _) _⟩
theorem ResAt.keep {w W W' : World} (h : ResAt w W) (hb : Below W.heap.size W W') : ResAt w W' :=
  ⟨(hb.block _ h.lt).trans h.res, Nat.lt_of_lt_of_le h.lt hb.size, h.below.trans (hb.mono (Nat.le_of_lt h.lt))⟩
theorem ResAt.alloc {w W : World} (h : ResAt w W) (o : Obj) : ResAt w (W.alloc o) := h.keep ((Below.refl _ W).alloc (Nat.le_refl _) o)
theorem ResAt.d0 {w W : World} (h : ResAt w W) : W.cell? ⟨w.heap.size, 0, none⟩ = some (.int .i64 0) := cell_of_row W _ 0 _ _ _ h.res
theorem ResAt.d1 {w W : World} (h : ResAt w W) : W.cell? ⟨w.heap.size, 1, none⟩ = some (.string ⟨#[]⟩) := cell_of_row W _ 1 _ _ _ h.res
theorem ResAt.d2 {w W : World} (h : ResAt w W) : W.cell? ⟨w.heap.size, 2, none⟩ = some (.int .i64 0) := cell_of_row W _ 2 _ _ _ h.res
theorem ResAt.e {w W : World} (h : ResAt w W) (i : Nat) : W.frozen? ⟨w.heap.size, i, none⟩ = false := frozen_of_row W _ i _ _ h.res
/-- The answer's cells written. -/
theorem ResAt.row {w W : World} (h : ResAt w W) (a b c : Value) : (((W.setCell ⟨w.heap.size, 0, none⟩ a).setCell ⟨w.heap.size, 1, none⟩ b).setCell ⟨w.heap.size, 2, none⟩ c).heap[w.heap.size]? = some (.cells #[a, b, c] 147 (0, 0)) :=
  heap_setCell_same _ w.heap.size 2 _ _ c (heap_setCell_same _ w.heap.size 1 _ _ b (heap_setCell_same W w.heap.size 0 _ _ a h.res))
theorem ResAt.rowBelow {w W : World} (h : ResAt w W) (a b c : Value) : Below w.heap.size w (((W.setCell ⟨w.heap.size, 0, none⟩ a).setCell ⟨w.heap.size, 1, none⟩ b).setCell ⟨w.heap.size, 2, none⟩ c) :=
  ((h.below.setCell (p := ⟨w.heap.size, 0, none⟩) (Nat.le_refl _) _).setCell (p := ⟨w.heap.size, 1, none⟩) (Nat.le_refl _) _).setCell (p := ⟨w.heap.size, 2, none⟩) (Nat.le_refl _) _
theorem ResAt.bad {w W : World} (h : ResAt w W) (g : Nat) (hg : w.heap.size < g) (a b c : Value) {code at_ : Int} (he : ErrAt W g code at_) : ErrAt (((W.setCell ⟨w.heap.size, 0, none⟩ a).setCell ⟨w.heap.size, 1, none⟩ b).setCell ⟨w.heap.size, 2, none⟩ c) g code at_ :=
  have hne : g ≠ w.heap.size := Nat.ne_of_gt hg
  have _ := h.lt
  (heap_setCell_other _ ⟨w.heap.size, 2, none⟩ _ _ hne).trans ((heap_setCell_other _ ⟨w.heap.size, 1, none⟩ _ _ hne).trans ((heap_setCell_other _ ⟨w.heap.size, 0, none⟩ _ _ hne).trans he))

theorem errAt_new {W : World} {g : Nat} (h : W.heap.size = g) (code at_ : Int) : ErrAt (W.alloc (.cells #[.int .i64 code, .int .i64 at_, .string ⟨#[]⟩] 31 (0, 0))) g code at_ := by
  subst h
  exact heap_alloc_new W _

/-- The signs. -/
def signL : List (List UInt8) := [[60, 60, 61], [62, 62, 61], [58, 61], [61, 61], [33, 61], [60, 61], [62, 61], [38, 38], [124, 124], [60, 60], [62, 62], [43, 61], [45, 61], [42, 61], [47, 61], [37, 61], [38, 61], [124, 61], [94, 61], [43, 43], [45, 45], [43], [45], [42], [47], [37], [38], [124], [94], [33], [60], [62], [61], [40], [41], [91], [93], [123], [125], [44], [46], [58]]
def signsB : ByteArray := ⟨⟨[60, 60, 61, 32, 62, 62, 61, 32, 58, 61, 32, 61, 61, 32, 33, 61, 32, 60, 61, 32, 62, 61, 32, 38, 38, 32, 124, 124, 32, 60, 60, 32, 62, 62, 32, 43, 61, 32, 45, 61, 32, 42, 61, 32, 47, 61, 32, 37, 61, 32, 38, 61, 32, 124, 61, 32, 94, 61, 32, 43, 43, 32, 45, 45, 32, 43, 32, 45, 32, 42, 32, 47, 32, 37, 32, 38, 32, 124, 32, 94, 32, 33, 32, 60, 32, 62, 32, 61, 32, 40, 32, 41, 32, 91, 32, 93, 32, 123, 32, 125, 32, 44, 32, 46, 32, 58]⟩⟩
theorem fields_signs : Lib.fields signsB.data.toList = signL := by kernel_rfl
theorem ascii_signs : signsB.data.toList.all (fun b => decide (b.toNat < 128)) = true := by kernel_rfl
theorem gSpace' : Tryz.prog.globalNamed "strings.asciiSpace" = some 4 := by kernel_rfl
theorem Gl.tab {w : World} (h : Gl w) : Lib.TabIs Tryz.prog w "strings.asciiSpace" .u8 Lib.asciiSpaceTab := by
  obtain ⟨⟨_, t, fr, h4⟩, _⟩ := h
  unfold Lib.TabIs World.var?
  rw [gSpace']
  simp only [Option.bind_some, h4]
  rfl
theorem fields_call (w : World) (h : Gl w) : Calls Tryz.prog 124 #[.string signsB] w fun e w' => e = .returned (.slice (some ⟨w.heap.size, 0, none⟩) 42 42) ∧ w' = w.alloc (.cells (signL.map fun l => Value.string ⟨⟨l⟩⟩).toArray 9) := by
  refine (Tryz.strings_Fields_laid signsB w (by decide) (fun j b hj => ?_) h.tab).mono ?_
  · have h1 := List.all_eq_true.1 ascii_signs b (List.mem_of_getElem? hj)
    simpa using h1
  · rintro e w' ⟨rfl, rfl⟩
    rw [fields_signs]
    exact ⟨rfl, rfl⟩

theorem sign_result (tmps : Array Value) (W : World) (g : Nat) (v0 v1 v2 x y : Value) (h4 : tmps.getD 4 undef = .pointer (some ⟨g, 0, none⟩)) (h5 : tmps.getD 5 undef = x) (h6 : tmps.getD 6 undef = y) {fr : Nat × Nat} (hrow : W.heap[g]? = some (.cells #[v0, v1, v2] 147 fr)) :
    (results Tryz.f113 tmps).run Tryz.prog W = .ok (.tuple #[.agg #[v0, v1, v2], x, y]) W := by
  have h4' : tmps[4]?.getD undef = .pointer (some ⟨g, 0, none⟩) := by simpa using h4
  have h5' : tmps[5]?.getD undef = x := by simpa using h5
  have h6' : tmps[6]?.getD undef = y := by simpa using h6
  have e0 : W.cell? ⟨g, 0, none⟩ = some v0 := cell_of_row W _ 0 _ _ _ hrow
  have e1 : W.cell? ⟨g, 1, none⟩ = some v1 := cell_of_row W _ 1 _ _ _ hrow
  have e2 : W.cell? ⟨g, 2, none⟩ = some v2 := cell_of_row W _ 2 _ _ _ hrow
  simp [results, Tryz.f113, go_sem, h4', h5', h6', e0, e1, e2]

/-- The first sign that stands at the front. -/
def signR (p : Nat) (s : List UInt8) : List (List UInt8) → Rd (Tok × Nat)
  | [] => .bad 10 p
  | x :: xs => if Lib.hasPrefix s x then .ok (⟨7, x, p⟩, p + x.length) else signR p s xs

set_option maxRecDepth 100000 in
set_option maxHeartbeats 1000000 in
theorem sign_any (l : List UInt8) (p : Nat) (w : World) (hgl : Gl w) (hp : p ≤ l.length) (hlen : l.length ≤ 1000000000) :
    Calls Tryz.prog 113 #[.string ⟨⟨l⟩⟩, .int .i64 p] w (OnePost w (signR p (l.drop p) signL)) := by
  obtain ⟨s, HS⟩ : ∃ s, Hid (l.drop p = s) := ⟨_, rfl⟩
  rw [HS.out]
  obtain ⟨R, HR⟩ : ∃ R, Hid (signR p s signL = R) := ⟨_, rfl⟩
  rw [HR.out]
  have x1 := ba_drop l p
  rw [HS.out] at x1
  have hlen2 : signL.length = 42 := by decide
  have HL := Lib.hid hlen2
  have hgl2 : Gl (w.alloc (.cells #[.int .i64 0, .string ⟨#[]⟩, .int .i64 0] 147 (0, 0))) := hgl.up ((Below.refl _ _).alloc (Nat.le_refl _) _)
  have HF := Lib.hid (fields_call _ hgl2)
  clear hgl hgl2 hlen2
  have hxl : ∀ (j : Nat) (x : List UInt8), signL[j]? = some x → x.length ≤ 3 := by
    intro j x hj
    have h1 : signL.all (fun x => decide (x.length ≤ 3)) = true := by decide
    have h2 := List.all_eq_true.1 h1 x (List.mem_of_getElem? hj)
    simpa using h2
  have HXL := Lib.hid hxl
  clear hxl
  go_enter Tryz.func113, Tryz.ntmps113
  go_wp2_with (go_at_call 124; refine HF.out.mono ?_; rintro e w1 ⟨rfl, hw1⟩; have HW1 := Lib.hid hw1; clear hw1)
  have hw1 := HW1.out
  have hR1 : ResAt w w1 := by rw [hw1]; exact (ResAt.init w).alloc _
  have hrow : w1.heap[w.heap.size + 1]? = some (.cells (signL.map fun l => Value.string ⟨⟨l⟩⟩).toArray 9) := by rw [hw1]; have h := heap_alloc_new (w.alloc (.cells #[.int .i64 0, .string ⟨#[]⟩, .int .i64 0] 147 (0, 0))) (.cells (signL.map fun l => Value.string ⟨⟨l⟩⟩).toArray 9); simpa using h
  have hcell : ∀ (j : Nat) (x : List UInt8), signL[j]? = some x → w1.cell? ⟨w.heap.size + 1, j, none⟩ = some (.string ⟨⟨x⟩⟩) := fun j x hj => by
    rw [cell_of_row w1 (w.heap.size + 1) j _ _ _ hrow]
    simp [hj]
  have HC := Lib.hid hcell
  have HR1 := Lib.hid hR1
  clear hcell hrow hR1 hw1
  go_loopw [11] (fun i wr => ∃ j : Nat, j ≤ 42 ∧ i = .int .i64 j ∧ wr = w1 ∧ Hid (signR p s (signL.drop j) = R)) (fun i _ => 42 - (intOf i).toNat)
  case atStart => exact ⟨0, by omega, rfl, rfl, HR⟩
  case round =>
    obtain ⟨j, hj, rfl, rfl, HI⟩ := hrel
    by_cases hlt : j < 42
    · obtain ⟨x, hx⟩ : ∃ x, signL[j]? = some x := ⟨_, List.getElem?_eq_getElem (by rw [HL.out]; exact hlt)⟩
      have hc := HC.out j x hx
      have hxl := HXL.out j x hx
      have HX := Lib.hid hx
      clear hx
      have hpre := Tryz.strings_HasPrefix ⟨⟨s⟩⟩ ⟨⟨x⟩⟩ wr
      have e1 : (⟨⟨s⟩⟩ : ByteArray).data.toList = s := rfl
      have e2 : (⟨⟨x⟩⟩ : ByteArray).data.toList = x := rfl
      rw [e1, e2] at hpre
      clear e1 e2
      have d0 := HR1.out.d0
      have d1 := HR1.out.d1
      have d2 := HR1.out.d2
      have f0 := fun i => HR1.out.e i
      cases hpx : Lib.hasPrefix s x with
      | true =>
        rw [hpx] at hpre
        have hfin : R = .ok (⟨7, x, p⟩, p + x.length) := by rw [← HI.out, drop_cons HX.out, signR, if_pos hpx]
        have HFI := Lib.hid hfin
        have HPRE := Lib.hid hpre
        clear hpx hpre hfin
        go_wp2_with (go_at_call 100; refine HPRE.out.mono ?_; rintro e w2 ⟨rfl, rfl⟩)
        refine bodyPost_ret (sign_result _ _ w.heap.size _ _ _ _ _ rfl rfl rfl (HR1.out.row _ _ _)) rfl ⟨HR1.out.rowBelow _ _ _, .inl ⟨_, _, HFI.out, by simp [Tok.val]⟩⟩
      | false =>
        rw [hpx] at hpre
        have hfin : signR p s (signL.drop (j + 1)) = R := by rw [← HI.out, drop_cons HX.out, signR, if_neg (by simp [hpx])]
        have HFI := Lib.hid hfin
        have HPRE := Lib.hid hpre
        clear hpx hpre hfin d0 d1 d2 f0
        go_wp2_with (go_at_call 100; refine HPRE.out.mono ?_; rintro e w2 ⟨rfl, rfl⟩)
        go_roundw
        case rel => exact ⟨j + 1, by omega, by simp, trivial, HFI⟩
        case measure => simp [intOf]; omega
    · obtain rfl : j = 42 := by omega
      have hfin : R = .bad 10 p := by rw [← HI.out, List.drop_of_length_le (by rw [HL.out]; exact Nat.le_refl _), signR]
      have HFI := Lib.hid hfin
      have g0 := fun o => (HR1.out.alloc o).d0
      have g1 := fun o => (HR1.out.alloc o).d1
      have g2 := fun o => (HR1.out.alloc o).d2
      have g3 := fun o i => (HR1.out.alloc o).e i
      have hlt1 := HR1.out.lt
      have d0 := HR1.out.d0
      have d1 := HR1.out.d1
      have d2 := HR1.out.d2
      have f0 := fun i => HR1.out.e i
      clear hfin HC HXL
      go_wp2_with (go_at_call 98; refine (lexWrong_any _ _ _).mono ?_; rintro e w' ⟨rfl, rfl⟩)
      refine bodyPost_ret (sign_result _ _ w.heap.size _ _ _ _ _ rfl rfl rfl ((heap_alloc_old _ _ (by simp; omega)).trans (HR1.out.row _ _ _))) rfl ?_
      exact ⟨(HR1.out.rowBelow _ _ _).alloc (by simp; omega) _, .inr ⟨10, p, ⟨0, [], 0⟩, 0, wr.heap.size, HFI.out, rfl, by omega, errAt_new (by simp) _ _⟩⟩
end Go.Proofs.YtjpmghgmmeemkaaGreatDoor

namespace Go.Proofs.YtjpmghgmmeemkaaGreatDoor
open Go.RowKit

/-- A literal's token. -/
def litTok (p : Nat) : Rd (List UInt8 × Nat) → Rd (Tok × Nat)
  | .ok x => .ok (⟨6, x.1, p⟩, x.2)
  | .bad c a => .bad c a
/-- The token at a place; s: the text from there on. -/
def oneR (p : Nat) (s : List UInt8) : Rd (Tok × Nat) :=
  match s with
  | [] => .bad 0 0
  | c :: r =>
    if c = 59 then .ok (⟨1, [], p⟩, p + 1)
    else if c = 34 then litTok p (litR p r (p + 1) [])
    else if digitB c.toNat then (if numBad s then .bad 12 p else .ok (⟨numKind s, s.take (numN s), p⟩, p + (s.take (numN s)).length))
    else if letterB c.toNat then
      (if 40 < runN true s then .bad 13 p else .ok (⟨if wordB ⟨⟨s.take (runN true s)⟩⟩ then 3 else 2, s.take (runN true s), p⟩, p + runN true s))
    else signR p s signL

attribute [local go_sem] ba0

theorem ba_at (l : List UInt8) (p : Nat) (c : UInt8) (h : l[p]? = some c) (h' : p < (⟨⟨l⟩⟩ : ByteArray).size) : (⟨⟨l⟩⟩ : ByteArray)[p]'h' = c := by
  have := (List.getElem?_eq_some_iff.1 h).2
  exact this

set_option maxRecDepth 100000 in
set_option maxHeartbeats 4000000 in
theorem one_any (l : List UInt8) (p : Nat) (w : World) (hgl : Gl w) (hp : p < l.length) (hlen : l.length ≤ 1000000000) :
    Calls Tryz.prog 102 #[.string ⟨⟨l⟩⟩, .int .i64 p] w (OnePost w (oneR p (l.drop p))) := by
  obtain ⟨c, hc⟩ : ∃ c, l[p]? = some c := ⟨l[p], List.getElem?_eq_getElem hp⟩
  have hix := ba_at l p c hc
  have hdrop := drop_cons hc
  obtain ⟨R, HR⟩ : ∃ R, Hid (oneR p (l.drop p) = R) := ⟨_, rfl⟩
  rw [HR.out]
  have HDR := Lib.hid hdrop
  have hw32 : wrap32 (c.toNat : Int) = c.toNat := by have := c.toNat_lt; unfold wrap32; omega
  have hR0 := ResAt.init w
  have hG0 := hgl.up hR0.below
  clear hdrop hc hgl
  go_enter Tryz.func102, Tryz.ntmps102
  go_upto_region 1 with fail
  obtain ⟨W0, HW0⟩ : ∃ W0, Hid (w.alloc (.cells #[.int .i64 0, .string ⟨#[]⟩, .int .i64 0] 147 (0, 0)) = W0) := ⟨_, rfl⟩
  rw [HW0.out] at hR0 hG0 ⊢
  have d0 := hR0.d0
  have d1 := hR0.d1
  have d2 := hR0.d2
  have f0 := fun i => hR0.e i
  have HR0 := Lib.hid hR0
  have HGL := Lib.hid hG0
  clear hR0 hG0 HW0
  by_cases h1 : c = 59
  · subst h1
    have hfin : R = .ok (⟨1, [], p⟩, p + 1) := by rw [← HR.out, HDR.out, oneR, if_pos rfl]
    have HFI := Lib.hid hfin
    clear hfin
    go_wp2_with fail
    refine bodyPost_ret (one_result _ _ w.heap.size _ _ _ _ _ rfl rfl rfl (HR0.out.row _ _ _)) rfl ⟨HR0.out.rowBelow _ _ _, .inl ⟨_, _, HFI.out, by simp [Tok.val]⟩⟩
  have n1 : ((c.toNat : Int) == 59) = false := u8_ne h1
  by_cases h2 : c = 34
  · subst h2
    have hlt := literal_any l p W0 hp hlen
    obtain ⟨Q, HQ⟩ : ∃ Q, Hid (litR p (l.drop (p + 1)) (p + 1) [] = Q) := ⟨_, rfl⟩
    rw [HQ.out] at hlt
    have hfin : R = litTok p Q := by rw [← HR.out, HDR.out, oneR, if_neg (by decide), if_pos rfl, HQ.out]
    have HFI := Lib.hid hfin
    have HLT := Lib.hid hlt
    clear hfin hlt d0 d1 d2 f0
    cases Q with
    | ok x =>
      go_wp2_with (
        go_at_call 110; refine HLT.out.mono ?_
        rintro e w1 ⟨hb1, h⟩
        obtain ⟨out, next, hq, rfl⟩ := h.resolve_right (by rintro ⟨_, _, _, h, _⟩; cases h)
        obtain rfl := Rd.ok.inj hq
        have hR1 := HR0.out.keep hb1
        have d0 := hR1.d0
        have d1 := hR1.d1
        have d2 := hR1.d2
        have f0 := fun i => hR1.e i
        have HR1 := Lib.hid hR1
        clear hR1 hb1 h hq)
      refine bodyPost_ret (one_result _ _ w.heap.size _ _ _ _ _ rfl rfl rfl (HR1.out.row _ _ _)) rfl ⟨HR1.out.rowBelow _ _ _, .inl ⟨_, _, HFI.out, rfl⟩⟩
    | bad ec ea =>
      go_wp2_with (
        go_at_call 110; refine HLT.out.mono ?_
        rintro e w1 ⟨hb1, h⟩
        obtain ⟨c', a', eb, hq, rfl, hge, herr⟩ := h.resolve_left (by rintro ⟨_, _, h, _⟩; cases h)
        obtain ⟨rfl, rfl⟩ := Rd.bad.inj hq
        have hR1 := HR0.out.keep hb1
        have d0 := hR1.d0
        have d1 := hR1.d1
        have d2 := hR1.d2
        have f0 := fun i => hR1.e i
        have HR1 := Lib.hid hR1
        have HERR := Lib.hid herr
        have hlt0 := HR0.out.lt
        clear hR1 hb1 h hq herr)
      refine bodyPost_ret (one_result _ _ w.heap.size _ _ _ _ _ rfl rfl rfl (HR1.out.row _ _ _)) rfl ⟨HR1.out.rowBelow _ _ _, .inr ⟨_, _, ⟨6, [], p⟩, 0, eb, HFI.out, rfl, by omega, HR1.out.bad _ (by omega) _ _ _ HERR.out⟩⟩
  have n2 : ((c.toNat : Int) == 34) = false := u8_ne h2
  by_cases h3 : digitB c.toNat = true
  · obtain ⟨ks, HKS⟩ : ∃ ks, Hid (l.drop p = ks) := ⟨_, rfl⟩
    have hrun : 0 < runN false (l.drop p) := by
      rw [HDR.out, runN_go (by simpa [runP] using h3)]
      omega
    have hnum := lexNumber_any l p W0 hp hlen hrun
    have hfin : R = if numBad (l.drop p) then .bad 12 p else .ok (⟨numKind (l.drop p), (l.drop p).take (numN (l.drop p)), p⟩, p + ((l.drop p).take (numN (l.drop p))).length) := by
      rw [← HR.out]
      conv => lhs; rw [HDR.out, oneR, if_neg h1, if_neg h2, if_pos h3]
      rw [← HDR.out]
    obtain ⟨bad, HB⟩ : ∃ b, Hid (numBad (l.drop p) = b) := ⟨_, rfl⟩
    obtain ⟨k, HK⟩ : ∃ b, Hid (numKind (l.drop p) = b) := ⟨_, rfl⟩
    obtain ⟨txt, HT⟩ : ∃ b, Hid ((l.drop p).take (numN (l.drop p)) = b) := ⟨_, rfl⟩
    rw [HB.out, HK.out, HT.out] at hnum hfin
    have HFI := Lib.hid hfin
    have HLT := Lib.hid hnum
    clear hfin hnum d0 d1 d2 f0 hrun h1 h2
    cases bad with
    | false =>
      go_wp2_with (first
        | (go_at_call 95; (with_reducible refine (digit_any _ _).mono ?_); rintro e w2 ⟨rfl, rfl⟩)
        | (go_at_call 111; refine HLT.out.mono ?_
           rintro e w1 ⟨hb1, h⟩
           obtain ⟨_, rfl⟩ := h.resolve_right (by rintro ⟨h, _⟩; cases h)
           have hR1 := HR0.out.keep hb1
           have d0 := hR1.d0
           have d1 := hR1.d1
           have d2 := hR1.d2
           have f0 := fun i => hR1.e i
           have HR1 := Lib.hid hR1
           clear hR1 hb1 h))
      refine bodyPost_ret (one_result _ _ w.heap.size _ _ _ _ _ rfl rfl rfl (HR1.out.row _ _ _)) rfl ⟨HR1.out.rowBelow _ _ _, .inl ⟨_, _, HFI.out, rfl⟩⟩
    | true =>
      go_wp2_with (first
        | (go_at_call 95; (with_reducible refine (digit_any _ _).mono ?_); rintro e w2 ⟨rfl, rfl⟩)
        | (go_at_call 111; refine HLT.out.mono ?_
           rintro e w1 ⟨hb1, h⟩
           obtain ⟨_, eb, rfl, hge, herr⟩ := h.resolve_left (by rintro ⟨h, _⟩; cases h)
           have hR1 := HR0.out.keep hb1
           have d0 := hR1.d0
           have d1 := hR1.d1
           have d2 := hR1.d2
           have f0 := fun i => hR1.e i
           have HR1 := Lib.hid hR1
           have HERR := Lib.hid herr
           have hlt0 := HR0.out.lt
           clear hR1 hb1 h herr))
      refine bodyPost_ret (one_result _ _ w.heap.size _ _ _ _ _ rfl rfl rfl (HR1.out.row _ _ _)) rfl ⟨HR1.out.rowBelow _ _ _, .inr ⟨_, _, ⟨k, txt, p⟩, 0, eb, HFI.out, rfl, by omega, HR1.out.bad _ (by omega) _ _ _ HERR.out⟩⟩
  have h3' : digitB c.toNat = false := by simpa using h3
  by_cases h4 : letterB c.toNat = true
  · obtain ⟨n, HN⟩ : ∃ n, Hid (runN true (l.drop p) = n) := ⟨_, rfl⟩
    have hnl := runN_le true (l.drop p)
    rw [HN.out, List.length_drop] at hnl
    have hfin : R = if 40 < runN true (l.drop p) then .bad 13 p else .ok (⟨if wordB ⟨⟨(l.drop p).take (runN true (l.drop p))⟩⟩ then 3 else 2, (l.drop p).take (runN true (l.drop p)), p⟩, p + runN true (l.drop p)) := by
      rw [← HR.out]
      conv => lhs; rw [HDR.out, oneR, if_neg h1, if_neg h2, if_neg h3, if_pos h4]
      rw [← HDR.out]
    rw [HN.out] at hfin
    obtain ⟨txt, HT⟩ : ∃ b, Hid ((l.drop p).take n = b) := ⟨_, rfl⟩
    rw [HT.out] at hfin
    obtain ⟨wd, HWD⟩ : ∃ b, Hid (wordB ⟨⟨txt⟩⟩ = b) := ⟨_, rfl⟩
    rw [HWD.out] at hfin
    obtain ⟨s, HS⟩ : ∃ s, Hid (l.drop p = s) := ⟨_, rfl⟩
    have x1 := ba_drop l p
    have x2 := ba_piece l p n
    rw [HT.out] at x2
    rw [HS.out] at x1
    have hR1 := fun W => run_any ⟨⟨s⟩⟩ true W
    have e0 : runN true (⟨⟨s⟩⟩ : ByteArray).data.toList = n := by rw [← HN.out, HS.out]
    simp only [e0] at hR1
    have HR1 := Lib.hid hR1
    have HFI := Lib.hid hfin
    have hlt0 := HR0.out.lt
    clear hR1 e0 hfin d0 d1 d2 f0 h1 h2 h3
    go_upto_region 12 with (first
      | (go_at_call 95; (with_reducible refine (digit_any _ _).mono ?_); rintro e w2 ⟨rfl, rfl⟩)
      | (go_at_call 94; (with_reducible refine (letter_any _ _).mono ?_); rintro e w2 ⟨rfl, rfl⟩)
      | (go_at_call 112; (with_reducible refine (HR1.out _).mono ?_); rintro e w1 ⟨rfl, hb1⟩; have HB1 := Lib.hid hb1; clear hb1))
    have hN : NumAt w w1.heap.size 2 ⟨⟨txt⟩⟩ p (w1.alloc (.cells #[.int .i64 2, .string ⟨⟨txt⟩⟩, .int .i64 p] 147 (0, 0))) := by
      have hk := HR0.out.keep HB1.out
      have hk2 := hk.alloc (.cells #[.int .i64 2, .string ⟨⟨txt⟩⟩, .int .i64 p] 147 (0, 0))
      exact ⟨hk2.res, heap_alloc_new _ _, hk.lt, by simp, hk2.below⟩
    have hG := HGL.out.up (HB1.out.trans ((Below.refl w1.heap.size w1).alloc (Nat.le_refl _) (.cells #[.int .i64 2, .string ⟨⟨txt⟩⟩, .int .i64 p] 147 (0, 0)) |>.mono HB1.out.size))
    try rw [x2]
    obtain ⟨W2, HW2⟩ : ∃ W2, Hid (w1.alloc (.cells #[.int .i64 2, .string ⟨⟨txt⟩⟩, .int .i64 p] 147 (0, 0)) = W2) := ⟨_, rfl⟩
    rw [HW2.out] at hN hG ⊢
    have k0 := hN.c0
    have k1 := hN.c1
    have k2 := hN.c2
    have k3 := fun i => hN.f i
    have l0 := hN.d0
    have l1 := hN.d1
    have l2 := hN.d2
    have l3 := fun i => hN.e i
    have HNA := Lib.hid hN
    have HG := Lib.hid hG
    clear hN hG HB1 HR1
    obtain ⟨g, HGE⟩ : ∃ g, Hid (w1.heap.size = g) := ⟨_, rfl⟩
    rw [HGE.out] at HNA k0 k1 k2 k3 ⊢
    by_cases hn : 40 < n
    · have hfin : R = .bad 13 p := by rw [HFI.out, if_pos hn]
      have HFI := Lib.hid hfin
      have g0 := fun o => (HNA.out.alloc o).d0
      have g1 := fun o => (HNA.out.alloc o).d1
      have g2 := fun o => (HNA.out.alloc o).d2
      have g3 := fun o i => (HNA.out.alloc o).e i
      have j0 := fun o => (HNA.out.alloc o).c0
      have j1 := fun o => (HNA.out.alloc o).c1
      have j2 := fun o => (HNA.out.alloc o).c2
      clear hfin
      go_wp2_with fail
      go_region_with (go_at_call 98; refine (lexWrong_any _ _ _).mono ?_; rintro e w' ⟨rfl, rfl⟩)
      all_goals go_wp2_with fail
      all_goals
        have hlt := HNA.out.lt
        have hlo := HNA.out.low
        refine bodyPost_ret (one_result _ _ w.heap.size _ _ _ _ _ rfl rfl rfl ((HNA.out.alloc _).row _ _ _)) rfl ⟨((HNA.out.alloc _).rowBelow _ _ _).drew, .inr ⟨_, _, ⟨2, txt, p⟩, 0, W2.heap.size, HFI.out, rfl, by omega, HNA.out.bad _ _ _ _ _⟩⟩
    · have hfin : R = .ok (⟨if wd then 3 else 2, txt, p⟩, p + n) := by rw [HFI.out, if_neg hn]
      have HFI := Lib.hid hfin
      have hwd := Word_any ⟨⟨txt⟩⟩ W2 HG.out
      rw [HWD.out] at hwd
      have HWO := Lib.hid hwd
      clear hfin hwd l0 l1 l2 l3 k0 k2 k3
      cases wd with
      | true =>
        go_wp2_with (
          go_at_call 96; refine HWO.out.mono ?_
          rintro e w4 ⟨rfl, hb4⟩
          have hN4 := HNA.out.keep hb4
          clear k1
          have k0 := hN4.c0
          have k1 := hN4.c1
          have k2 := hN4.c2
          have k3 := fun i => hN4.f i
          have l0 := hN4.d0
          have l1 := hN4.d1
          have l2 := hN4.d2
          have l3 := fun i => hN4.e i
          have hlo := hN4.low
          have hne : ¬ g = w.heap.size := by omega
          have hne' : ¬ w.heap.size = g := by omega
          have HN4 := Lib.hid hN4
          clear hN4 hb4)
        refine bodyPost_ret (one_result _ _ w.heap.size _ _ _ _ _ rfl rfl rfl ((HN4.out.kind 3).row _ _ _)) rfl ⟨(HN4.out.kind 3).rowBelow _ _ _, .inl ⟨_, _, HFI.out, by simp [Tok.val]⟩⟩
      | false =>
        go_wp2_with (
          go_at_call 96; refine HWO.out.mono ?_
          rintro e w4 ⟨rfl, hb4⟩
          have hN4 := HNA.out.keep hb4
          clear k1
          have k0 := hN4.c0
          have k1 := hN4.c1
          have k2 := hN4.c2
          have l0 := hN4.d0
          have l1 := hN4.d1
          have l2 := hN4.d2
          have l3 := fun i => hN4.e i
          have HN4 := Lib.hid hN4
          clear hN4 hb4)
        refine bodyPost_ret (one_result _ _ w.heap.size _ _ _ _ _ rfl rfl rfl (HN4.out.row _ _ _)) rfl ⟨HN4.out.rowBelow _ _ _, .inl ⟨_, _, HFI.out, by simp [Tok.val]⟩⟩
  have hfin : R = signR p (l.drop p) signL := by rw [← HR.out, HDR.out, oneR, if_neg h1, if_neg h2, if_neg h3, if_neg h4]
  have HSG := Lib.hid (sign_any l p _ HGL.out (by omega) hlen)
  rw [← hfin] at HSG
  have h4' : letterB c.toNat = false := by simpa using h4
  clear hfin h1 h2 h3 h4 d0 d1 d2 f0
  cases R with
  | ok x =>
    go_wp2_with (first
      | (go_at_call 95; (with_reducible refine (digit_any _ _).mono ?_); rintro e w2 ⟨rfl, rfl⟩)
      | (go_at_call 94; (with_reducible refine (letter_any _ _).mono ?_); rintro e w2 ⟨rfl, rfl⟩)
      | (go_at_call 113; refine HSG.out.mono ?_
         rintro e w1 ⟨hb1, h⟩
         obtain ⟨⟨tk, tt, ta⟩, next, hq, rfl⟩ := h.resolve_right (by rintro ⟨_, _, _, _, _, h, _⟩; cases h)
         obtain rfl := Rd.ok.inj hq
         have hR1 := HR0.out.keep hb1
         have d0 := hR1.d0
         have d1 := hR1.d1
         have d2 := hR1.d2
         have f0 := fun i => hR1.e i
         have HR1 := Lib.hid hR1
         dsimp only [Tok.val]
         clear hR1 hb1 h hq))
    refine bodyPost_ret (one_result _ _ w.heap.size _ _ _ _ _ rfl rfl rfl (HR1.out.row _ _ _)) rfl ⟨HR1.out.rowBelow _ _ _, .inl ⟨_, _, rfl, rfl⟩⟩
  | bad ec ea =>
    go_wp2_with (first
      | (go_at_call 95; (with_reducible refine (digit_any _ _).mono ?_); rintro e w2 ⟨rfl, rfl⟩)
      | (go_at_call 94; (with_reducible refine (letter_any _ _).mono ?_); rintro e w2 ⟨rfl, rfl⟩)
      | (go_at_call 113; refine HSG.out.mono ?_
         rintro e w1 ⟨hb1, h⟩
         obtain ⟨c', a', ⟨tk, tt, ta⟩, nx, eb, hq, rfl, hge, herr⟩ := h.resolve_left (by rintro ⟨_, _, h, _⟩; cases h)
         obtain ⟨rfl, rfl⟩ := Rd.bad.inj hq
         have hR1 := HR0.out.keep hb1
         have d0 := hR1.d0
         have d1 := hR1.d1
         have d2 := hR1.d2
         have f0 := fun i => hR1.e i
         have HR1 := Lib.hid hR1
         have HERR := Lib.hid herr
         have hlt0 := HR0.out.lt
         dsimp only [Tok.val]
         clear hR1 hb1 h hq herr))
    refine bodyPost_ret (one_result _ _ w.heap.size _ _ _ _ _ rfl rfl rfl (HR1.out.row _ _ _)) rfl ⟨HR1.out.rowBelow _ _ _, .inr ⟨_, _, ⟨tk, tt, ta⟩, nx, eb, rfl, rfl, by omega, HR1.out.bad _ (by omega) _ _ _ HERR.out⟩⟩
end Go.Proofs.YtjpmghgmmeemkaaGreatDoor

namespace Go.Proofs.YtjpmghgmmeemkaaGreatDoor
open Go.RowKit

def Tok.cells (x : Tok) : List Value := [.int .i64 x.kind, .string ⟨⟨x.text⟩⟩, .int .i64 x.at_]
def tokCells (l : List Tok) : List Value := l.flatMap Tok.cells
theorem tokCells_append (a b : List Tok) : tokCells (a ++ b) = tokCells a ++ tokCells b := by simp [tokCells]
theorem tokCells_one (x : Tok) : tokCells [x] = x.cells := by simp [tokCells]
theorem tokCells_length (l : List Tok) : (tokCells l).length = l.length * 3 := by
  induction l with
  | nil => rfl
  | cons x r ih => simp only [tokCells, List.flatMap_cons, List.length_append, List.length_cons] at ih ⊢; rw [ih]; simp [Tok.cells]; omega
theorem tokCells_get (a : List Tok) (x : Tok) (b : List Tok) (j : Nat) (hj : j < 3) : (tokCells (a ++ x :: b))[a.length * 3 + j]? = x.cells[j]? := by
  have h : tokCells (a ++ x :: b) = tokCells a ++ (x.cells ++ tokCells b) := by simp [tokCells]
  rw [h, List.getElem?_append_right (by rw [tokCells_length]; omega), tokCells_length, List.getElem?_append_left (by simp [Tok.cells]; omega)]
  congr 1
  omega
theorem infoTok : (Tryz.prog.info? 147).map (fun i => (i.zero, i.size, i.bytes)) = some (some (.agg #[.int .i64 0, .string ⟨#[]⟩, .int .i64 0]), 3, 32) := by kernel_rfl
theorem Tok.oneCells (x : Tok) : ∀ u ∈ x.cells, u.oneCell' = true := by
  intro u hu
  unfold Tok.cells at hu
  simp at hu
  rcases hu with rfl | rfl | rfl <;> rfl
theorem Tok.news (x : Tok) (W : World) : ∀ j u, x.cells[j]? = some u → (W.alloc (.cells #[.int .i64 x.kind, .string ⟨⟨x.text⟩⟩, .int .i64 x.at_] 147)).cell? ((⟨W.heap.size, 0, none⟩ : Addr).add j) = some u := by
  intro j u hj
  have hj' : j < 3 := by have := (List.getElem?_eq_some_iff.1 hj).1; simpa [Tok.cells] using this
  unfold Tok.cells at hj
  have e : j = 0 ∨ j = 1 ∨ j = 2 := by omega
  rcases e with rfl | rfl | rfl <;> simpa [Addr.add] using hj

/-- The signs and words behind which a line's end is an end. -/
def endsL : List UInt8 := [32, 97, 110, 121, 32, 98, 114, 101, 97, 107, 32, 99, 111, 110, 116, 105, 110, 117, 101, 32, 102, 97, 108, 108, 116, 104, 114, 111, 117, 103, 104, 32, 102, 97, 108, 115, 101, 32, 102, 117, 110, 99, 32, 109, 97, 112, 32, 110, 105, 108, 32, 114, 101, 116, 117, 114, 110, 32, 116, 114, 117, 101, 32, 41, 32, 93, 32, 125, 32, 43, 43, 32, 45, 45, 32]
def endT (k : Int) (s : List UInt8) : Bool := if k = 2 ∨ k = 4 ∨ k = 5 ∨ k = 6 then true else if k = 3 ∨ k = 7 then Lib.contains endsL (32 :: (s ++ [32])) else false
/-- Is a line's end behind these tokens an end? -/
def endR (ts : List Tok) : Bool :=
  match ts.getLast? with
  | none => false
  | some t => endT t.kind t.text

set_option maxRecDepth 100000 in
set_option maxHeartbeats 2000000 in
theorem ending_any (ts : List Tok) (v : Value) (B : Nat) (w : World) (hgl : Gl w) (ho : w.ownsRow B 147 3 v ts.length (tokCells ts)) (hn : ts.length ≤ 1000000000) (hts : ∀ t ∈ ts, t.text.length ≤ 1000000000) :
    Calls Tryz.prog 99 #[v] w fun e w' => e = .returned (.bool (endR ts)) ∧ Below w.heap.size w w' := by
  obtain ⟨A, cap, rfl, hc1, hc2⟩ := row_form ho
  obtain ⟨R, HR⟩ : ∃ R, Hid (endR ts = R) := ⟨_, rfl⟩
  rw [HR.out]
  rcases List.eq_nil_or_concat ts with rfl | ⟨init, ⟨k, s, a⟩, rfl⟩
  · obtain rfl : false = R := HR.out
    clear ho hgl
    simp only [List.length_nil]
    go_enter Tryz.func99, Tryz.ntmps99
    go_wp2_with fail
    go_ret
    exact ⟨rfl, Below.refl _ _⟩
  · rw [List.concat_eq_append] at *
    obtain ⟨b, rfl, hB, hb⟩ := row_some ho (by simp)
    have hs : s.length ≤ 1000000000 := hts _ (List.mem_append_right _ (List.mem_singleton.2 rfl))
    have hfin : R = endT k s := by rw [← HR.out]; simp [endR]
    have e0 : w.cell? ⟨b, init.length * 3, none⟩ = some (.int .i64 k) := by have h := ho.cells (g := b) rfl (init.length * 3 + 0) _ (by rw [tokCells_get init ⟨k, s, a⟩ [] 0 (by omega)]; rfl); rw [Addr.add_lit, Nat.zero_add] at h; exact h
    have e1 : w.cell? ⟨b, init.length * 3 + 1, none⟩ = some (.string ⟨⟨s⟩⟩) := by have h := ho.cells (g := b) rfl (init.length * 3 + 1) _ (by rw [tokCells_get init ⟨k, s, a⟩ [] 1 (by omega)]; rfl); rw [Addr.add_lit, Nat.zero_add] at h; exact h
    have e2 : w.cell? ⟨b, init.length * 3 + 2, none⟩ = some (.int .i64 a) := by have h := ho.cells (g := b) rfl (init.length * 3 + 2) _ (by rw [tokCells_get init ⟨k, s, a⟩ [] 2 (by omega)]; rfl); rw [Addr.add_lit, Nat.zero_add] at h; exact h
    obtain ⟨_, ⟨m, hm⟩, _⟩ := hgl
    have hm' : ∀ o, (w.alloc o).cell? ⟨2, 0, none⟩ = some (.int .i64 m) := fun o => (((Below.refl w.heap.size w).alloc (Nat.le_refl _) o).cell (p := ⟨2, 0, none⟩) (World.block_lt_of_cell? w _ hm)).trans hm
    have hbel : ∀ o, Below w.heap.size w (w.alloc o) := fun o => (Below.refl w.heap.size w).alloc (Nat.le_refl _) o
    have HM := Lib.hid hm'
    have HBE := Lib.hid hbel
    have HFI := Lib.hid hfin
    have hil : init.length + 1 ≤ 1000000000 := by simpa using hn
    simp only [List.length_append, List.length_cons, List.length_nil, Nat.zero_add] at hc1 ⊢
    clear hm hm' hbel hfin hts ho hn
    by_cases h2 : k = 2
    · subst h2
      go_enter Tryz.func99, Tryz.ntmps99
      go_wp2_with fail
      go_ret
      exact ⟨ret_bool (by rw [HFI.out]; simp [endT]), HBE.out _⟩
    by_cases h4 : k = 4
    · subst h4
      go_enter Tryz.func99, Tryz.ntmps99
      go_wp2_with fail
      go_ret
      exact ⟨ret_bool (by rw [HFI.out]; simp [endT]), HBE.out _⟩
    by_cases h5 : k = 5
    · subst h5
      go_enter Tryz.func99, Tryz.ntmps99
      go_wp2_with fail
      go_ret
      exact ⟨ret_bool (by rw [HFI.out]; simp [endT]), HBE.out _⟩
    by_cases h6 : k = 6
    · subst h6
      go_enter Tryz.func99, Tryz.ntmps99
      go_wp2_with fail
      go_ret
      exact ⟨ret_bool (by rw [HFI.out]; simp [endT]), HBE.out _⟩
    by_cases h3 : k = 3
    · subst h3
      have hfin : Lib.contains endsL (32 :: (s ++ [32])) = R := by rw [HFI.out]; simp [endT]
      have HFI := Lib.hid hfin
      clear hfin
      go_enter Tryz.func99, Tryz.ntmps99
      go_wp2_with (go_at_call 87; refine (Tryz.strings_Contains _ _ m _ (by decide) (HM.out _)).mono ?_; rintro e w' ⟨rfl, rfl⟩)
      go_ret
      exact ⟨ret_bool (by rw [← HFI.out]; simp [endsL]), HBE.out _⟩
    by_cases h7 : k = 7
    · subst h7
      have hfin : Lib.contains endsL (32 :: (s ++ [32])) = R := by rw [HFI.out]; simp [endT]
      have HFI := Lib.hid hfin
      clear hfin
      go_enter Tryz.func99, Tryz.ntmps99
      go_wp2_with (go_at_call 87; refine (Tryz.strings_Contains _ _ m _ (by decide) (HM.out _)).mono ?_; rintro e w' ⟨rfl, rfl⟩)
      go_ret
      exact ⟨ret_bool (by rw [← HFI.out]; simp [endsL]), HBE.out _⟩
    have b2 : (k == 2) = false := by simpa using h2
    have b3 : (k == 3) = false := by simpa using h3
    have b4 : (k == 4) = false := by simpa using h4
    have b5 : (k == 5) = false := by simpa using h5
    have b6 : (k == 6) = false := by simpa using h6
    have b7 : (k == 7) = false := by simpa using h7
    have hfin : R = false := by rw [HFI.out]; simp [endT, h2, h3, h4, h5, h6, h7]
    have HFI := Lib.hid hfin
    clear hfin h2 h3 h4 h5 h6 h7
    go_enter Tryz.func99, Tryz.ntmps99
    go_wp2_with fail
    go_ret
    exact ⟨ret_bool HFI.out.symm, HBE.out _⟩
end Go.Proofs.YtjpmghgmmeemkaaGreatDoor

namespace Go.Proofs.YtjpmghgmmeemkaaGreatDoor
open Go.RowKit

theorem litR_next {at_ : Nat} : ∀ (n : Nat) (l : List UInt8) (i : Nat) (out : List UInt8) {x : List UInt8 × Nat}, l.length = n → litR at_ l i out = .ok x → i < x.2 ∧ x.2 ≤ i + l.length ∧ x.1.length ≤ out.length + l.length := by
  intro n
  induction n using Nat.strongRecOn with
  | ind n ih =>
    intro l i out x hl h
    cases l with
    | nil => rw [litR] at h; cases h
    | cons c r =>
      rw [litR] at h
      split at h
      · obtain rfl := Rd.ok.inj h
        simp
      · split at h
        · cases h
        · split at h
          · split at h
            · cases h
            · have hf := escS_fit r
              have h3 : (escS r).2 ≠ 0 := by assumption
              have hlen : (r.drop (escS r).2).length = r.length - (escS r).2 := List.length_drop
              have := ih _ (by simp at hl; omega) _ _ _ hlen h
              simp only [List.length_append, List.length_cons, List.length_nil] at this ⊢
              omega
          · have := ih r.length (by simp at hl; omega) r _ _ rfl h
            simp only [List.length_append, List.length_cons, List.length_nil] at this ⊢
            omega

theorem floatB_two {l : List UInt8} (h : floatB l = true) : ∃ d c r, l = d :: c :: r ∧ digitB c.toNat = true := by
  match l, h with
  | [], h => simp [floatB] at h
  | [_], h => simp [floatB] at h
  | d :: c :: r, h =>
    simp only [floatB, Bool.and_eq_true] at h
    exact ⟨d, c, r, rfl, h.2⟩
theorem numN_le (s : List UInt8) : numN s ≤ s.length := by
  have h1 := runN_le false s
  have h2 := runN_le false ((restL s).drop 1)
  have h3 : (restL s).length = s.length - runN false s := by unfold restL; rw [List.length_drop]
  rw [List.length_drop] at h2
  unfold numN
  by_cases hf : floatB (restL s) = true
  · rw [if_pos hf]
    obtain ⟨d, c, r, he, _⟩ := floatB_two hf
    have h5 : 2 ≤ (restL s).length := by rw [he]; simp
    have h4 : (partL s).length ≤ (restL s).length - 1 := by
      unfold partL
      rw [if_pos hf, List.length_take, List.length_drop]
      omega
    omega
  · rw [if_neg hf]
    omega
theorem signR_next {p : Nat} {s : List UInt8} : ∀ {xs : List (List UInt8)} {x : Tok × Nat}, (∀ z ∈ xs, z ≠ []) → signR p s xs = .ok x → p < x.2 ∧ x.2 ≤ p + s.length ∧ x.1.text.length ≤ s.length
  | [], x, _, h => by cases h
  | z :: zs, x, hz, h => by
    unfold signR at h
    split at h
    · rename_i hp
      obtain rfl := Rd.ok.inj h
      have hl : z.length ≤ s.length := (List.isPrefixOf_iff_prefix.1 hp).length_le
      have h0 : 0 < z.length := List.length_pos_iff.2 (hz z (by simp))
      simp only
      omega
    · exact signR_next (fun y hy => hz y (List.mem_cons_of_mem _ hy)) h

theorem oneR_next {p : Nat} {s : List UInt8} {x : Tok × Nat} (h : oneR p s = .ok x) : p < x.2 ∧ x.2 ≤ p + s.length ∧ x.1.text.length ≤ s.length := by
  cases s with
  | nil => cases h
  | cons c r =>
    rw [oneR] at h
    split at h
    · obtain rfl := Rd.ok.inj h; simp
    · split at h
      · cases hq : litR p r (p + 1) [] with
        | bad ec ea => rw [hq] at h; cases h
        | ok y =>
          rw [hq] at h
          obtain rfl := Rd.ok.inj h
          have := litR_next r.length r (p + 1) [] rfl hq
          simp at this ⊢
          omega
      · split at h
        · rename_i hd
          split at h
          · cases h
          · obtain rfl := Rd.ok.inj h
            have h1 := numN_le (c :: r)
            have h2 : 0 < numN (c :: r) := by
              unfold numN
              rw [runN_go (by simpa [runP] using hd)]
              omega
            simp only [List.length_take]
            omega
        · split at h
          · rename_i hl
            split at h
            · cases h
            · obtain rfl := Rd.ok.inj h
              have h1 := runN_le true (c :: r)
              have h2 : 0 < runN true (c :: r) := by rw [runN_go (by simp [runP, hl])]; omega
              simp only [List.length_take]
              omega
          · exact signR_next (by decide) h

/-- The tokens from a place on. -/
def scanR (p : Nat) (s : List UInt8) (ts : List Tok) : Rd (List Tok) :=
  match s with
  | [] => .ok (if endR ts then ts ++ [⟨1, [], p⟩] else ts)
  | c :: r =>
    if c = 10 then scanR (p + 1) r (if endR ts then ts ++ [⟨1, [], p⟩] else ts)
    else if c = 32 ∨ c = 9 then scanR (p + 1) r ts
    else if Lib.hasPrefix (c :: r) [47, 47] then
      (if 0 ≤ Lib.indexByte (c :: r) 10 then scanR (p + (Lib.indexByte (c :: r) 10).toNat) (r.drop ((Lib.indexByte (c :: r) 10).toNat - 1)) ts else scanR (p + (r.length + 1)) [] ts)
    else match oneR p (c :: r) with
      | .bad e a => .bad e a
      | .ok x => scanR x.2 (r.drop (x.2 - p - 1)) (ts ++ [x.1])
termination_by s.length
decreasing_by
  all_goals simp
  all_goals omega

/-- All tokens of a text. -/
def scanT (l : List UInt8) : Rd (List Tok) := if 60000 < l.length then .bad 13 0 else scanR 0 l []
end Go.Proofs.YtjpmghgmmeemkaaGreatDoor

namespace Go.Proofs.YtjpmghgmmeemkaaGreatDoor
open Go.RowKit

/-- What scanning ends as. -/
def ScanPost (w : World) (r : Rd (List Tok)) (e : Ending) (w' : World) : Prop := Below w.heap.size w w' ∧
  ((∃ ts v, r = .ok ts ∧ e = .returned (.tuple #[v, .nilIface]) ∧ w'.ownsRow w.heap.size 147 3 v ts.length (tokCells ts)) ∨
   (∃ c a b, r = .bad c a ∧ e = .returned (.tuple #[.slice none 0 0, .iface 55 (.pointer (some ⟨b, 0, none⟩))]) ∧ w.heap.size ≤ b ∧ ErrAt w' b c a))

theorem hasPrefix_false_two {s : List UInt8} (h : Lib.hasPrefix s [47, 47] = true) : 2 ≤ s.length := (List.isPrefixOf_iff_prefix.1 h).length_le

/-- What has been scanned at the place j. -/
def ScanAt (l : List UInt8) (R : Rd (List Tok)) (j : Nat) (ts : List Tok) : Prop := (j ≤ l.length ∧ scanR j (l.drop j) ts = R) ∨ (j = l.length + 1 ∧ R = .ok ts)

set_option maxRecDepth 100000 in
set_option maxHeartbeats 8000000 in
theorem Scan_any (l : List UInt8) (w : World) (hgl : Gl w) (hbig : l.length ≤ 140737488351232) : Calls Tryz.prog 88 #[.string ⟨⟨l⟩⟩] w (ScanPost w (scanT l)) := by
  obtain ⟨R, HR⟩ : ∃ R, Hid (scanT l = R) := ⟨_, rfl⟩
  rw [HR.out]
  by_cases hlong : 60000 < l.length
  · have hfin : R = .bad 13 0 := by rw [← HR.out, scanT, if_pos hlong]
    have HFI := Lib.hid hfin
    clear hfin hgl
    go_enter Tryz.func88, Tryz.ntmps88
    go_wp2_with (go_at_call 98; refine (lexWrong_any _ _ _).mono ?_; rintro e w' ⟨rfl, hw'⟩; have HW := Lib.hid hw'; clear hw')
    go_ret2
    exact ⟨by rw [HW.out]; exact (Below.refl _ _).alloc (Nat.le_refl _) _, .inr ⟨13, 0, _, HFI.out, rfl, Nat.le_refl _, by rw [HW.out]; exact heap_alloc_new _ _⟩⟩
  have hfin : scanR 0 l [] = R := by rw [← HR.out, scanT, if_neg hlong]
  have HFI := Lib.hid hfin
  have hll : l.length ≤ 60000 := by omega
  obtain ⟨i0, hi, hz0, hz1, hz2⟩ := info_parts infoTok
  have HGL := Lib.hid hgl
  clear hfin hgl hlong hbig
  go_enter Tryz.func88, Tryz.ntmps88
  go_wp2_with fail
  go_loopw [4, 5] (fun o i wr => ∃ (j : Nat) (ts : List Tok), i = .int .i64 j ∧ j ≤ l.length + 1 ∧ ts.length ≤ j ∧ Hid (∀ t ∈ ts, t.text.length ≤ 1000000000) ∧ Hid (wr.ownsRow w.heap.size 147 3 o ts.length (tokCells ts)) ∧ Hid (ScanAt l R j ts) ∧ Below w.heap.size w wr) (fun _ i _ => l.length + 1 - (intOf i).toNat)
  case atStart => exact ⟨0, [], rfl, by omega, Nat.le_refl _, Lib.hid (by simp), Lib.hid (World.ownsRow_nil _ _ _ _), Lib.hid (.inl ⟨by omega, HFI.out⟩), Below.refl _ _⟩
  case round =>
    obtain ⟨j, ts, rfl, hj, htj, hts, ho, hat, hb⟩ := hrel
    obtain ⟨A, cap, rfl, hc1, hc2⟩ := row_form ho.out
    by_cases hend : j = l.length + 1
    · subst hend
      have hfin : R = .ok ts := by
        rcases hat.out with ⟨h, _⟩ | ⟨_, h⟩
        · omega
        · exact h
      have HFI := Lib.hid hfin
      clear hfin
      go_wp2_with fail
      go_ret2
      exact ⟨hb, .inl ⟨ts, _, HFI.out, rfl, ho.out⟩⟩
    have hjl : j ≤ l.length := by omega
    have hat' : scanR j (l.drop j) ts = R := by
      rcases hat.out with ⟨_, h⟩ | ⟨h, _⟩
      · exact h
      · omega
    have HAT := Lib.hid hat'
    clear hat' hat hend hj
    obtain ⟨nl, HNL⟩ : ∃ nl, Hid ((decide (j = l.length) || l[j]? == some 10) = nl) := ⟨_, rfl⟩
    go_upto_region 11 with fail
    go_cut [35] (fun t wx => t = .bool nl ∧ wx = wr)
    case first =>
      by_cases he : j = l.length
      · obtain rfl : true = nl := by rw [← HNL.out]; simp [he]
        subst he
        go_wp2_with fail
        go_meet
        exact ⟨rfl, rfl⟩
      · obtain ⟨c, hc⟩ : ∃ c, l[j]? = some c := ⟨l[j], List.getElem?_eq_getElem (by omega)⟩
        have hix := ba_at l j c hc
        have HC := Lib.hid hc
        clear hc
        have hne : ((j : Int) == l.length) = false := by simp; omega
        by_cases h10 : c = 10
        · obtain rfl : true = nl := by rw [← HNL.out, HC.out]; simp [h10]
          subst h10
          go_wp2_with fail
          go_meet
          exact ⟨rfl, rfl⟩
        · obtain rfl : false = nl := by rw [← HNL.out, HC.out]; simp [h10, he]
          have n10 : ((c.toNat : Int) == 10) = false := u8_ne h10
          go_wp2_with fail
          go_meet
          exact ⟨rfl, rfl⟩
    case rest =>
      obtain ⟨rfl, rfl⟩ := hcut
      have hbs := hb.size
      cases nl with
      | true =>
        have hnext : ∀ ts', (if endR ts then ts ++ [⟨1, [], j⟩] else ts) = ts' → ScanAt l R (j + 1) ts' := by
          intro ts' e
          by_cases he : j = l.length
          · right
            refine ⟨by omega, ?_⟩
            rw [← HAT.out, he, List.drop_length, scanR, ← he, e]
          · left
            refine ⟨by omega, ?_⟩
            have h1 := HNL.out
            rw [decide_eq_false he] at h1
            obtain ⟨c, hc⟩ : ∃ c, l[j]? = some c := ⟨l[j], List.getElem?_eq_getElem (by omega)⟩
            rw [hc] at h1
            obtain rfl : c = 10 := by simpa using h1
            rw [← HAT.out, drop_cons hc]
            conv => rhs; rw [scanR, if_pos rfl, e]
        obtain ⟨en, HEN⟩ : ∃ en, Hid (endR ts = en) := ⟨_, rfl⟩
        rw [HEN.out] at hnext
        have HNX := Lib.hid hnext
        have hec := ending_any ts _ w.heap.size wc (HGL.out.up hb) ho.out (by omega) hts.out
        rw [HEN.out] at hec
        have HEC := Lib.hid hec
        clear hnext hec
        cases en with
        | true =>
          go_wp2_with (first
            | (go_at_call 99; refine HEC.out.mono ?_; rintro e w4 ⟨rfl, hb4⟩; have ho4 := Lib.hid (row_under hb4 ho.out); have hb4s := hb4.size)
            | (at_builtin; refine wpList_append_own _ rfl _ _ 143 rfl w.heap.size 147 i0 _ 3 32 Tryz.underlying143 hi hz0 hz1 hz2 rfl (by decide) _ _ _ rfl (ho4.out.alloc _) ⟨w4.heap.size, 0, none⟩ 1 1 (Tok.cells ⟨1, [], j⟩) rfl rfl (Tok.news ⟨1, [], j⟩ w4) (Tok.oneCells _) (by unfold maxLen; omega) (by omega) (by simp; omega) ?_; intro v1 w1 ho1 hg1 _))
          have hb4' : Below w.heap.size w w4 := hb.trans (hb4.mono hbs)
          have hb1 : Below w.heap.size w w1 := grown_below (hb4'.alloc hb4'.size _) (ho4.out.alloc _) (by have := hb4'.size; simp; omega) hg1
          go_wp2_with fail
          go_roundw
          case rel =>
            refine ⟨j + 1, ts ++ [⟨1, [], j⟩], by go_num, by omega, by simp; omega, Lib.hid ?_, Lib.hid (by rw [tokCells_append, tokCells_one]; simpa using ho1), Lib.hid (HNX.out _ rfl), hb1⟩
            intro t ht
            rcases List.mem_append.1 ht with h | h
            · exact hts.out t h
            · obtain rfl := List.mem_singleton.1 h
              simp
          case measure => simp [intOf]; omega
        | false =>
          go_wp2_with (go_at_call 99; refine HEC.out.mono ?_; rintro e w4 ⟨rfl, hb4⟩; have ho4 := Lib.hid (row_under hb4 ho.out); have hb4s := hb4.size)
          go_roundw
          case rel => exact ⟨j + 1, ts, by go_num, by omega, by omega, hts, ho4, Lib.hid (HNX.out _ rfl), hb.trans (hb4.mono hbs)⟩
          case measure => simp [intOf]; omega
      | false =>
        have hne : ¬ j = l.length := by
          intro e
          have h1 := HNL.out
          rw [decide_eq_true e] at h1
          simp at h1
        obtain ⟨c, hc⟩ : ∃ c, l[j]? = some c := ⟨l[j], List.getElem?_eq_getElem (by omega)⟩
        have h10 : ¬ c = 10 := by
          intro e
          have h1 := HNL.out
          rw [hc, e] at h1
          simp at h1
        have hix := ba_at l j c hc
        have hdr := drop_cons hc
        have hat2 := HAT.out
        have HDR := Lib.hid hdr
        have hlt : j < l.length := by omega
        clear hc hdr hne
        by_cases h32 : c = 32 ∨ c = 9
        · have hfin : scanR (j + 1) (l.drop (j + 1)) ts = R := by
            rw [← hat2, HDR.out]
            conv => rhs; rw [scanR, if_neg h10, if_pos h32]
          have HFI := Lib.hid hfin
          clear hfin hat2
          rcases h32 with rfl | rfl
          · go_wp2_with fail
            go_roundw
            case rel => exact ⟨j + 1, ts, by go_num, by omega, by omega, hts, ho, Lib.hid (.inl ⟨by omega, HFI.out⟩), hb⟩
            case measure => simp [intOf]; omega
          · go_wp2_with fail
            go_roundw
            case rel => exact ⟨j + 1, ts, by go_num, by omega, by omega, hts, ho, Lib.hid (.inl ⟨by omega, HFI.out⟩), hb⟩
            case measure => simp [intOf]; omega
        have n32 : ((c.toNat : Int) == 32) = false := u8_ne (fun e => h32 (.inl e))
        have n9 : ((c.toNat : Int) == 9) = false := u8_ne (fun e => h32 (.inr e))
        obtain ⟨s, HS⟩ : ∃ s, Hid (l.drop j = s) := ⟨_, rfl⟩
        have x1 := ba_drop l j
        rw [HS.out] at x1
        have hpre := Tryz.strings_HasPrefix ⟨⟨s⟩⟩ ⟨#[47, 47]⟩ wc
        have e1 : (⟨⟨s⟩⟩ : ByteArray).data.toList = s := rfl
        have e2 : (⟨#[47, 47]⟩ : ByteArray).data.toList = [47, 47] := rfl
        rw [e1, e2] at hpre
        obtain ⟨pf, HPF⟩ : ∃ pf, Hid (Lib.hasPrefix s [47, 47] = pf) := ⟨_, rfl⟩
        rw [HPF.out] at hpre
        have HPRE := Lib.hid hpre
        clear e2 hpre
        cases pf with
        | true =>
          have hpf2 : Lib.hasPrefix (c :: l.drop (j + 1)) [47, 47] = true := by rw [← HDR.out, HS.out]; exact HPF.out
          have hib := Tryz.strings_IndexByte ⟨⟨s⟩⟩ 10 wc
          have e3 : ((10 : Int).toNat.toUInt8) = 10 := rfl
          rw [e1, e3] at hib
          obtain ⟨ib, HIB⟩ : ∃ ib, Hid (Lib.indexByte s 10 = ib) := ⟨_, rfl⟩
          rw [HIB.out] at hib
          have hge := Lib.indexByte_ge s 10
          rw [HIB.out] at hge
          have hsl : s.length = l.length - j := by rw [← HS.out, List.length_drop]
          have hsc : s = c :: l.drop (j + 1) := by rw [← HS.out]; exact HDR.out
          have hscan : (if 0 ≤ ib then scanR (j + ib.toNat) ((l.drop (j + 1)).drop (ib.toNat - 1)) ts else scanR (j + ((l.drop (j + 1)).length + 1)) [] ts) = R := by
            rw [← hat2]
            conv => rhs; rw [HDR.out, scanR, if_neg h10, if_neg h32, if_pos hpf2, ← hsc, HIB.out]
          have HSC := Lib.hid hscan
          have HIBC := Lib.hid hib
          have HSL := Lib.hid hsl
          clear hib e1 e3 hat2 hpf2 hscan hsl
          by_cases h0 : 0 ≤ ib
          · have hpos : 1 ≤ ib ∧ ib < (l.length : Int) - j := by
              obtain ⟨o, rfl⟩ := Int.eq_ofNat_of_zero_le h0
              have h1 := (Lib.indexByte_some HIB.out).1
              have h2 := (List.getElem?_eq_some_iff.1 h1).1
              rw [HSL.out] at h2
              have h3 : o ≠ 0 := by
                rintro rfl
                rw [hsc] at h1
                exact h10 (by simpa using h1)
              omega
            have hfin : scanR (j + ib.toNat) (l.drop (j + ib.toNat)) ts = R := by
              have h := HSC.out
              rw [if_pos h0, List.drop_drop, show j + 1 + (ib.toNat - 1) = j + ib.toNat by omega] at h
              exact h
            have HFI := Lib.hid hfin
            clear hfin hsc
            go_wp2_with (first
              | (go_at_call 100; refine HPRE.out.mono ?_; rintro e w2 ⟨rfl, rfl⟩)
              | (go_at_call 101; refine HIBC.out.mono ?_; rintro e w2 ⟨rfl, rfl⟩))
            go_roundw
            case rel => exact ⟨j + ib.toNat, ts, by congr 1; omega, by omega, by omega, hts, ho, Lib.hid (.inl ⟨by omega, HFI.out⟩), hb⟩
            case measure => simp [intOf]; omega
          · have hfin : scanR l.length [] ts = R := by
              have h := HSC.out
              rw [if_neg h0, List.length_drop, show j + (l.length - (j + 1) + 1) = l.length by omega] at h
              exact h
            have HFI := Lib.hid hfin
            clear hfin hsc
            go_wp2_with (first
              | (go_at_call 100; refine HPRE.out.mono ?_; rintro e w2 ⟨rfl, rfl⟩)
              | (go_at_call 101; refine HIBC.out.mono ?_; rintro e w2 ⟨rfl, rfl⟩))
            go_roundw
            case rel => exact ⟨l.length, ts, rfl, by omega, by omega, hts, ho, Lib.hid (.inl ⟨by omega, by rw [List.drop_length]; exact HFI.out⟩), hb⟩
            case measure => simp [intOf]; omega
        | false =>
          have hpf2 : Lib.hasPrefix (c :: l.drop (j + 1)) [47, 47] = false := by rw [← HDR.out, HS.out]; exact HPF.out
          have hone := one_any l j wc (HGL.out.up hb) hlt (by omega)
          obtain ⟨Q, HQ⟩ : ∃ Q, Hid (oneR j (l.drop j) = Q) := ⟨_, rfl⟩
          rw [HQ.out] at hone
          have hbad : ∀ e a, Q = .bad e a → R = .bad e a := by
            intro e a hq
            rw [← hat2, HDR.out, scanR, if_neg h10, if_neg h32, if_neg (by rw [hpf2]; simp), ← HDR.out, HQ.out, hq]
          have hok : ∀ x, Q = .ok x → scanR x.2 ((l.drop (j + 1)).drop (x.2 - j - 1)) (ts ++ [x.1]) = R := by
            intro x hq
            rw [← hat2]
            conv => rhs; rw [HDR.out, scanR, if_neg h10, if_neg h32, if_neg (by rw [hpf2]; simp), ← HDR.out, HQ.out, hq]
          have HBAD := Lib.hid hbad
          have HOK := Lib.hid hok
          have HON := Lib.hid hone
          clear hone e1 hat2 hpf2 hbad hok
          cases Q with
          | bad ec ea =>
            go_wp2_with (first
              | (go_at_call 100; refine HPRE.out.mono ?_; rintro e w2 ⟨rfl, rfl⟩)
              | (go_at_call 102; refine HON.out.mono ?_
                 rintro e w4 ⟨hb4, h⟩
                 obtain ⟨c', a', ⟨tk, tt, ta⟩, nx, eb, hq, rfl, hge, herr⟩ := h.resolve_left (by rintro ⟨_, _, h, _⟩; cases h)
                 obtain ⟨rfl, rfl⟩ := Rd.bad.inj hq
                 have HERR := Lib.hid herr
                 have HB4 := Lib.hid hb4
                 dsimp only [Tok.val]
                 clear h hq herr hb4))
            go_ret2
            have hbs4 := HB4.out.size
            exact ⟨(hb.trans (HB4.out.mono hbs)).alloc (by omega) _, .inr ⟨_, _, eb, HBAD.out _ _ rfl, rfl, by omega, (heap_alloc_old _ _ (Array.getElem?_eq_some_iff.1 HERR.out).1).trans HERR.out⟩⟩
          | ok x =>
            obtain ⟨⟨tk, tt, ta⟩, nx⟩ := x
            have hnx := oneR_next HQ.out
            rw [List.length_drop] at hnx
            dsimp only at hnx
            have hfin : scanR nx (l.drop nx) (ts ++ [⟨tk, tt, ta⟩]) = R := by
              have h := HOK.out _ rfl
              rw [List.drop_drop] at h
              dsimp only at h
              rw [show j + 1 + (nx - j - 1) = nx by omega] at h
              exact h
            have HFI := Lib.hid hfin
            clear hfin
            go_wp2_with (first
              | (go_at_call 100; refine HPRE.out.mono ?_; rintro e w2 ⟨rfl, rfl⟩)
              | (go_at_call 102; refine HON.out.mono ?_
                 rintro e w4 ⟨hb4, h⟩
                 obtain ⟨t', nx', hq, rfl⟩ := h.resolve_right (by rintro ⟨_, _, _, _, _, h, _⟩; cases h)
                 obtain ⟨rfl, rfl⟩ := Prod.mk.inj (Rd.ok.inj hq)
                 have ho4 := Lib.hid (row_under hb4 ho.out)
                 have hb4s := hb4.size
                 dsimp only [Tok.val]
                 clear h hq)
              | (at_builtin; refine wpList_append_own _ rfl _ _ 143 rfl w.heap.size 147 i0 _ 3 32 Tryz.underlying143 hi hz0 hz1 hz2 rfl (by decide) _ _ _ rfl ((ho4.out.alloc _).alloc _) ⟨w4.heap.size + 1, 0, none⟩ 1 1 (Tok.cells ⟨tk, tt, ta⟩) rfl rfl (by simpa using Tok.news ⟨tk, tt, ta⟩ (w4.alloc _)) (Tok.oneCells _) (by unfold maxLen; omega) (by omega) (by simp; omega) ?_; intro v1 w1 ho1 hg1 _))
            have hb4' : Below w.heap.size w w4 := hb.trans (hb4.mono hbs)
            have hb1 : Below w.heap.size w w1 := grown_below ((hb4'.alloc hb4'.size _).alloc (by have := hb4'.size; simp; omega) _) ((ho4.out.alloc _).alloc _) (by have := hb4'.size; simp; omega) hg1
            go_wp2_with fail
            go_roundw
            case rel =>
              refine ⟨nx, ts ++ [⟨tk, tt, ta⟩], rfl, by omega, by simp; omega, Lib.hid ?_, Lib.hid (by rw [tokCells_append, tokCells_one]; simpa using ho1), Lib.hid (.inl ⟨by omega, HFI.out⟩), hb1⟩
              intro t ht
              rcases List.mem_append.1 ht with h | h
              · exact hts.out t h
              · obtain rfl := List.mem_singleton.1 h
                dsimp only
                omega
            case measure => simp [intOf]; omega
end Go.Proofs.YtjpmghgmmeemkaaGreatDoor

namespace Go.Proofs.YtjpmghgmmeemkaaGreatDoor
open Go.RowKit

/-- Is the first token of that kind, and the whole text? -/
def firstIs (k : Int) (l : List UInt8) : Rd (List Tok) → Bool
  | .ok (t :: _) => t.kind == k && t.text == l
  | _ => false
/-- Is a text one token's, of that kind, and the whole of it? -/
def numOf (k : Int) (l : List UInt8) : Bool := firstIs k l (scanT l)

set_option maxRecDepth 100000 in
set_option maxHeartbeats 2000000 in
theorem ints_l (l : List UInt8) (w : World) (hgl : Gl w) (hl : l.length ≤ 140737488351232) : Calls Tryz.prog 64 #[.string ⟨⟨l⟩⟩] w fun e w' => e = .returned (.bool (numOf 4 l)) ∧ Below w.heap.size w w' := by
  have hsc := Scan_any l w hgl hl
  obtain ⟨R, HR⟩ : ∃ R, Hid (scanT l = R) := ⟨_, rfl⟩
  obtain ⟨b, HB⟩ : ∃ b, Hid (numOf 4 l = b) := ⟨_, rfl⟩
  rw [HB.out]
  rw [HR.out] at hsc
  have hfin : firstIs 4 l R = b := by rw [← HB.out, numOf, HR.out]
  have HSC := Lib.hid hsc
  clear hsc hgl
  cases R with
  | bad ec ea =>
    obtain rfl : false = b := hfin
    go_enter Tryz.func64, Tryz.ntmps64
    go_wp2_with (
      go_at_call 88; refine HSC.out.mono ?_
      rintro e w4 ⟨hb4, h⟩
      obtain ⟨_, _, eb, _, rfl, _, _⟩ := h.resolve_left (by rintro ⟨_, _, h, _⟩; cases h)
      clear h)
    go_ret
    exact ⟨rfl, hb4⟩
  | ok ts =>
    cases ts with
    | nil =>
      obtain rfl : false = b := hfin
      go_enter Tryz.func64, Tryz.ntmps64
      go_wp2_with (
        go_at_call 88; refine HSC.out.mono ?_
        rintro e w4 ⟨hb4, h⟩
        obtain ⟨ts', v, hq, rfl, ho⟩ := h.resolve_right (by rintro ⟨_, _, _, h, _⟩; cases h)
        obtain rfl := Rd.ok.inj hq
        obtain ⟨A, cap, rfl, _, _⟩ := row_form ho
        simp only [List.length_nil]
        clear h hq ho)
      go_ret
      exact ⟨rfl, hb4⟩
    | cons t tr =>
      obtain ⟨k, x, a⟩ := t
      have HF : Hid ((k == 4 && x == l) = b) := hfin
      clear hfin
      by_cases hk : k = 4
      · subst hk
        go_enter Tryz.func64, Tryz.ntmps64
        go_wp2_with (
          go_at_call 88; refine HSC.out.mono ?_
          rintro e w4 ⟨hb4, h⟩
          obtain ⟨ts', v, hq, rfl, ho⟩ := h.resolve_right (by rintro ⟨_, _, _, h, _⟩; cases h)
          obtain rfl := Rd.ok.inj hq
          obtain ⟨A, cap, rfl, hc1, hc2⟩ := row_form ho
          obtain ⟨b', rfl, _, _⟩ := row_some ho (by simp)
          have e0 : w4.cell? ⟨b', 0, none⟩ = some (.int .i64 4) := ho.cells (g := b') rfl 0 _ rfl
          have e1 : w4.cell? ⟨b', 1, none⟩ = some (.string ⟨⟨x⟩⟩) := ho.cells (g := b') rfl 1 _ rfl
          simp only [List.length_cons] at hc1 ⊢
          clear h hq ho)
        go_ret
        exact ⟨ret_bool (by rw [← HF.out]; simp), hb4⟩
      · have hk' : (k == 4) = false := by simpa using hk
        obtain rfl : false = b := by rw [← HF.out, hk']; rfl
        clear HF hk
        go_enter Tryz.func64, Tryz.ntmps64
        go_wp2_with (
          go_at_call 88; refine HSC.out.mono ?_
          rintro e w4 ⟨hb4, h⟩
          obtain ⟨ts', v, hq, rfl, ho⟩ := h.resolve_right (by rintro ⟨_, _, _, h, _⟩; cases h)
          obtain rfl := Rd.ok.inj hq
          obtain ⟨A, cap, rfl, hc1, hc2⟩ := row_form ho
          obtain ⟨b', rfl, _, _⟩ := row_some ho (by simp)
          have e0 : w4.cell? ⟨b', 0, none⟩ = some (.int .i64 k) := ho.cells (g := b') rfl 0 _ rfl
          simp only [List.length_cons] at hc1 ⊢
          clear h hq ho)
        go_ret
        exact ⟨rfl, hb4⟩

set_option maxRecDepth 100000 in
set_option maxHeartbeats 2000000 in
theorem floats_l (l : List UInt8) (w : World) (hgl : Gl w) (hl : l.length ≤ 140737488351232) : Calls Tryz.prog 65 #[.string ⟨⟨l⟩⟩] w fun e w' => e = .returned (.bool (numOf 5 l)) ∧ Below w.heap.size w w' := by
  have hsc := Scan_any l w hgl hl
  obtain ⟨R, HR⟩ : ∃ R, Hid (scanT l = R) := ⟨_, rfl⟩
  obtain ⟨b, HB⟩ : ∃ b, Hid (numOf 5 l = b) := ⟨_, rfl⟩
  rw [HB.out]
  rw [HR.out] at hsc
  have hfin : firstIs 5 l R = b := by rw [← HB.out, numOf, HR.out]
  have HSC := Lib.hid hsc
  clear hsc hgl
  cases R with
  | bad ec ea =>
    obtain rfl : false = b := hfin
    go_enter Tryz.func65, Tryz.ntmps65
    go_wp2_with (
      go_at_call 88; refine HSC.out.mono ?_
      rintro e w4 ⟨hb4, h⟩
      obtain ⟨_, _, eb, _, rfl, _, _⟩ := h.resolve_left (by rintro ⟨_, _, h, _⟩; cases h)
      clear h)
    go_ret
    exact ⟨rfl, hb4⟩
  | ok ts =>
    cases ts with
    | nil =>
      obtain rfl : false = b := hfin
      go_enter Tryz.func65, Tryz.ntmps65
      go_wp2_with (
        go_at_call 88; refine HSC.out.mono ?_
        rintro e w4 ⟨hb4, h⟩
        obtain ⟨ts', v, hq, rfl, ho⟩ := h.resolve_right (by rintro ⟨_, _, _, h, _⟩; cases h)
        obtain rfl := Rd.ok.inj hq
        obtain ⟨A, cap, rfl, _, _⟩ := row_form ho
        simp only [List.length_nil]
        clear h hq ho)
      go_ret
      exact ⟨rfl, hb4⟩
    | cons t tr =>
      obtain ⟨k, x, a⟩ := t
      have HF : Hid ((k == 5 && x == l) = b) := hfin
      clear hfin
      by_cases hk : k = 5
      · subst hk
        go_enter Tryz.func65, Tryz.ntmps65
        go_wp2_with (
          go_at_call 88; refine HSC.out.mono ?_
          rintro e w4 ⟨hb4, h⟩
          obtain ⟨ts', v, hq, rfl, ho⟩ := h.resolve_right (by rintro ⟨_, _, _, h, _⟩; cases h)
          obtain rfl := Rd.ok.inj hq
          obtain ⟨A, cap, rfl, hc1, hc2⟩ := row_form ho
          obtain ⟨b', rfl, _, _⟩ := row_some ho (by simp)
          have e0 : w4.cell? ⟨b', 0, none⟩ = some (.int .i64 5) := ho.cells (g := b') rfl 0 _ rfl
          have e1 : w4.cell? ⟨b', 1, none⟩ = some (.string ⟨⟨x⟩⟩) := ho.cells (g := b') rfl 1 _ rfl
          simp only [List.length_cons] at hc1 ⊢
          clear h hq ho)
        go_ret
        exact ⟨ret_bool (by rw [← HF.out]; simp), hb4⟩
      · have hk' : (k == 5) = false := by simpa using hk
        obtain rfl : false = b := by rw [← HF.out, hk']; rfl
        clear HF hk
        go_enter Tryz.func65, Tryz.ntmps65
        go_wp2_with (
          go_at_call 88; refine HSC.out.mono ?_
          rintro e w4 ⟨hb4, h⟩
          obtain ⟨ts', v, hq, rfl, ho⟩ := h.resolve_right (by rintro ⟨_, _, _, h, _⟩; cases h)
          obtain rfl := Rd.ok.inj hq
          obtain ⟨A, cap, rfl, hc1, hc2⟩ := row_form ho
          obtain ⟨b', rfl, _, _⟩ := row_some ho (by simp)
          have e0 : w4.cell? ⟨b', 0, none⟩ = some (.int .i64 k) := ho.cells (g := b') rfl 0 _ rfl
          simp only [List.length_cons] at hc1 ⊢
          clear h hq ho)
        go_ret
        exact ⟨rfl, hb4⟩


def intB (s : ByteArray) : Bool := numOf 4 s.data.toList
def floatsB (s : ByteArray) : Bool := numOf 5 s.data.toList
/-- The numbers of a tree that lies. -/
theorem IntsAt_any (s : ByteArray) (hs : s.size ≤ 140737488351232) : IntsAt intB s := fun w hgl => ints_l s.data.toList w hgl (by simpa using hs)
theorem FloatsAt_any (s : ByteArray) (hs : s.size ≤ 140737488351232) : FloatsAt floatsB s := fun w hgl => floats_l s.data.toList w hgl (by simpa using hs)
end Go.Proofs.YtjpmghgmmeemkaaGreatDoor
