/- lex.number. -/
import Derived.Deep.DeepCutAuto
import Derived.Test.YtokhfhibdeneeaaGreatDoorMScanA
import Derived.Test.YtokhfhibdeneeaaGreatDoorScan2
namespace Go.Proofs.YtokhfhibdeneeaaGreatDoor
open Go.RowKit

theorem ba_piece (l : List UInt8) (i j : Nat) : (⟨⟨l⟩⟩ : ByteArray).extract i (i + j) = ⟨⟨(l.drop i).take j⟩⟩ := by
  apply ByteArray.ext
  simp
theorem runN_le (b : Bool) : ∀ l : List UInt8, runN b l ≤ l.length
  | [] => by simp [runN]
  | c :: r => by
    unfold runN
    split
    · have := runN_le b r
      simp only [List.length_cons]; omega
    · omega

/-- Is a digits' run followed by a point and a digit? -/
def floatB : List UInt8 → Bool
  | d :: c :: _ => d == 46 && digitB c.toNat
  | _ => false

def topL : List UInt8 := [57, 50, 50, 51, 51, 55, 50, 48, 51, 54, 56, 53, 52, 55, 55, 53, 56, 48, 55]
/-- A number's digits that are more than an int holds. -/
def overB (wh : List UInt8) : Bool := decide (19 < wh.length) || (wh.length == 19 && (!Op.bytesLess wh topL && !(wh == topL)))

/-- A number's parts: the digits ahead, what follows them, the digits behind a point. -/
def whL (s : List UInt8) : List UInt8 := s.take (runN false s)
def restL (s : List UInt8) : List UInt8 := s.drop (runN false s)
def partL (s : List UInt8) : List UInt8 := if floatB (restL s) then ((restL s).drop 1).take (runN false ((restL s).drop 1)) else []
def numN (s : List UInt8) : Nat := runN false s + (if floatB (restL s) then 1 + (partL s).length else 0)
/-- Is a number wrong? -/
def numBad (s : List UInt8) : Bool := (!floatB (restL s) && overB (whL s)) || decide (0 < runN true (s.drop (numN s))) || (decide (1 < (whL s).length) && (whL s).head? == some 48) || (floatB (restL s) && decide (15 < (whL s).length + (partL s).length))
def numKind (s : List UInt8) : Int := if floatB (restL s) then 5 else 4

def NumPost (w : World) (p : Nat) (kind : Int) (txt : List UInt8) (bad : Bool) (e : Ending) (w' : World) : Prop := Below w.heap.size w w' ∧
  ((bad = false ∧ e = .returned (.tuple #[.agg #[.int .i64 kind, .string ⟨⟨txt⟩⟩, .int .i64 p], .int .i64 (p + txt.length : Nat), .pointer none])) ∨
   (bad = true ∧ ∃ b, e = .returned (.tuple #[.agg #[.int .i64 kind, .string ⟨⟨txt⟩⟩, .int .i64 p], .int .i64 0, .pointer (some ⟨b, 0, none⟩)]) ∧ w.heap.size ≤ b ∧ ErrAt w' b 12 p))

/-- The number's own memory: its answer, its token. -/
structure NumAt (w : World) (g : Nat) (k : Int) (t : ByteArray) (p : Nat) (W : World) : Prop where
  res : W.heap[w.heap.size]? = some (.cells #[.int .i64 0, .string ⟨#[]⟩, .int .i64 0] 46 (0, 0))
  tok : W.heap[g]? = some (.cells #[.int .i64 k, .string t, .int .i64 p] 46 (0, 0))
  low : w.heap.size < g
  lt : g < W.heap.size
  below : Below w.heap.size w W
theorem NumAt.keep {w W W' : World} {g : Nat} {k : Int} {t : ByteArray} {p : Nat} (h : NumAt w g k t p W) (hb : Below W.heap.size W W') : NumAt w g k t p W' :=
  ⟨(hb.block _ (Nat.lt_trans h.low h.lt)).trans h.res, (hb.block _ h.lt).trans h.tok, h.low, Nat.lt_of_lt_of_le h.lt hb.size, h.below.trans (hb.mono (Nat.le_of_lt (Nat.lt_trans h.low h.lt)))⟩

theorem over_no {wh : List UInt8} (h : overB wh = false) : wh.length < 19 ∨ (wh.length = 19 ∧ Op.bytesLess wh topL = true) ∨ wh = topL := by
  unfold overB at h
  simp only [Bool.or_eq_false_iff, decide_eq_false_iff_not, Bool.and_eq_false_iff, Bool.not_eq_false', beq_eq_false_iff_ne, beq_iff_eq] at h
  rcases h with ⟨h1, h2 | h2 | h2⟩
  · left; omega
  · by_cases h3 : wh.length = 19
    · exact .inr (.inl ⟨h3, h2⟩)
    · left; omega
  · exact .inr (.inr h2)


theorem NumAt.c0 {w W : World} {g : Nat} {k : Int} {t : ByteArray} {p : Nat} (h : NumAt w g k t p W) : W.cell? ⟨g, 0, none⟩ = some (.int .i64 k) := cell_of_row W _ 0 _ _ _ h.tok
theorem NumAt.c1 {w W : World} {g : Nat} {k : Int} {t : ByteArray} {p : Nat} (h : NumAt w g k t p W) : W.cell? ⟨g, 1, none⟩ = some (.string t) := cell_of_row W _ 1 _ _ _ h.tok
theorem NumAt.c2 {w W : World} {g : Nat} {k : Int} {t : ByteArray} {p : Nat} (h : NumAt w g k t p W) : W.cell? ⟨g, 2, none⟩ = some (.int .i64 p) := cell_of_row W _ 2 _ _ _ h.tok
theorem NumAt.f {w W : World} {g : Nat} {k : Int} {t : ByteArray} {p : Nat} (h : NumAt w g k t p W) (i : Nat) : W.frozen? ⟨g, i, none⟩ = false := frozen_of_row W _ i _ _ h.tok
theorem NumAt.d0 {w W : World} {g : Nat} {k : Int} {t : ByteArray} {p : Nat} (h : NumAt w g k t p W) : W.cell? ⟨w.heap.size, 0, none⟩ = some (.int .i64 0) := cell_of_row W _ 0 _ _ _ h.res
theorem NumAt.d1 {w W : World} {g : Nat} {k : Int} {t : ByteArray} {p : Nat} (h : NumAt w g k t p W) : W.cell? ⟨w.heap.size, 1, none⟩ = some (.string ⟨#[]⟩) := cell_of_row W _ 1 _ _ _ h.res
theorem NumAt.d2 {w W : World} {g : Nat} {k : Int} {t : ByteArray} {p : Nat} (h : NumAt w g k t p W) : W.cell? ⟨w.heap.size, 2, none⟩ = some (.int .i64 0) := cell_of_row W _ 2 _ _ _ h.res
theorem NumAt.e {w W : World} {g : Nat} {k : Int} {t : ByteArray} {p : Nat} (h : NumAt w g k t p W) (i : Nat) : W.frozen? ⟨w.heap.size, i, none⟩ = false := frozen_of_row W _ i _ _ h.res
theorem NumAt.kind {w W : World} {g : Nat} {k : Int} {t : ByteArray} {p : Nat} (h : NumAt w g k t p W) (k' : Int) : NumAt w g k' t p (W.setCell ⟨g, 0, none⟩ (.int .i64 k')) :=
  ⟨(heap_setCell_other _ _ _ _ (Nat.ne_of_lt h.low)).trans h.res, heap_setCell_same _ _ 0 _ _ _ h.tok, h.low, by simpa using h.lt, h.below.setCell (p := ⟨g, 0, none⟩) (Nat.le_of_lt h.low) _⟩
theorem NumAt.text {w W : World} {g : Nat} {k : Int} {t : ByteArray} {p : Nat} (h : NumAt w g k t p W) (t' : ByteArray) : NumAt w g k t' p (W.setCell ⟨g, 1, none⟩ (.string t')) :=
  ⟨(heap_setCell_other _ _ _ _ (Nat.ne_of_lt h.low)).trans h.res, heap_setCell_same _ _ 1 _ _ _ h.tok, h.low, by simpa using h.lt, h.below.setCell (p := ⟨g, 1, none⟩) (Nat.le_of_lt h.low) _⟩
/-- The answer's cells written. -/
theorem NumAt.row {w W : World} {g : Nat} {k : Int} {t : ByteArray} {p : Nat} (h : NumAt w g k t p W) (a b c : Value) : (((W.setCell ⟨w.heap.size, 0, none⟩ a).setCell ⟨w.heap.size, 1, none⟩ b).setCell ⟨w.heap.size, 2, none⟩ c).heap[w.heap.size]? = some (.cells #[a, b, c] 46 (0, 0)) :=
  heap_setCell_same _ w.heap.size 2 _ _ c (heap_setCell_same _ w.heap.size 1 _ _ b (heap_setCell_same W w.heap.size 0 _ _ a h.res))
theorem NumAt.rowBelow {w W : World} {g : Nat} {k : Int} {t : ByteArray} {p : Nat} (h : NumAt w g k t p W) (a b c : Value) : Below w.heap.size w (((W.setCell ⟨w.heap.size, 0, none⟩ a).setCell ⟨w.heap.size, 1, none⟩ b).setCell ⟨w.heap.size, 2, none⟩ c) :=
  ((h.below.setCell (p := ⟨w.heap.size, 0, none⟩) (Nat.le_refl _) _).setCell (p := ⟨w.heap.size, 1, none⟩) (Nat.le_refl _) _).setCell (p := ⟨w.heap.size, 2, none⟩) (Nat.le_refl _) _
theorem NumAt.bad {w W : World} {g : Nat} {k : Int} {t : ByteArray} {p : Nat} (h : NumAt w g k t p W) (a b c : Value) (code at_ : Int) : ErrAt (((((W.alloc (.cells #[.int .i64 code, .int .i64 at_, .string ⟨#[]⟩] 32 (0, 0))).setCell ⟨w.heap.size, 0, none⟩ a).setCell ⟨w.heap.size, 1, none⟩ b).setCell ⟨w.heap.size, 2, none⟩ c).drew) W.heap.size code at_ := by
  have hne : W.heap.size ≠ w.heap.size := by have := h.lt; have := h.low; omega
  exact (heap_setCell_other _ ⟨w.heap.size, 2, none⟩ _ _ hne).trans ((heap_setCell_other _ ⟨w.heap.size, 1, none⟩ _ _ hne).trans ((heap_setCell_other _ ⟨w.heap.size, 0, none⟩ _ _ hne).trans (heap_alloc_new _ _)))
theorem NumAt.alloc {w W : World} {g : Nat} {k : Int} {t : ByteArray} {p : Nat} (h : NumAt w g k t p W) (o : Obj) : NumAt w g k t p (W.alloc o) := h.keep ((Below.refl _ W).alloc (Nat.le_refl _) o)

attribute [local go_sem] ba0 ba1

set_option maxRecDepth 100000 in
set_option maxHeartbeats 8000000 in
theorem lexNumber_any (l : List UInt8) (p : Nat) (w : World) (hp : p < l.length) (hlen : l.length ≤ 1000000000) (hn0 : 0 < runN false (l.drop p)) :
    Calls Tryz.prog 59 #[.string ⟨⟨l⟩⟩, .int .i64 p] w (NumPost w p (numKind (l.drop p)) ((l.drop p).take (numN (l.drop p))) (numBad (l.drop p))) := by
  obtain ⟨s, HS⟩ : ∃ s, Hid (l.drop p = s) := ⟨_, rfl⟩
  rw [HS.out] at hn0 ⊢
  obtain ⟨n, HN⟩ : ∃ n, Hid (runN false s = n) := ⟨_, rfl⟩
  rw [HN.out] at hn0
  have hsl : s.length = l.length - p := by rw [← HS.out, List.length_drop]
  have hnl : n ≤ s.length := by rw [← HN.out]; exact runN_le false s
  have x1 := ba_drop l p
  rw [HS.out] at x1
  have x2 := ba_piece l p n
  rw [HS.out] at x2
  have x3 := ba_drop l (p + n)
  rw [← List.drop_drop, HS.out] at x3
  have hR1 := fun W => run_any ⟨⟨s⟩⟩ false W
  simp only [HN.out] at hR1
  have HR1 := Lib.hid hR1
  have hwl : (s.take n).length = n := by rw [List.length_take]; omega
  have hrl : (s.drop n).length = l.length - (p + n) := by rw [List.length_drop]; omega
  obtain ⟨wh, HW⟩ : ∃ wh, Hid (whL s = wh) := ⟨_, rfl⟩
  have hw1 : s.take n = wh := by rw [← HW.out, whL, HN.out]
  rw [hw1] at x2 hwl
  obtain ⟨rest, HRE⟩ : ∃ rest, Hid (restL s = rest) := ⟨_, rfl⟩
  have hr1 : s.drop n = rest := by rw [← HRE.out, restL, HN.out]
  rw [hr1] at x3 hrl
  obtain ⟨part, HP⟩ : ∃ part, Hid (partL s = part) := ⟨_, rfl⟩
  obtain ⟨m, HM⟩ : ∃ m, Hid (numN s = m) := ⟨_, rfl⟩
  obtain ⟨k, HK⟩ : ∃ k, Hid (numKind s = k) := ⟨_, rfl⟩
  obtain ⟨bad, HB⟩ : ∃ bad, Hid (numBad s = bad) := ⟨_, rfl⟩
  obtain ⟨fl, HF⟩ : ∃ fl, Hid (floatB rest = fl) := ⟨_, rfl⟩
  rw [HM.out, HK.out, HB.out]
  obtain ⟨txt, HX⟩ : ∃ txt, Hid (s.take m = txt) := ⟨_, rfl⟩
  rw [HX.out]
  obtain ⟨c0, cr, rfl⟩ : ∃ c0 cr, wh = c0 :: cr := by cases wh with | nil => simp at hwl; omega | cons a b => exact ⟨a, b, rfl⟩
  have hcl : cr.length + 1 = n := by simpa using hwl
  subst hcl
  have HRL := Lib.hid hrl
  have HSL := Lib.hid hsl
  clear hwl hR1 hw1 hr1 hrl
  rw [HSL.out] at hnl
  clear hsl
  go_enter Tryz.func59, Tryz.ntmps59
  go_upto_region 5 with (first
    | (go_at_call 61; (with_reducible refine (HR1.out _).mono ?_); rintro e w1 ⟨rfl, hb1⟩))
  have hN0 : NumAt w w1.heap.size 4 ⟨#[]⟩ p (w1.alloc (.cells #[.int .i64 4, .string ⟨#[]⟩, .int .i64 p] 46 (0, 0))) := by
    have hs := hb1.size
    simp at hs
    refine ⟨(heap_alloc_old _ _ (by omega)).trans ((hb1.block _ (by simp)).trans (heap_alloc_new _ _)), heap_alloc_new _ _, by omega, by simp, ?_⟩
    exact (((Below.refl w.heap.size w).alloc (Nat.le_refl _) _).trans (hb1.mono (by simp))).alloc (by omega) _
  have HN0 := Lib.hid hN0
  clear hN0 hb1
  simp only [x2, x3]
  go_cut [43] (fun t wx => t = .bool fl ∧ wx = w1.alloc (.cells #[.int .i64 4, .string ⟨#[]⟩, .int .i64 p] 46 (0, 0)))
  case first =>
    match rest, HF with
    | [], HF =>
      obtain rfl : false = fl := HF.out
      go_wp2_with fail
      go_meet
      exact ⟨rfl, rfl⟩
    | [d], HF =>
      obtain rfl : false = fl := HF.out
      go_wp2_with fail
      go_meet
      exact ⟨rfl, rfl⟩
    | d :: c :: r, HF =>
      by_cases hd : d = 46
      · subst hd
        have hc : wrap32 (c.toNat : Int) = c.toNat := by have := c.toNat_lt; unfold wrap32; omega
        obtain rfl : digitB c.toNat = fl := HF.out
        go_wp2_with (go_at_call 58; (with_reducible refine (digit_any _ _).mono ?_); rintro e w2 ⟨rfl, rfl⟩)
        go_meet
        exact ⟨rfl, rfl⟩
      · have hd' : ((d.toNat : Int) == 46) = false := u8_ne hd
        obtain rfl : false = fl := by rw [← HF.out]; simp [floatB, hd]
        go_wp2_with fail
        go_meet
        exact ⟨rfl, rfl⟩
  case rest =>
  obtain ⟨rfl, rfl⟩ := hcut
  clear hp
  obtain ⟨rs, HRS⟩ : ∃ rs, Hid (s.drop m = rs) := ⟨_, rfl⟩
  have hR3 := fun W => run_any ⟨⟨rs⟩⟩ true W
  obtain ⟨q, HQ⟩ : ∃ q, Hid (runN true rs = q) := ⟨_, rfl⟩
  have e0 : (⟨⟨rs⟩⟩ : ByteArray).data.toList = rs := rfl
  simp only [HQ.out] at hR3
  have HR3 := Lib.hid hR3
  clear hR3 e0
  have hPT : fl = true → part = (rest.drop 1).take (runN false (rest.drop 1)) := fun h => by rw [← HP.out, partL, HRE.out, HF.out, h]; rfl
  have hPF : fl = false → part = [] := fun h => by rw [← HP.out, partL, HRE.out, HF.out, h]; rfl
  have hMT : fl = true → m = cr.length + 1 + (1 + part.length) := fun h => by rw [← HM.out, numN, HRE.out, HF.out, HN.out, HP.out, h]; rfl
  have hMF : fl = false → m = cr.length + 1 := fun h => by rw [← HM.out, numN, HRE.out, HF.out, HN.out, h]; rfl
  have hKT : fl = true → k = 5 := fun h => by rw [← HK.out, numKind, HRE.out, HF.out, h]; rfl
  have hKF : fl = false → k = 4 := fun h => by rw [← HK.out, numKind, HRE.out, HF.out, h]; rfl
  have hPL : fl = true → part.length + 1 ≤ rest.length := fun h => by
    rw [hPT h, List.length_take]
    have h1 := runN_le false (rest.drop 1)
    rw [List.length_drop] at h1
    have h2 : 2 ≤ rest.length := by
      have h3 := HF.out
      rw [h] at h3
      match rest, h3 with
      | [], h3 => simp [floatB] at h3
      | [_], h3 => simp [floatB] at h3
      | _ :: _ :: _, _ => simp
    rw [List.length_drop]
    omega
  have HPT := Lib.hid hPT
  have HPF := Lib.hid hPF
  have HMT := Lib.hid hMT
  have HMF := Lib.hid hMF
  have HKT := Lib.hid hKT
  have HKF := Lib.hid hKF
  have HPL := Lib.hid hPL
  clear hPT hPF hMT hMF hKT hKF hPL
  go_upto_if 43 with fail
  go_cut [7, 10] (fun n pt wx => n = .int .i64 m ∧ pt = .string ⟨⟨part⟩⟩ ∧ NumAt w w1.heap.size k ⟨#[]⟩ p wx)
  case first =>
    cases fl with
    | true =>
      obtain rfl := HKT.out rfl
      have hpt := HPT.out rfl
      have hpl := HPL.out rfl
      have y1 := ba_drop rest 1
      have y2 := ba_piece rest 1 part.length
      have hz : runN false (rest.drop 1) = part.length := by
        have h1 := runN_le false (rest.drop 1)
        have h2 := congrArg List.length hpt
        rw [List.length_take] at h2
        omega
      rw [← hz, ← hpt, hz] at y2
      have hR2 := fun W => run_any ⟨⟨rest.drop 1⟩⟩ false W
      simp only [hz] at hR2
      obtain ⟨rt, hrt⟩ : ∃ rt, rest.drop 1 = rt := ⟨_, rfl⟩
      rw [hrt] at y1 hR2
      have HR2 := Lib.hid hR2
      have hrl : rest.length ≤ 1000000000 := by have := HRL.out; omega
      clear hR2 hz hpt hrt
      have hmt := Lib.hid (HMT.out rfl)
      go_wp2_with (first
        | (go_at_call 61; (with_reducible refine (HR2.out _).mono ?_); rintro e w2 ⟨rfl, hb2⟩
           have hN2 := HN0.out.keep hb2
           have c0 := hN2.c0
           have f0 := hN2.f 0
           have HN2 := Lib.hid hN2
           clear hN2 hb2))
      go_meet
      exact ⟨by rw [hmt.out]; simp, congrArg Value.string y2, HN2.out.kind 5⟩
    | false =>
      obtain rfl := HPF.out rfl
      obtain rfl := HMF.out rfl
      obtain rfl := HKF.out rfl
      go_wp2_with fail
      go_meet
      exact ⟨by simp, rfl, HN0.out⟩
  case rest =>
  obtain ⟨rfl, rfl, hN1⟩ := hcut
  have hml : p + m ≤ l.length := by
    cases fl with
    | true => have h1 := HMT.out rfl; have h2 := HPL.out rfl; have h3 := HRL.out; omega
    | false => have h1 := HMF.out rfl; omega
  have z1 := ba_piece l p m
  rw [HS.out] at z1
  have z2 := ba_drop l (p + m)
  rw [← List.drop_drop, HS.out, HRS.out] at z2
  have htl : txt.length = m := by rw [← HX.out, List.length_take]; have := HSL.out; omega
  rw [HX.out] at z1
  have c0' := hN1.c0
  have c1' := hN1.c1
  have f1' := hN1.f 1
  have HN1 := Lib.hid hN1
  have HTL := Lib.hid htl
  clear hN1 htl x1 x2 x3
  go_upto_region 9 with fail
  go_cut [] (fun wx => NumAt w w1.heap.size k ⟨⟨txt⟩⟩ p wx)
  case first =>
    go_wp2_with fail
    rw [z1]
    go_meet
    exact HN1.out.text _
  case rest =>
  have c2' := hcut.c0
  have HN2 := Lib.hid hcut
  clear hcut HN1 c0' c1' f1'
  obtain ⟨ov, HOV⟩ : ∃ ov, Hid ((!fl && overB (c0 :: cr)) = ov) := ⟨_, rfl⟩
  go_upto_region 10 with fail
  go_cut [12] (fun o wx => o = .bool ov ∧ NumAt w w1.heap.size k ⟨⟨txt⟩⟩ p wx)
  case first =>
    cases fl with
    | true =>
      obtain rfl := HKT.out rfl
      obtain rfl := HOV.out
      go_wp2_with fail
      go_meet
      exact ⟨rfl, HN2.out⟩
    | false =>
      obtain rfl := HKF.out rfl
      by_cases h1 : 19 < cr.length + 1
      · obtain rfl : true = ov := by rw [← HOV.out]; simp [overB, h1]
        go_wp2_with fail
        go_meet
        exact ⟨rfl, HN2.out⟩
      · by_cases h2 : cr.length + 1 = 19
        · obtain rfl : (!(Op.bytesLess (c0 :: cr) topL || (c0 :: cr) == topL)) = ov := by rw [← HOV.out]; simp [overB, h2]
          go_wp2_with fail
          go_meet
          exact ⟨congrArg Value.bool (by simp [topL]), HN2.out⟩
        · have h3 : ¬ cr.length = 18 := by omega
          obtain rfl : false = ov := by rw [← HOV.out]; simp [overB, h1, h3]
          clear h3
          have h2' : ((cr.length : Int) + 1 == 19) = false := by simp; omega
          clear h2
          go_wp2_with fail
          go_meet
          exact ⟨congrArg Value.bool (decide_eq_false (by omega)), HN2.out⟩
  case rest =>
  obtain ⟨rfl, hN3⟩ := hcut
  have hbad : (ov || decide (0 < q) || (decide (1 < cr.length + 1) && (c0 == 48)) || (fl && decide (15 < cr.length + 1 + part.length))) = bad := by
    rw [← HB.out, numBad, HRE.out, HF.out, HW.out, HOV.out, HM.out, HRS.out, HQ.out, HP.out]
    simp
  have HBAD := Lib.hid hbad
  have c3' := hN3.c0
  have HN3 := Lib.hid hN3
  clear hbad hN3 c2' HN2
  go_upto_region 11 with fail
  go_cut [112] (fun t wx => t = .bool bad ∧ NumAt w w1.heap.size k ⟨⟨txt⟩⟩ p wx)
  case first =>
    cases ov with
    | true =>
      obtain rfl : true = bad := by rw [← HBAD.out]; simp
      go_wp2_with fail
      go_meet
      exact ⟨rfl, HN3.out⟩
    | false =>
      by_cases hq : 0 < q
      · obtain rfl : true = bad := by rw [← HBAD.out]; simp [hq]
        go_wp2_with (first
          | (go_at_call 61; (with_reducible refine (HR3.out _).mono ?_); rintro e w2 ⟨rfl, hb2⟩
             have HN4 := Lib.hid (HN3.out.keep hb2); clear hb2))
        go_meet
        exact ⟨rfl, HN4.out⟩
      obtain rfl : q = 0 := by omega
      clear hq
      by_cases h1 : 1 < cr.length + 1
      · by_cases h2 : c0 = 48
        · subst h2
          obtain rfl : true = bad := by rw [← HBAD.out]; simp; omega
          go_wp2_with (first
            | (go_at_call 61; (with_reducible refine (HR3.out _).mono ?_); rintro e w2 ⟨rfl, hb2⟩
               have hN4 := HN3.out.keep hb2
               have c4' := hN4.c0
               have HN4 := Lib.hid hN4
               clear hN4 hb2))
          go_meet
          exact ⟨rfl, HN4.out⟩
        · have h2' : ((c0.toNat : Int) == 48) = false := u8_ne h2
          cases fl with
          | true =>
            obtain rfl := HKT.out rfl
            have hpb : part.length ≤ 1000000000 := by have h8 := HPL.out rfl; have h9 := HRL.out; omega
            by_cases h5 : 15 < cr.length + 1 + part.length
            · obtain rfl : true = bad := by rw [← HBAD.out]; simp [h5]
              go_wp2_with (first
            | (go_at_call 61; (with_reducible refine (HR3.out _).mono ?_); rintro e w2 ⟨rfl, hb2⟩
               have hN4 := HN3.out.keep hb2
               have c4' := hN4.c0
               have HN4 := Lib.hid hN4
               clear hN4 hb2))
              go_meet
              exact ⟨congrArg Value.bool (decide_eq_true (by omega)), HN4.out⟩
            · obtain rfl : false = bad := by rw [← HBAD.out]; simp [h5, h2]
              go_wp2_with (first
            | (go_at_call 61; (with_reducible refine (HR3.out _).mono ?_); rintro e w2 ⟨rfl, hb2⟩
               have hN4 := HN3.out.keep hb2
               have c4' := hN4.c0
               have HN4 := Lib.hid hN4
               clear hN4 hb2))
              go_meet
              exact ⟨congrArg Value.bool (decide_eq_false (by omega)), HN4.out⟩
          | false =>
            obtain rfl := HKF.out rfl
            obtain rfl : false = bad := by rw [← HBAD.out]; simp [h2]
            go_wp2_with (first
            | (go_at_call 61; (with_reducible refine (HR3.out _).mono ?_); rintro e w2 ⟨rfl, hb2⟩
               have hN4 := HN3.out.keep hb2
               have c4' := hN4.c0
               have HN4 := Lib.hid hN4
               clear hN4 hb2))
            go_meet
            exact ⟨rfl, HN4.out⟩
      · have h1' : ¬ 0 < cr.length := by omega
        cases fl with
        | true =>
          obtain rfl := HKT.out rfl
          have hpb : part.length ≤ 1000000000 := by have h8 := HPL.out rfl; have h9 := HRL.out; omega
          by_cases h5 : 15 < cr.length + 1 + part.length
          · obtain rfl : true = bad := by rw [← HBAD.out]; simp [h5]
            go_wp2_with (first
            | (go_at_call 61; (with_reducible refine (HR3.out _).mono ?_); rintro e w2 ⟨rfl, hb2⟩
               have hN4 := HN3.out.keep hb2
               have c4' := hN4.c0
               have HN4 := Lib.hid hN4
               clear hN4 hb2))
            go_meet
            exact ⟨congrArg Value.bool (decide_eq_true (by omega)), HN4.out⟩
          · obtain rfl : false = bad := by rw [← HBAD.out]; simp [h5, h1']
            go_wp2_with (first
            | (go_at_call 61; (with_reducible refine (HR3.out _).mono ?_); rintro e w2 ⟨rfl, hb2⟩
               have hN4 := HN3.out.keep hb2
               have c4' := hN4.c0
               have HN4 := Lib.hid hN4
               clear hN4 hb2))
            go_meet
            exact ⟨congrArg Value.bool (decide_eq_false (by omega)), HN4.out⟩
        | false =>
          obtain rfl := HKF.out rfl
          obtain rfl : false = bad := by rw [← HBAD.out]; simp [h1']
          go_wp2_with (first
            | (go_at_call 61; (with_reducible refine (HR3.out _).mono ?_); rintro e w2 ⟨rfl, hb2⟩
               have hN4 := HN3.out.keep hb2
               have c4' := hN4.c0
               have HN4 := Lib.hid hN4
               clear hN4 hb2))
          go_meet
          exact ⟨rfl, HN4.out⟩
  case rest =>
  obtain ⟨rfl, hN5⟩ := hcut
  clear HBAD HN3 c3' HR3
  have g0 := fun o => (hN5.alloc o).d0
  have g1 := fun o => (hN5.alloc o).d1
  have g2 := fun o => (hN5.alloc o).d2
  have g3 := fun o i => (hN5.alloc o).e i
  have j0 := fun o => (hN5.alloc o).c0
  have j1 := fun o => (hN5.alloc o).c1
  have j2 := fun o => (hN5.alloc o).c2
  have k0 := hN5.c0
  have k1 := hN5.c1
  have k2 := hN5.c2
  have l0 := hN5.d0
  have l1 := hN5.d1
  have l2 := hN5.d2
  have l3 := fun i => hN5.e i
  have HN5 := Lib.hid hN5
  clear hN5
  cases bad with
  | true =>
    go_wp2_with fail
    go_region_with (go_at_call 25; refine (lexWrong_any _ _ _).mono ?_; rintro e w' ⟨rfl, rfl⟩)
    all_goals go_wp2_with fail
    all_goals
      have hlt := HN5.out.lt
      have hlo := HN5.out.low
      refine bodyPost_ret (number_result _ _ w.heap.size _ _ _ _ _ rfl rfl rfl ((HN5.out.alloc _).row _ _ _)) rfl ⟨((HN5.out.alloc _).rowBelow _ _ _).drew, .inr ⟨rfl, wc.heap.size, rfl, by omega, HN5.out.bad _ _ _ _ _⟩⟩
  | false =>
    go_wp2_with fail
    refine bodyPost_ret (number_result _ _ w.heap.size _ _ _ _ _ rfl rfl rfl (HN5.out.row _ _ _)) rfl ⟨HN5.out.rowBelow _ _ _, .inl ⟨rfl, ?_⟩⟩
    rw [HTL.out]; simp
end Go.Proofs.YtokhfhibdeneeaaGreatDoor
