/- The printer over small expressions: names, and binary ones of such. The printer over small expressions: bare. -/
import Derived.Deep.RegionWith
import Derived.Deep.DeepCutAuto
import Derived.Deep.Cut
import Derived.Deep.CutRange
import Derived.Test.YtjpmghgmmeemkaaGreatDoorJPut
namespace Go.Proofs.YtjpmghgmmeemkaaGreatDoor
open Go.RowKit

theorem PF.of {bp : Nat} {W W' : World} (h : Below W.heap.size W W') (hlt : bp ≤ W.heap.size) : PF bp W W' :=
  ⟨h.mono hlt, fun k _o hk _ _ => (h.block k (Array.getElem?_eq_some_iff.1 hk).1).trans hk⟩
theorem PrIs.below {p : Value} {bp : Nat} {bs : List UInt8} {lg : Bool} {W W' : World} (h : PrIs p bp bs lg W) (hb : Below W.heap.size W W') : PrIs p bp bs lg W' := by
  have hlt := h.lt
  obtain ⟨v, hrow, hown⟩ := h
  refine ⟨v, (hb.block _ hlt).trans hrow, hown.1, hown.2.imp id ?_⟩
  rintro ⟨g, cap, cur, rfl, h1, hg, h2, h3, h4, h5⟩
  exact ⟨g, cap, cur, rfl, h1, (hb.block g (Array.getElem?_eq_some_iff.1 hg).1).trans hg, h2, h3, h4, h5⟩
theorem PrAt.below {bp : Nat} {bs : List UInt8} {lg : Bool} {W W' : World} (h : PrAt bp bs lg W) (hb : Below W.heap.size W W') : PrAt bp bs lg W' := h.imp (fun h => h.below hb) (fun h => h.below hb)
theorem PrAt.alloc {bp : Nat} {bs : List UInt8} {lg : Bool} {W : World} (h : PrAt bp bs lg W) (o : Obj) : PrAt bp bs lg (W.alloc o) := h.below ((Below.refl _ _).alloc (Nat.le_refl _) _)
theorem PrAt.long {bp : Nat} {bs : List UInt8} {lg : Bool} {W : World} (h : PrAt bp bs lg W) : W.cell? ⟨bp, 2, none⟩ = some (.bool lg) := by
  rcases h with ⟨v, h, _⟩ | ⟨v, h, _⟩
  · exact cell_of_row W _ 2 _ _ _ h
  · exact cell_of_row W _ 2 _ _ _ h

/-- What a call that writes leaves. -/
def WrPost (bp : Nat) (x : List UInt8 × Bool) (w : World) (e : Ending) (w' : World) : Prop := e = .returned (.tuple #[]) ∧ PrAt bp x.1 x.2 w' ∧ x.1.length ≤ 60000 ∧ PF bp w w'

theorem put1 (bp : Nat) (s : ByteArray) (bs : List UInt8) (lg : Bool) (w : World) (h : PrAt bp bs lg w) (hlen : bs.length ≤ 60000) (hs : s.size ≤ 140737488351232) :
    Calls Tryz.prog 49 #[.pointer (some ⟨bp, 0, none⟩), .slice (some ⟨w.heap.size, 0, none⟩) 1 1] (w.alloc (.cells #[.string s] 9)) (WrPost bp (putL (bs, lg) [s]) w) := by
  have hlt := h.lt
  refine (put_any bp w.heap.size 1 [s] bs lg _ (h.alloc _) hlen (by simpa using hs) (by simp) (by simp) (heap_alloc_new w _) (by omega)).mono ?_
  rintro e w' ⟨h1, h2, h3, h4⟩
  exact ⟨h1, h2, h3, ((PF.refl bp w).alloc (by omega) _).trans h4⟩
theorem put3 (bp : Nat) (s t u : ByteArray) (bs : List UInt8) (lg : Bool) (w : World) (h : PrAt bp bs lg w) (hlen : bs.length ≤ 60000) (hs : s.size ≤ 140737488351232) (ht : t.size ≤ 140737488351232) (hu : u.size ≤ 140737488351232) :
    Calls Tryz.prog 49 #[.pointer (some ⟨bp, 0, none⟩), .slice (some ⟨w.heap.size, 0, none⟩) 3 3] (w.alloc (.cells #[.string s, .string t, .string u] 9)) (WrPost bp (putL (bs, lg) [s, t, u]) w) := by
  have hlt := h.lt
  refine (put_any bp w.heap.size 3 [s, t, u] bs lg _ (h.alloc _) hlen (by simp [hs, ht, hu]) (by simp) (by simp) (heap_alloc_new w _) (by omega)).mono ?_
  rintro e w' ⟨h1, h2, h3, h4⟩
  exact ⟨h1, h2, h3, ((PF.refl bp w).alloc (by omega) _).trans h4⟩

abbrev WX := List UInt8 × Bool
def BareOk (t : Nd) (f : WX → WX) : Prop := ∀ (v : Value) (inn : Int) (bs : List UInt8) (lg : Bool) (bp : Nat) (w : World), PrAt bp bs lg w → bs.length ≤ 60000 → Lies w bp t v →
  Calls Tryz.prog 57 #[.pointer (some ⟨bp, 0, none⟩), v, .int .i64 inn, .bool false] w (WrPost bp (f (bs, lg)) w)
def exprW (need : Bool) (f : WX → WX) (x : WX) : WX := if x.2 = true then x else if need = true then putL (f (putL x [⟨#[40]⟩])) [⟨#[41]⟩] else f x
def ExprOk (t : Nd) (f : WX → WX) : Prop := ∀ (v : Value) (need : Bool) (inn : Int) (bs : List UInt8) (lg : Bool) (bp : Nat) (w : World), PrAt bp bs lg w → bs.length ≤ 60000 → Lies w bp t v →
  Calls Tryz.prog 72 #[.pointer (some ⟨bp, 0, none⟩), v, .bool need, .int .i64 inn, .bool false] w (WrPost bp (exprW need f (bs, lg)) w)

set_option maxHeartbeats 2000000 in
set_option maxRecDepth 100000 in
theorem expr_of {t : Nd} {f : WX → WX} (hf : BareOk t f) : ExprOk t f := by
  intro v need inn bs lg bp w h hlen hl
  obtain ⟨k, s, n, a, ks⟩ := t
  have hl2 := hl
  unfold Lies at hl2
  obtain ⟨A, cap, rfl, _⟩ := hl2
  obtain ⟨r, HR⟩ : ∃ r, Hid (exprW need f (bs, lg) = r) := ⟨_, rfl⟩
  rw [HR.out]
  have hlt := h.lt
  have h0 := h.alloc (.cells #[.int .i64 k, .string s, .int .i64 n, .int .i64 a, .slice A ks.length cap] 24)
  have hpf0 : PF bp w (w.alloc (.cells #[.int .i64 k, .string s, .int .i64 n, .int .i64 a, .slice A ks.length cap] 24)) := (PF.refl bp w).alloc (by omega) _
  have hl0 := hl.below hpf0.below
  have c2 := h0.long
  have HX0 := Lib.hid h0
  have HP0 := Lib.hid hpf0
  have HL0 := Lib.hid hl0
  have hrow0 := heap_alloc_new w (.cells #[.int .i64 k, .string s, .int .i64 n, .int .i64 a, .slice A ks.length cap] 24)
  have HROW := Lib.hid hrow0
  have HX := Lib.hid h
  clear h h0 hpf0 hl hl0 hrow0
  cases lg with
  | true =>
    go_enter Tryz.func72, Tryz.ntmps72
    go_wp2
    go_end0
    have hr : r = (bs, true) := by rw [← HR.out]; simp [exprW]
    subst hr
    exact ⟨rfl, HX0.out, hlen, HP0.out⟩
  | false =>
    cases need with
    | false =>
      have HC := Lib.hid (hf _ inn bs false bp _ HX0.out hlen HL0.out)
      go_enter Tryz.func72, Tryz.ntmps72
      go_wp2_with (go_at_call 57; refine HC.out.mono ?_; rintro e w1 ⟨rfl, h1, h2, h3⟩)
      go_end0
      have hr : r = f (bs, false) := by rw [← HR.out]; simp [exprW]
      subst hr
      exact ⟨rfl, h1, h2, HP0.out.trans h3⟩
    | true =>
      have HC1 := Lib.hid (put1 bp ⟨#[40]⟩ bs false _ HX0.out hlen (by decide))
      go_enter Tryz.func72, Tryz.ntmps72
      obtain ⟨x1, HY1⟩ : ∃ x, Hid (putL (bs, false) [⟨#[40]⟩] = x) := ⟨_, rfl⟩
      rw [HY1.out] at HC1
      simp only [World.size_alloc] at HC1
      go_wp2_with (first
        | (go_at_call 49; refine HC1.out.mono ?_; clear HC1; rintro e w1 ⟨rfl, h1, h2, h3⟩
           have hrow1 := h3.row HROW.out (by omega) (by decide)
           have d0 : w1.cell? ⟨w.heap.size, 0, none⟩ = some (.int .i64 k) := cell_of_row w1 _ 0 _ _ _ hrow1
           have d1 : w1.cell? ⟨w.heap.size, 1, none⟩ = some (.string s) := cell_of_row w1 _ 1 _ _ _ hrow1
           have d2 : w1.cell? ⟨w.heap.size, 2, none⟩ = some (.int .i64 n) := cell_of_row w1 _ 2 _ _ _ hrow1
           have d3 : w1.cell? ⟨w.heap.size, 3, none⟩ = some (.int .i64 a) := cell_of_row w1 _ 3 _ _ _ hrow1
           have d4 : w1.cell? ⟨w.heap.size, 4, none⟩ = some (.slice A ks.length cap) := cell_of_row w1 _ 4 _ _ _ hrow1
           have HC2 := Lib.hid (hf _ inn x1.1 x1.2 bp _ h1 h2 (HL0.out.below h3.below))
           have HPF1 := Lib.hid (HP0.out.trans h3)
           clear hrow1 h1 h2 h3)
        | (go_at_call 57; refine HC2.out.mono ?_; clear HC2; rintro e w2 ⟨rfl, h1, h2, h3⟩
           have HC3 := Lib.hid (put1 bp ⟨#[41]⟩ _ _ _ h1 h2 (by decide))
           have HPF2 := Lib.hid (HPF1.out.trans h3)
           clear h1 h2 h3)
        | (go_at_call 49; refine HC3.out.mono ?_; clear HC3; rintro e w3 ⟨rfl, h1, h2, h3⟩))
      go_end0
      have hr : r = putL (f x1) [⟨#[41]⟩] := by rw [← HR.out, ← HY1.out]; simp [exprW]
      subst hr
      exact ⟨rfl, h1, h2, HPF2.out.trans h3⟩

end Go.Proofs.YtjpmghgmmeemkaaGreatDoor

namespace Go.Proofs.YtjpmghgmmeemkaaGreatDoor
open Go.RowKit

/-- Small expressions. -/
inductive Sx where
  | name (s : ByteArray) (n a : Int)
  | both (s : ByteArray) (n a : Int) (l r : Sx)
def Sx.nd : Sx → Nd
  | .name s n a => .mk 14 s n a []
  | .both s n a l r => .mk 51 s n a [l.nd, r.nd]
def Sx.lev : Sx → Int
  | .name _ _ _ => 7
  | .both s _ _ _ _ => opLevel s.toList
def Sx.bare : Sx → WX → WX
  | .name s _ _, x => putL x [s]
  | .both s _ _ l r, x => exprW (decide (r.lev ≤ opLevel s.toList)) r.bare (putL (exprW (decide (l.lev < opLevel s.toList)) l.bare x) [⟨#[32]⟩, s, ⟨#[32]⟩])

/-- The node of a small expression, laid in memory: its five cells. -/
theorem Sx.cells (t : Sx) {W : World} {B b o : Nat} {ts : List Nd} (i : Nat) (hi : ts[i]? = some t.nd) (h : LiesL W B ts b o) :
    ∃ (k : Int) (s : ByteArray) (n a : Int) (A : Option Addr) (len cap : Nat), levelB k s = t.lev ∧
      W.cell? ⟨b, o + i * 5, none⟩ = some (.int .i64 k) ∧ W.cell? ⟨b, o + i * 5 + 1, none⟩ = some (.string s) ∧ W.cell? ⟨b, o + i * 5 + 2, none⟩ = some (.int .i64 n) ∧
      W.cell? ⟨b, o + i * 5 + 3, none⟩ = some (.int .i64 a) ∧ W.cell? ⟨b, o + i * 5 + 4, none⟩ = some (.slice A len cap) ∧
      Lies W B t.nd (.agg #[.int .i64 k, .string s, .int .i64 n, .int .i64 a, .slice A len cap]) := by
  obtain ⟨k, s, n, a, A, cap, ks, hg, c0, c1, c2, c3, c4, hl⟩ := LiesL.get i (List.getElem?_eq_some_iff.1 hi).1 h
  rw [hi] at hg
  rw [Option.some.inj hg]
  refine ⟨k, s, n, a, A, ks.length, cap, ?_, c0, c1, c2, c3, c4, hl⟩
  cases t with
  | name s' n' a' => simp [Sx.nd] at hg; obtain ⟨rfl, rfl, _⟩ := hg; rfl
  | both s' n' a' l r => simp [Sx.nd] at hg; obtain ⟨rfl, rfl, _⟩ := hg; rfl

set_option maxHeartbeats 4000000 in
set_option maxRecDepth 100000 in
theorem bare_name (s : ByteArray) (n a : Int) : BareOk (Sx.nd (.name s n a)) (Sx.bare (.name s n a)) := by
  intro v inn bs lg bp w h hlen hl
  have hl2 := hl
  unfold Sx.nd Lies at hl2
  obtain ⟨A, cap, rfl, _, _, _, hsz, _⟩ := hl2
  have hlt := h.lt
  have h0 := h.alloc (.cells #[.int .i64 14, .string s, .int .i64 n, .int .i64 a, .slice A ([] : List Nd).length cap] 24)
  have hpf0 : PF bp w (w.alloc (.cells #[.int .i64 14, .string s, .int .i64 n, .int .i64 a, .slice A ([] : List Nd).length cap] 24)) := (PF.refl bp w).alloc (by omega) _
  have hc := put1 bp s bs lg _ h0 hlen hsz
  simp only [World.size_alloc, List.length_nil] at hc
  have HC := Lib.hid hc
  have HP := Lib.hid hpf0
  clear hc h h0 hpf0 hl
  simp only [List.length_nil]
  go_enter Tryz.func57, Tryz.ntmps57
  go_wp2_with (go_at_call 49; refine HC.out.mono ?_; clear HC; rintro e w1 ⟨rfl, h1, h2, h3⟩)
  go_end0
  exact ⟨rfl, h1, h2, HP.out.trans h3⟩

set_option maxHeartbeats 4000000 in
set_option maxRecDepth 100000 in
theorem bare_both (s : ByteArray) (n a : Int) (l r : Sx) (hl' : BareOk l.nd l.bare) (hr' : BareOk r.nd r.bare) : BareOk (Sx.nd (.both s n a l r)) (Sx.bare (.both s n a l r)) := by
  intro v inn bs lg bp w h hlen hl
  have hl2 := hl
  unfold Sx.nd Lies at hl2
  obtain ⟨A, cap, rfl, _, _, _, hsz, hcl, hcc, hkids⟩ := hl2
  obtain ⟨b, o, rfl, hlt', hkl⟩ : ∃ b o, A = some ⟨b, o, none⟩ ∧ b < bp ∧ LiesL w bp [l.nd, r.nd] b o := by
    rcases hkids with h | h
    · cases h
    · exact h
  obtain ⟨k0, s0, n0, a0, A0, len0, cap0, hv0, c00, c01, c02, c03, c04, hl0⟩ := Sx.cells l 0 rfl hkl
  obtain ⟨k1, s1, n1, a1, A1, len1, cap1, hv1, c10, c11, c12, c13, c14, hl1⟩ := Sx.cells r 1 rfl hkl
  simp only [Nat.zero_mul, Nat.one_mul, Nat.add_zero] at c00 c01 c02 c03 c04 c10 c11 c12 c13 c14
  have hlt := h.lt
  obtain ⟨x, HX⟩ : ∃ x, Hid (Sx.bare (.both s n a l r) (bs, lg) = x) := ⟨_, rfl⟩
  rw [HX.out]
  simp only [List.length_cons, List.length_nil, Nat.zero_add, Nat.reduceAdd] at hcl ⊢
  obtain ⟨lv, HLV⟩ : ∃ lv, Hid (levelB 51 s = lv) := ⟨_, rfl⟩
  obtain ⟨lv0, HLV0⟩ : ∃ lv, Hid (levelB k0 s0 = lv) := ⟨_, rfl⟩
  obtain ⟨lv1, HLV1⟩ : ∃ lv, Hid (levelB k1 s1 = lv) := ⟨_, rfl⟩
  have h0 := ((h.alloc (.cells #[.int .i64 51, .string s, .int .i64 n, .int .i64 a, .slice (some ⟨b, o, none⟩) 2 cap] 24)).alloc (.cells #[.int .i64 51, .string s, .int .i64 n, .int .i64 a, .slice (some ⟨b, o, none⟩) 2 cap] 24)).alloc (.cells #[.int .i64 k0, .string s0, .int .i64 n0, .int .i64 a0, .slice A0 len0 cap0] 24)
  have hpf0 : PF bp w (((w.alloc (.cells #[.int .i64 51, .string s, .int .i64 n, .int .i64 a, .slice (some ⟨b, o, none⟩) 2 cap] 24)).alloc (.cells #[.int .i64 51, .string s, .int .i64 n, .int .i64 a, .slice (some ⟨b, o, none⟩) 2 cap] 24)).alloc (.cells #[.int .i64 k0, .string s0, .int .i64 n0, .int .i64 a0, .slice A0 len0 cap0] 24)).drew := ((((PF.refl bp w).alloc (by omega) _).alloc (by simp; omega) _).alloc (by simp; omega) _).drew
  have e2 : ∀ O1 O2 j, ((w.alloc O1).alloc O2).cell? ⟨b, j, none⟩ = w.cell? ⟨b, j, none⟩ := fun O1 O2 j => (((PF.refl bp w).alloc (by omega) O1).alloc (by simp; omega) O2).below.cell (p := ⟨b, j, none⟩) hlt'
  have e3 : ∀ O1 O2 O3 j, (((w.alloc O1).alloc O2).alloc O3).cell? ⟨b, j, none⟩ = w.cell? ⟨b, j, none⟩ := fun O1 O2 O3 j => ((((PF.refl bp w).alloc (by omega) O1).alloc (by simp; omega) O2).alloc (by simp; omega) O3).below.cell (p := ⟨b, j, none⟩) hlt'
  have hrow0 : (((w.alloc (.cells #[.int .i64 51, .string s, .int .i64 n, .int .i64 a, .slice (some ⟨b, o, none⟩) 2 cap] 24)).alloc (.cells #[.int .i64 51, .string s, .int .i64 n, .int .i64 a, .slice (some ⟨b, o, none⟩) 2 cap] 24)).alloc (.cells #[.int .i64 k0, .string s0, .int .i64 n0, .int .i64 a0, .slice A0 len0 cap0] 24)).drew.heap[w.heap.size]? = some (.cells #[.int .i64 51, .string s, .int .i64 n, .int .i64 a, .slice (some ⟨b, o, none⟩) 2 cap] 24) := by
    show (((w.alloc (.cells #[.int .i64 51, .string s, .int .i64 n, .int .i64 a, .slice (some ⟨b, o, none⟩) 2 cap] 24)).alloc (.cells #[.int .i64 51, .string s, .int .i64 n, .int .i64 a, .slice (some ⟨b, o, none⟩) 2 cap] 24)).alloc (.cells #[.int .i64 k0, .string s0, .int .i64 n0, .int .i64 a0, .slice A0 len0 cap0] 24)).heap[w.heap.size]? = some (.cells #[.int .i64 51, .string s, .int .i64 n, .int .i64 a, .slice (some ⟨b, o, none⟩) 2 cap] 24)
    rw [heap_alloc_old _ _ (by simp; omega), heap_alloc_old _ _ (by simp)]
    exact heap_alloc_new w _
  have HROW := Lib.hid hrow0
  have HPF := Lib.hid hpf0
  have HE0 := Lib.hid (fun need => expr_of hl' _ need inn bs lg bp (((w.alloc (.cells #[.int .i64 51, .string s, .int .i64 n, .int .i64 a, .slice (some ⟨b, o, none⟩) 2 cap] 24)).alloc (.cells #[.int .i64 51, .string s, .int .i64 n, .int .i64 a, .slice (some ⟨b, o, none⟩) 2 cap] 24)).alloc (.cells #[.int .i64 k0, .string s0, .int .i64 n0, .int .i64 a0, .slice A0 len0 cap0] 24)).drew h0 hlen (hl0.below hpf0.below))
  have HL1 := Lib.hid hl1
  have HX0 := Lib.hid hkl
  have HRE := Lib.hid (expr_of hr')
  clear h0 hpf0 hrow0 hl hl0 hl1 hkl hkids h hl' hr'
  go_enter Tryz.func57, Tryz.ntmps57
  go_wp2_with (go_at_call 84; refine (level_any _ _ _ _ _ _ _ _).mono ?_; rintro e w' ⟨rfl, rfl⟩)
  obtain ⟨y, HY⟩ : ∃ y, Hid (exprW (decide (l.lev < levelB 51 s)) l.bare (bs, lg) = y) := ⟨_, rfl⟩
  go_cut [9] (fun s9 wx => s9 = .int .i64 (levelB 51 s) ∧ PrAt bp y.1 y.2 wx ∧ y.1.length ≤ 60000 ∧ PF bp w wx ∧ wx.heap[w.heap.size]? = some (.cells #[.int .i64 51, .string s, .int .i64 n, .int .i64 a, .slice (some ⟨b, o, none⟩) 2 cap] 24))
  case first =>
    go_region_with (first
      | (go_at_call 84; refine (level_any _ _ _ _ _ _ _ _).mono ?_; rintro e w' ⟨rfl, rfl⟩)
      | (go_at_call 72; refine (HE0.out _).mono ?_; clear HE0; rintro e w1 ⟨rfl, h1, h2, h3⟩))
    all_goals (try go_wp2_with fail)
    all_goals go_meet
    all_goals
      rw [HY.out] at h1 h2
      exact ⟨rfl, h1, h2, HPF.out.trans h3, h3.row HROW.out (by omega) (by decide)⟩
  case rest =>
    obtain ⟨rfl, h1, h2, h3, hrow⟩ := hcut
    clear HE0 HROW HPF e2 e3
    have g0 : wc.cell? ⟨w.heap.size, 0, none⟩ = some (.int .i64 51) := cell_of_row wc _ 0 _ _ _ hrow
    have g1 : wc.cell? ⟨w.heap.size, 1, none⟩ = some (.string s) := cell_of_row wc _ 1 _ _ _ hrow
    have HC := Lib.hid (put3 bp ⟨#[32]⟩ s ⟨#[32]⟩ y.1 y.2 wc h1 h2 (by decide) hsz (by decide))
    obtain ⟨z, HZ⟩ : ∃ z, Hid (putL (y.1, y.2) [⟨#[32]⟩, s, ⟨#[32]⟩] = z) := ⟨_, rfl⟩
    rw [HZ.out] at HC
    have HP := Lib.hid h3
    have HROW := Lib.hid hrow
    clear h1 h2 h3 hrow
    go_wp2_with (
      go_at_call 49; refine HC.out.mono ?_; clear HC; rintro e w2 ⟨rfl, h1, h2, h3⟩
      clear g0 g1
      have hrow := h3.row HROW.out (by omega) (by decide)
      have g4 : w2.cell? ⟨w.heap.size, 4, none⟩ = some (.slice (some ⟨b, o, none⟩) 2 cap) := cell_of_row w2 _ 4 _ _ _ hrow
      have hpf := HP.out.trans h3
      have kc : ∀ j, w2.cell? ⟨b, j, none⟩ = w.cell? ⟨b, j, none⟩ := fun j => hpf.below.cell (p := ⟨b, j, none⟩) hlt'
      have hrow' : ∀ O, (w2.alloc O).heap[w.heap.size]? = some (.cells #[.int .i64 51, .string s, .int .i64 n, .int .i64 a, .slice (some ⟨b, o, none⟩) 2 cap] 24) := fun O => (heap_alloc_old _ _ (Array.getElem?_eq_some_iff.1 hrow).1).trans hrow
      have g4' : ∀ O, (w2.alloc O).cell? ⟨w.heap.size, 4, none⟩ = some (.slice (some ⟨b, o, none⟩) 2 cap) := fun O => cell_of_row _ _ 4 _ _ _ (hrow' O)
      have hpf2 : ∀ O, PF bp w (w2.alloc O) := fun O => hpf.alloc (by have := h1.lt; omega) O
      have kc' : ∀ O j, (w2.alloc O).cell? ⟨b, j, none⟩ = w.cell? ⟨b, j, none⟩ := fun O j => (hpf2 O).below.cell (p := ⟨b, j, none⟩) hlt'
      have HE1 := Lib.hid (fun need => HRE.out _ need inn z.1 z.2 bp (w2.alloc (.cells #[.int .i64 k1, .string s1, .int .i64 n1, .int .i64 a1, .slice A1 len1 cap1] 24)).drew (h1.alloc (.cells #[.int .i64 k1, .string s1, .int .i64 n1, .int .i64 a1, .slice A1 len1 cap1] 24)) h2 (HL1.out.below (PF.drew (hpf2 (.cells #[.int .i64 k1, .string s1, .int .i64 n1, .int .i64 a1, .slice A1 len1 cap1] 24))).below))
      have HPF2 := Lib.hid (hpf2 (.cells #[.int .i64 k1, .string s1, .int .i64 n1, .int .i64 a1, .slice A1 len1 cap1] 24))
      clear hpf hpf2 hrow' h1 h2 h3 hrow)
    go_region_with (first
      | (go_at_call 84; refine (level_any _ _ _ _ _ _ _ _).mono ?_; rintro e w' ⟨rfl, rfl⟩)
      | (go_at_call 72; refine (HE1.out _).mono ?_; clear HE1; rintro e w3 ⟨rfl, h1, h2, h3⟩))
    all_goals (try go_wp2_with fail)
    all_goals go_end0
    all_goals
      have hx : x = exprW (decide (r.lev ≤ levelB 51 s)) r.bare (z.1, z.2) := by
        have hlv : levelB 51 s = opLevel s.toList := by simp [levelB]
        have e1 : (z.1, z.2) = z := rfl
        have e2 : (y.1, y.2) = y := rfl
        rw [← HX.out, Sx.bare, e1, ← HZ.out, e2, ← HY.out, hlv]
      subst hx
      exact ⟨rfl, h1, h2, HPF2.out.drew.trans h3⟩

theorem bare_ok : ∀ t : Sx, BareOk t.nd t.bare
  | .name s n a => bare_name s n a
  | .both s n a l r => bare_both s n a l r (bare_ok l) (bare_ok r)

end Go.Proofs.YtjpmghgmmeemkaaGreatDoor
