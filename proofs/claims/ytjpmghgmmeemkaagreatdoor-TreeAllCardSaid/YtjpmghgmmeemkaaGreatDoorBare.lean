/- The printer over small expressions: names, and binary ones of such. -/
import Derived.Deep.RegionWith
import Derived.Test.YtjpmghgmmeemkaaGreatDoorPut
import Derived.Test.YtjpmghgmmeemkaaGreatDoorLevel
namespace Go.Proofs.YtjpmghgmmeemkaaGreatDoor
open Go.RowKit

theorem PF.of {bp : Nat} {W W' : World} (h : Below W.heap.size W W') (hlt : bp ≤ W.heap.size) : PF bp W W' :=
  ⟨h.mono hlt, fun k _o hk _ _ => (h.block k (Array.getElem?_eq_some_iff.1 hk).1).trans hk⟩
theorem PrIs.below {p : Value} {bp : Nat} {bs : List UInt8} {lg : Bool} {W W' : World} (h : PrIs p bp bs lg W) (hb : Below W.heap.size W W') : PrIs p bp bs lg W' := by
  have hlt := h.lt
  obtain ⟨v, hrow, hown⟩ := h
  refine ⟨v, (hb.block _ hlt).trans hrow, hown.1, hown.2.imp id ?_⟩
  rintro ⟨g, cap, cur, rfl, h1, hg, h2, h3, h4, h5⟩
  exact ⟨g, cap, cur, rfl, h1, (hb.block g (Array.getElem?_eq_some_iff.1 hg).1).trans hg, h2, h3, h4, h5⟩
theorem PrAt.below {bp : Nat} {bs : List UInt8} {lg : Bool} {W W' : World} (h : PrAt bp bs lg W) (hb : Below W.heap.size W W') : PrAt bp bs lg W' := h.imp (fun h => h.below hb) (fun h => h.below hb)
theorem PrAt.alloc {bp : Nat} {bs : List UInt8} {lg : Bool} {W : World} (h : PrAt bp bs lg W) (o : Obj) : PrAt bp bs lg (W.alloc o) := h.below ((Below.refl _ _).alloc (Nat.le_refl _) _)
theorem PrAt.long {bp : Nat} {bs : List UInt8} {lg : Bool} {W : World} (h : PrAt bp bs lg W) : W.cell? ⟨bp, 2, none⟩ = some (.bool lg) := by
  rcases h with ⟨v, h, _⟩ | ⟨v, h, _⟩
  · exact cell_of_row W _ 2 _ _ _ h
  · exact cell_of_row W _ 2 _ _ _ h

/-- What a call that writes leaves. -/
def WrPost (bp : Nat) (x : List UInt8 × Bool) (w : World) (e : Ending) (w' : World) : Prop := e = .returned (.tuple #[]) ∧ PrAt bp x.1 x.2 w' ∧ x.1.length ≤ 60000 ∧ PF bp w w'

theorem put1 (bp : Nat) (s : ByteArray) (bs : List UInt8) (lg : Bool) (w : World) (h : PrAt bp bs lg w) (hlen : bs.length ≤ 60000) (hs : s.size ≤ 140737488351232) :
    Calls Tryz.prog 49 #[.pointer (some ⟨bp, 0, none⟩), .slice (some ⟨w.heap.size, 0, none⟩) 1 1] (w.alloc (.cells #[.string s] 9)) (WrPost bp (putL (bs, lg) [s]) w) := by
  have hlt := h.lt
  refine (put_any bp w.heap.size 1 [s] bs lg _ (h.alloc _) hlen (by simpa using hs) (by simp) (by simp) (heap_alloc_new w _) (by omega)).mono ?_
  rintro e w' ⟨h1, h2, h3, h4⟩
  exact ⟨h1, h2, h3, ((PF.refl bp w).alloc (by omega) _).trans h4⟩
theorem put3 (bp : Nat) (s t u : ByteArray) (bs : List UInt8) (lg : Bool) (w : World) (h : PrAt bp bs lg w) (hlen : bs.length ≤ 60000) (hs : s.size ≤ 140737488351232) (ht : t.size ≤ 140737488351232) (hu : u.size ≤ 140737488351232) :
    Calls Tryz.prog 49 #[.pointer (some ⟨bp, 0, none⟩), .slice (some ⟨w.heap.size, 0, none⟩) 3 3] (w.alloc (.cells #[.string s, .string t, .string u] 9)) (WrPost bp (putL (bs, lg) [s, t, u]) w) := by
  have hlt := h.lt
  refine (put_any bp w.heap.size 3 [s, t, u] bs lg _ (h.alloc _) hlen (by simp [hs, ht, hu]) (by simp) (by simp) (heap_alloc_new w _) (by omega)).mono ?_
  rintro e w' ⟨h1, h2, h3, h4⟩
  exact ⟨h1, h2, h3, ((PF.refl bp w).alloc (by omega) _).trans h4⟩

abbrev WX := List UInt8 × Bool
def BareOk (t : Nd) (f : WX → WX) : Prop := ∀ (v : Value) (inn : Int) (bs : List UInt8) (lg : Bool) (bp : Nat) (w : World), PrAt bp bs lg w → bs.length ≤ 60000 → Lies w bp t v →
  Calls Tryz.prog 57 #[.pointer (some ⟨bp, 0, none⟩), v, .int .i64 inn, .bool false] w (WrPost bp (f (bs, lg)) w)
def exprW (need : Bool) (f : WX → WX) (x : WX) : WX := if x.2 = true then x else if need = true then putL (f (putL x [⟨#[40]⟩])) [⟨#[41]⟩] else f x
def ExprOk (t : Nd) (f : WX → WX) : Prop := ∀ (v : Value) (need : Bool) (inn : Int) (bs : List UInt8) (lg : Bool) (bp : Nat) (w : World), PrAt bp bs lg w → bs.length ≤ 60000 → Lies w bp t v →
  Calls Tryz.prog 72 #[.pointer (some ⟨bp, 0, none⟩), v, .bool need, .int .i64 inn, .bool false] w (WrPost bp (exprW need f (bs, lg)) w)

set_option maxHeartbeats 2000000 in
set_option maxRecDepth 100000 in
theorem expr_of {t : Nd} {f : WX → WX} (hf : BareOk t f) : ExprOk t f := by
  intro v need inn bs lg bp w h hlen hl
  obtain ⟨k, s, n, a, ks⟩ := t
  have hl2 := hl
  unfold Lies at hl2
  obtain ⟨A, cap, rfl, _⟩ := hl2
  obtain ⟨r, HR⟩ : ∃ r, Hid (exprW need f (bs, lg) = r) := ⟨_, rfl⟩
  rw [HR.out]
  have hlt := h.lt
  have h0 := h.alloc (.cells #[.int .i64 k, .string s, .int .i64 n, .int .i64 a, .slice A ks.length cap] 24)
  have hpf0 : PF bp w (w.alloc (.cells #[.int .i64 k, .string s, .int .i64 n, .int .i64 a, .slice A ks.length cap] 24)) := (PF.refl bp w).alloc (by omega) _
  have hl0 := hl.below hpf0.below
  have c2 := h0.long
  have HX0 := Lib.hid h0
  have HP0 := Lib.hid hpf0
  have HL0 := Lib.hid hl0
  have hrow0 := heap_alloc_new w (.cells #[.int .i64 k, .string s, .int .i64 n, .int .i64 a, .slice A ks.length cap] 24)
  have HROW := Lib.hid hrow0
  have HX := Lib.hid h
  clear h h0 hpf0 hl hl0 hrow0
  cases lg with
  | true =>
    go_enter Tryz.func72, Tryz.ntmps72
    go_wp2
    go_end0
    have hr : r = (bs, true) := by rw [← HR.out]; simp [exprW]
    subst hr
    exact ⟨rfl, HX0.out, hlen, HP0.out⟩
  | false =>
    cases need with
    | false =>
      have HC := Lib.hid (hf _ inn bs false bp _ HX0.out hlen HL0.out)
      go_enter Tryz.func72, Tryz.ntmps72
      go_wp2_with (go_at_call 57; refine HC.out.mono ?_; rintro e w1 ⟨rfl, h1, h2, h3⟩)
      go_end0
      have hr : r = f (bs, false) := by rw [← HR.out]; simp [exprW]
      subst hr
      exact ⟨rfl, h1, h2, HP0.out.trans h3⟩
    | true =>
      have HC1 := Lib.hid (put1 bp ⟨#[40]⟩ bs false _ HX0.out hlen (by decide))
      go_enter Tryz.func72, Tryz.ntmps72
      obtain ⟨x1, HY1⟩ : ∃ x, Hid (putL (bs, false) [⟨#[40]⟩] = x) := ⟨_, rfl⟩
      rw [HY1.out] at HC1
      simp only [World.size_alloc] at HC1
      go_wp2_with (first
        | (go_at_call 49; refine HC1.out.mono ?_; clear HC1; rintro e w1 ⟨rfl, h1, h2, h3⟩
           have hrow1 := h3.row HROW.out (by omega) (by decide)
           have d0 : w1.cell? ⟨w.heap.size, 0, none⟩ = some (.int .i64 k) := cell_of_row w1 _ 0 _ _ _ hrow1
           have d1 : w1.cell? ⟨w.heap.size, 1, none⟩ = some (.string s) := cell_of_row w1 _ 1 _ _ _ hrow1
           have d2 : w1.cell? ⟨w.heap.size, 2, none⟩ = some (.int .i64 n) := cell_of_row w1 _ 2 _ _ _ hrow1
           have d3 : w1.cell? ⟨w.heap.size, 3, none⟩ = some (.int .i64 a) := cell_of_row w1 _ 3 _ _ _ hrow1
           have d4 : w1.cell? ⟨w.heap.size, 4, none⟩ = some (.slice A ks.length cap) := cell_of_row w1 _ 4 _ _ _ hrow1
           have HC2 := Lib.hid (hf _ inn x1.1 x1.2 bp _ h1 h2 (HL0.out.below h3.below))
           have HPF1 := Lib.hid (HP0.out.trans h3)
           clear hrow1 h1 h2 h3)
        | (go_at_call 57; refine HC2.out.mono ?_; clear HC2; rintro e w2 ⟨rfl, h1, h2, h3⟩
           have HC3 := Lib.hid (put1 bp ⟨#[41]⟩ _ _ _ h1 h2 (by decide))
           have HPF2 := Lib.hid (HPF1.out.trans h3)
           clear h1 h2 h3)
        | (go_at_call 49; refine HC3.out.mono ?_; clear HC3; rintro e w3 ⟨rfl, h1, h2, h3⟩))
      go_end0
      have hr : r = putL (f x1) [⟨#[41]⟩] := by rw [← HR.out, ← HY1.out]; simp [exprW]
      subst hr
      exact ⟨rfl, h1, h2, HPF2.out.trans h3⟩

end Go.Proofs.YtjpmghgmmeemkaaGreatDoor
