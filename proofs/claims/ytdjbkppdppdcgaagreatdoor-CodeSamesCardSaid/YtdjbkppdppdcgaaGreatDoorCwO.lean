/- code.hand. -/
import Derived.LaidEqlPtr
import Derived.Test.YtdjbkppdppdcgaaGreatDoorCwM
import Derived.Test.YtdjbkppdppdcgaaGreatDoorCwN
import Derived.Test.YtdjbkppdppdcgaaGreatDoorMScanA
namespace Go.Proofs.YtdjbkppdppdcgaaGreatDoor
open Go.RowKit

def seenV (b : Bool) : Value := .int .i64 (if b then 1 else 0)
/-- Within fits: the stacks at each instruction, what was seen, what is to do. -/
structure FtAt (w0 : World) (ab sb tb n g cap : Nat) (T : Tab) (c : Cst) (W : World) : Prop where
  below : Below w0.heap.size w0 W
  stk : Stk 108 W w0.heap.size T
  atr : ∃ vs : List Value, W.heap[ab]? = some (.cells vs.toArray 105 (0, 0)) ∧ vs.length = n + 1 ∧ ∀ j, j ≤ n → ∃ v, vs[j]? = some v ∧ StkOr T (c.at_.getD j none) v
  seen : W.heap[sb]? = some (.cells (c.seen.map seenV).toArray 3 (0, 0))
  todo : TodoAt w0.heap.size tb g cap c.todo W
  la : c.at_.length = n + 1
  ls : c.seen.length = n
  lo : w0.heap.size ≤ ab ∧ w0.heap.size ≤ sb ∧ w0.heap.size ≤ tb
  ne : ab ≠ sb ∧ ab ≠ tb ∧ ab ≠ g ∧ sb ≠ tb ∧ sb ≠ g
  nn : ∀ s, (ab, s) ∉ T ∧ (sb, s) ∉ T ∧ (tb, s) ∉ T ∧ (g, s) ∉ T
  deep : ∀ j s, c.at_.getD j none = some s → s.length ≤ 30000
section
variable {w0 W W1 W' : World} {ab sb tb n g cap : Nat} {T T' : Tab} {c : Cst}
theorem FtAt.alt (h : FtAt w0 ab sb tb n g cap T c W) : ab < W.heap.size ∧ sb < W.heap.size ∧ tb < W.heap.size ∧ g < W.heap.size := by
  obtain ⟨vs, h1, _⟩ := h.atr
  exact ⟨(Array.getElem?_eq_some_iff.1 h1).1, (Array.getElem?_eq_some_iff.1 h.seen).1, (Array.getElem?_eq_some_iff.1 h.todo.box).1, own_blk h.todo.own⟩
/-- What stands at an instruction. -/
theorem FtAt.at_ (h : FtAt w0 ab sb tb n g cap T c W) {k : Nat} (hk : k ≤ n) : ∃ v, W.cell? ⟨ab, k, none⟩ = some v ∧ StkOr T (c.at_.getD k none) v ∧ W.frozen? ⟨ab, k, none⟩ = false := by
  obtain ⟨vs, h1, h2, h3⟩ := h.atr
  obtain ⟨v, hv, hs⟩ := h3 k hk
  exact ⟨v, (cell_of_row W ab k _ _ _ h1).trans (by simpa using hv), hs, frozen_of_row W ab k _ _ h1⟩
theorem FtAt.seenAt (h : FtAt w0 ab sb tb n g cap T c W) {k : Nat} (hk : k < n) : W.cell? ⟨sb, k, none⟩ = some (seenV (c.seen.getD k false)) ∧ W.frozen? ⟨sb, k, none⟩ = false := by
  refine ⟨(cell_of_row W sb k _ _ _ h.seen).trans ?_, frozen_of_row W sb k _ _ h.seen⟩
  have : k < c.seen.length := by rw [h.ls]; exact hk
  simp [List.getD_eq_getElem?_getD, List.getElem?_eq_getElem this]
/-- A call that may add stacks, and else leaves all as it was. -/
theorem FtAt.more (h : FtAt w0 ab sb tb n g cap T c W) (hs : Stk 108 W' w0.heap.size T') (hsub : ∀ y ∈ T, y ∈ T') (hnew : ∀ y ∈ T', y ∈ T ∨ W.heap.size ≤ y.1) (hf : Foot W.heap.size (fun k => ∃ s, (k, s) ∈ T) W W') : FtAt w0 ab sb tb n g cap T' c W' := by
  obtain ⟨l1, l2, l3, l4⟩ := h.alt
  have hn : ∀ k, k < W.heap.size → (∀ s, (k, s) ∉ T) → (∀ s, (k, s) ∉ T') := fun k hk hn s hs => by
    rcases hnew _ hs with hs | hs
    · exact hn s hs
    · exact absurd hk (Nat.not_lt.2 hs)
  have hk : ∀ k, k < W.heap.size → (∀ s, (k, s) ∉ T) → W'.heap[k]? = W.heap[k]? := fun k hk hn => hf.block k hk (fun ⟨s, hs⟩ => hn s hs)
  obtain ⟨vs, h1, h2, h3⟩ := h.atr
  have hn' := h.nn
  refine ⟨h.below.trans (hf.to (C := w0.heap.size) h.below.size fun k ⟨s, hs⟩ => (h.stk.node k s hs).1), hs, ⟨vs, (hk ab l1 fun s => (hn' s).1).trans h1, h2, fun j hj => ?_⟩, (hk sb l2 fun s => (hn' s).2.1).trans h.seen, h.todo.keep (hk tb l3 fun s => (hn' s).2.2.1) (hk g l4 fun s => (hn' s).2.2.2), h.la, h.ls, h.lo, h.ne, fun s => ⟨hn ab l1 (fun s => (hn' s).1) s, hn sb l2 (fun s => (hn' s).2.1) s, hn tb l3 (fun s => (hn' s).2.2.1) s, hn g l4 (fun s => (hn' s).2.2.2) s⟩, h.deep⟩
  obtain ⟨v, hv, hs⟩ := h3 j hj
  refine ⟨v, hv, ?_⟩
  revert hs
  cases c.at_.getD j none with
  | none => exact id
  | some s => rintro ⟨b, e, hb⟩; exact ⟨b, e, hsub _ hb⟩
/-- A stack is laid where none stood, and the instruction is to do. -/
theorem FtAt.hand (h : FtAt w0 ab sb tb n g cap T c W) {k b g' cap' : Nat} {s : List UInt8} (hk : k ≤ n) (hb : (b, s) ∈ T) (hs : s.length ≤ 30000)
    (ht : TodoAt w0.heap.size tb g' cap' (pushL c.todo k) W') (hg : g' = g ∨ (W.setCell ⟨ab, k, none⟩ (.pointer (some ⟨b, 0, none⟩))).heap.size ≤ g')
    (hf : Foot (W.setCell ⟨ab, k, none⟩ (.pointer (some ⟨b, 0, none⟩))).heap.size (fun k => k = tb ∨ k = g) (W.setCell ⟨ab, k, none⟩ (.pointer (some ⟨b, 0, none⟩))) W') :
    FtAt w0 ab sb tb n g' cap' T { c with at_ := c.at_.set k (some s), todo := pushL c.todo k } W' := by
  obtain ⟨l1, l2, l3, l4⟩ := h.alt
  obtain ⟨vs, h1, h2, h3⟩ := h.atr
  have hsz : (W.setCell ⟨ab, k, none⟩ (.pointer (some ⟨b, 0, none⟩))).heap.size = W.heap.size := by simp
  rw [hsz] at hg hf
  have hfs := hf.size
  rw [hsz] at hfs
  obtain ⟨n1, n2, n3, n4, n5⟩ := h.ne
  have hn' := h.nn
  have hk2 : ∀ i, i < W.heap.size → i ≠ ab → i ≠ tb → i ≠ g → W'.heap[i]? = W.heap[i]? := fun i hi e1 e2 e3 => (hf.block i hi (by rintro (e | e); exact e2 e; exact e3 e)).trans (Below.heap_setCell W _ _ _ e1)
  have hab : W'.heap[ab]? = some (.cells (vs.set k (.pointer (some ⟨b, 0, none⟩))).toArray 105 (0, 0)) := by
    rw [hf.block ab l1 (by rintro (e | e); exact n2 e; exact n3 e), heap_setCell_same W ab k _ _ _ h1]
    simp
  have hge : w0.heap.size ≤ W.heap.size := h.below.size
  have hg2 : ∀ s, (g', s) ∉ T := fun s hs => by
    rcases hg with e | e
    · rw [e] at hs; exact (hn' s).2.2.2 hs
    · exact absurd (h.stk.node _ s hs).2.1 (Nat.not_lt.2 e)
  refine ⟨⟨hf.os.trans h.below.os, hf.tape.trans h.below.tape, hf.output.trans h.below.output, Nat.le_trans hge hfs, fun i hi => ?_⟩, h.stk.keep fun b s hb => ?_, ⟨vs.set k (.pointer (some ⟨b, 0, none⟩)), hab, by simpa using h2, fun j hj => ?_⟩, (hk2 sb l2 (Ne.symm n1) n4 n5).trans h.seen, ht, by simp only [List.length_set]; exact h.la, h.ls, h.lo, ⟨n1, n2, ?_, n4, ?_⟩, fun s => ⟨(hn' s).1, (hn' s).2.1, (hn' s).2.2.1, hg2 s⟩, fun j t => ?_⟩
  · have := h.lo
    have := h.todo.lo
    rw [hk2 i (by omega) (by omega) (by omega) (by omega)]
    exact h.below.block i hi
  · have hn := h.stk.node b s hb
    refine hk2 b hn.2.1 (fun e => (hn' s).1 (e ▸ hb)) (fun e => (hn' s).2.2.1 (e ▸ hb)) (fun e => (hn' s).2.2.2 (e ▸ hb))
  · obtain ⟨v, hv, hs2⟩ := h3 j hj
    by_cases e : k = j
    · subst e
      refine ⟨.pointer (some ⟨b, 0, none⟩), by rw [List.getElem?_set_self (by omega)], ?_⟩
      simp only [List.getD_eq_getElem?_getD]
      rw [List.getElem?_set_self (by rw [h.la]; omega)]
      exact ⟨b, rfl, hb⟩
    · refine ⟨v, by rw [List.getElem?_set_ne e]; exact hv, ?_⟩
      simp only [List.getD_eq_getElem?_getD] at hs2 ⊢
      rw [List.getElem?_set_ne e]
      exact hs2
  · rcases hg with e | e <;> omega
  · rcases hg with e | e <;> omega
  · intro ht
    by_cases e : k = j
    · subst e
      simp only [List.getD_eq_getElem?_getD] at ht
      rw [List.getElem?_set_self (by rw [h.la]; omega)] at ht
      simp only [Option.getD_some, Option.some.injEq] at ht
      rw [← ht]; exact hs
    · simp only [List.getD_eq_getElem?_getD] at ht
      rw [List.getElem?_set_ne e] at ht
      exact h.deep j t (by rw [List.getD_eq_getElem?_getD]; exact ht)
end

theorem stackInfo : (Tryz.prog.info? 108).map (·.size) = some 6 := by kernel_rfl
theorem stack_eq {w : World} {B : Nat} {T : Tab} (h : Stk 108 w B T) {b b' : Nat} {s s' : List UInt8} (hb : (b, s) ∈ T) (hb' : (b', s') ∈ T) :
    (binOp .eql 105 (.pointer (some ⟨b, 0, none⟩)) (.pointer (some ⟨b', 0, none⟩))).run Tryz.prog w = .ok (.bool (s == s')) w := by
  obtain ⟨j, hj, hjs⟩ := Option.map_eq_some_iff.1 stackInfo
  by_cases e : b = b'
  · subst e
    obtain rfl := h.same _ _ _ hb hb'
    rw [run_eql_ptr_same w _ Tryz.underlying105 hj]
    simp
  · obtain ⟨_, _, _, _, _, _, h1, _⟩ := h.node b s hb
    obtain ⟨_, _, _, _, _, _, h2, _⟩ := h.node b' s' hb'
    have hs : (s == s') = false := by
      simp only [beq_eq_false_iff_ne, ne_eq]
      intro e2
      subst e2
      exact e (h.one _ _ _ hb hb')
    rw [run_eql_ptr_other w Tryz.underlying105 hj (by rw [hjs]; decide) (fun e2 => e (by injection e2)) h1 h2, hs]
theorem getD_set {α : Type} {l : List (Option α)} {k : Nat} (hk : k < l.length) (v : Option α) : (l.set k v).getD k none = v := by
  rw [List.getD_eq_getElem?_getD, List.getElem?_set_self hk]
  rfl
set_option maxRecDepth 100000 in
set_option maxHeartbeats 4000000 in
theorem hand_any {w0 W : World} {ab sb tb n g cap : Nat} {T : Tab} {c : Cst} (h : FtAt w0 ab sb tb n g cap T c W) {k b : Nat} {s : List UInt8} (hk : k ≤ n) (hb : (b, s) ∈ T) (hs : s.length ≤ 30000) (hl : c.todo.length ≤ 900000) :
    Calls Tryz.prog 62 #[.slice (some ⟨ab, 0, none⟩) (n + 1) (n + 1), .pointer (some ⟨tb, 0, none⟩), .int .i64 k, .pointer (some ⟨b, 0, none⟩)] W fun e w' =>
      e = .returned (.bool (handP c k s).2) ∧ (∃ g' cap', FtAt w0 ab sb tb n g' cap' T (handP c k s).1 w' ∧ (g' = g ∨ W.heap.size ≤ g')) ∧ Foot W.heap.size (fun i => i = ab ∨ i = tb ∨ i = g) W w' := by
  obtain ⟨v, k0, hv, f0⟩ := h.at_ hk
  have H := Lib.hid h
  go_enter Tryz.func62, Tryz.ntmps62
  unfold handP
  cases hat : c.at_.getD k none with
  | none =>
    rw [hat] at hv
    obtain rfl : v = .pointer none := hv
    have h1 : TodoAt w0.heap.size tb g cap c.todo (W.setCell ⟨ab, k, none⟩ (.pointer (some ⟨b, 0, none⟩))) := h.todo.keep (Below.heap_setCell W _ _ _ (Ne.symm h.ne.2.1)) (Below.heap_setCell W _ _ _ (Ne.symm h.ne.2.2.1))
    have HT := Lib.hid h1
    have hlo : w0.heap.size ≤ (W.setCell ⟨ab, k, none⟩ (.pointer (some ⟨b, 0, none⟩))).heap.size := by simpa using h.below.size
    clear h h1 hat
    simp only
    go_wp2_with (go_at_call 90; refine (push_any HT.out k hl hlo).mono ?_; rintro e w1 ⟨rfl, g', cap', ht1, hg1, hf1⟩; have hF := H.out.hand hk hb hs ht1 hg1 hf1; obtain ⟨v2, k2, hv2, f2⟩ := hF.at_ hk; simp only at hv2; rw [getD_set (by rw [H.out.la]; omega)] at hv2; obtain ⟨b3, rfl, hb3⟩ := hv2; have q1 := stack_eq hF.stk hb3 hb; rw [beq_self_eq_true] at q1; have hfo : Foot W.heap.size (fun i => i = ab ∨ i = tb ∨ i = g) W w1 := (Foot.set (g := fun i => i = ab ∨ i = tb ∨ i = g) (p := ⟨ab, k, none⟩) (Foot.refl W.heap.size _ W) (.inr (.inl rfl)) (.pointer (some ⟨b, 0, none⟩))).trans (hf1.mono (by simp) fun i _ e => .inr e); have HF := Lib.hid hF; have hg2 : g' = g ∨ W.heap.size ≤ g' := (by simpa using hg1); clear hF ht1 hf1 hg1 hb3)
    go_ret
    exact ⟨rfl, ⟨g', cap', HF.out, hg2⟩, hfo⟩
  | some t =>
    rw [hat] at hv
    obtain ⟨b2, rfl, hb2⟩ := hv
    have q1 := stack_eq h.stk hb2 hb
    clear h hat
    simp only
    go_wp2_with fail
    go_ret
    exact ⟨rfl, ⟨g, cap, H.out, .inl rfl⟩, Foot.refl _ _ _⟩
end Go.Proofs.YtdjbkppdppdcgaaGreatDoor
