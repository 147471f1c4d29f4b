/- code.hand. code.fits: what it lays, the loop. -/
import Derived.LaidEqlPtr
import Derived.Laws.MakeOwn
import Derived.Laws.OwnMore
import Derived.Deep.LoopGhost
import Derived.Test.YtdjbkppdppdcgaaGreatDoorMCwK
import Derived.Test.YtdjbkppdppdcgaaGreatDoorCwN
import Derived.Test.YtdjbkppdppdcgaaGreatDoorMScanA
import Derived.Test.YtdjbkppdppdcgaaGreatDoorMCdE
namespace Go.Proofs.YtdjbkppdppdcgaaGreatDoor
open Go.RowKit

def seenV (b : Bool) : Value := .int .i64 (if b then 1 else 0)
/-- Within fits: the stacks at each instruction, what was seen, what is to do. -/
structure FtAt (w0 : World) (ab sb tb n g cap : Nat) (T : Tab) (c : Cst) (W : World) : Prop where
  below : Below w0.heap.size w0 W
  stk : Stk 108 W w0.heap.size T
  atr : ∃ vs : List Value, W.heap[ab]? = some (.cells vs.toArray 105 (0, 0)) ∧ vs.length = n + 1 ∧ ∀ j, j ≤ n → ∃ v, vs[j]? = some v ∧ StkOr T (c.at_.getD j none) v
  seen : W.heap[sb]? = some (.cells (c.seen.map seenV).toArray 3 (0, 0))
  todo : TodoAt w0.heap.size tb g cap c.todo W
  la : c.at_.length = n + 1
  ls : c.seen.length = n
  lo : w0.heap.size ≤ ab ∧ w0.heap.size ≤ sb ∧ w0.heap.size ≤ tb
  ne : ab ≠ sb ∧ ab ≠ tb ∧ ab ≠ g ∧ sb ≠ tb ∧ sb ≠ g
  nn : ∀ s, (ab, s) ∉ T ∧ (sb, s) ∉ T ∧ (tb, s) ∉ T ∧ (g, s) ∉ T
  deep : ∀ j s, c.at_.getD j none = some s → s.length ≤ 30000
section
variable {w0 W W1 W' : World} {ab sb tb n g cap : Nat} {T T' : Tab} {c : Cst}
theorem FtAt.alt (h : FtAt w0 ab sb tb n g cap T c W) : ab < W.heap.size ∧ sb < W.heap.size ∧ tb < W.heap.size ∧ g < W.heap.size := by
  obtain ⟨vs, h1, _⟩ := h.atr
  exact ⟨(Array.getElem?_eq_some_iff.1 h1).1, (Array.getElem?_eq_some_iff.1 h.seen).1, (Array.getElem?_eq_some_iff.1 h.todo.box).1, own_blk h.todo.own⟩
/-- What stands at an instruction. -/
theorem FtAt.at_ (h : FtAt w0 ab sb tb n g cap T c W) {k : Nat} (hk : k ≤ n) : ∃ v, W.cell? ⟨ab, k, none⟩ = some v ∧ StkOr T (c.at_.getD k none) v ∧ W.frozen? ⟨ab, k, none⟩ = false := by
  obtain ⟨vs, h1, h2, h3⟩ := h.atr
  obtain ⟨v, hv, hs⟩ := h3 k hk
  exact ⟨v, (cell_of_row W ab k _ _ _ h1).trans (by simpa using hv), hs, frozen_of_row W ab k _ _ h1⟩
theorem FtAt.seenAt (h : FtAt w0 ab sb tb n g cap T c W) {k : Nat} (hk : k < n) : W.cell? ⟨sb, k, none⟩ = some (seenV (c.seen.getD k false)) ∧ W.frozen? ⟨sb, k, none⟩ = false := by
  refine ⟨(cell_of_row W sb k _ _ _ h.seen).trans ?_, frozen_of_row W sb k _ _ h.seen⟩
  have : k < c.seen.length := by rw [h.ls]; exact hk
  simp [List.getD_eq_getElem?_getD, List.getElem?_eq_getElem this]
/-- A call that may add stacks, and else leaves all as it was. -/
theorem FtAt.more (h : FtAt w0 ab sb tb n g cap T c W) (hs : Stk 108 W' w0.heap.size T') (hsub : ∀ y ∈ T, y ∈ T') (hnew : ∀ y ∈ T', y ∈ T ∨ W.heap.size ≤ y.1) (hf : Foot W.heap.size (fun k => ∃ s, (k, s) ∈ T) W W') : FtAt w0 ab sb tb n g cap T' c W' := by
  obtain ⟨l1, l2, l3, l4⟩ := h.alt
  have hn : ∀ k, k < W.heap.size → (∀ s, (k, s) ∉ T) → (∀ s, (k, s) ∉ T') := fun k hk hn s hs => by
    rcases hnew _ hs with hs | hs
    · exact hn s hs
    · exact absurd hk (Nat.not_lt.2 hs)
  have hk : ∀ k, k < W.heap.size → (∀ s, (k, s) ∉ T) → W'.heap[k]? = W.heap[k]? := fun k hk hn => hf.block k hk (fun ⟨s, hs⟩ => hn s hs)
  obtain ⟨vs, h1, h2, h3⟩ := h.atr
  have hn' := h.nn
  refine ⟨h.below.trans (hf.to (C := w0.heap.size) h.below.size fun k ⟨s, hs⟩ => (h.stk.node k s hs).1), hs, ⟨vs, (hk ab l1 fun s => (hn' s).1).trans h1, h2, fun j hj => ?_⟩, (hk sb l2 fun s => (hn' s).2.1).trans h.seen, h.todo.keep (hk tb l3 fun s => (hn' s).2.2.1) (hk g l4 fun s => (hn' s).2.2.2), h.la, h.ls, h.lo, h.ne, fun s => ⟨hn ab l1 (fun s => (hn' s).1) s, hn sb l2 (fun s => (hn' s).2.1) s, hn tb l3 (fun s => (hn' s).2.2.1) s, hn g l4 (fun s => (hn' s).2.2.2) s⟩, h.deep⟩
  obtain ⟨v, hv, hs⟩ := h3 j hj
  refine ⟨v, hv, ?_⟩
  revert hs
  cases c.at_.getD j none with
  | none => exact id
  | some s => rintro ⟨b, e, hb⟩; exact ⟨b, e, hsub _ hb⟩
/-- A stack is laid where none stood, and the instruction is to do. -/
theorem FtAt.hand (h : FtAt w0 ab sb tb n g cap T c W) {k b g' cap' : Nat} {s : List UInt8} (hk : k ≤ n) (hb : (b, s) ∈ T) (hs : s.length ≤ 30000)
    (ht : TodoAt w0.heap.size tb g' cap' (pushL c.todo k) W') (hg : g' = g ∨ (W.setCell ⟨ab, k, none⟩ (.pointer (some ⟨b, 0, none⟩))).heap.size ≤ g')
    (hf : Foot (W.setCell ⟨ab, k, none⟩ (.pointer (some ⟨b, 0, none⟩))).heap.size (fun k => k = tb ∨ k = g) (W.setCell ⟨ab, k, none⟩ (.pointer (some ⟨b, 0, none⟩))) W') :
    FtAt w0 ab sb tb n g' cap' T { c with at_ := c.at_.set k (some s), todo := pushL c.todo k } W' := by
  obtain ⟨l1, l2, l3, l4⟩ := h.alt
  obtain ⟨vs, h1, h2, h3⟩ := h.atr
  have hsz : (W.setCell ⟨ab, k, none⟩ (.pointer (some ⟨b, 0, none⟩))).heap.size = W.heap.size := by simp
  rw [hsz] at hg hf
  have hfs := hf.size
  rw [hsz] at hfs
  obtain ⟨n1, n2, n3, n4, n5⟩ := h.ne
  have hn' := h.nn
  have hk2 : ∀ i, i < W.heap.size → i ≠ ab → i ≠ tb → i ≠ g → W'.heap[i]? = W.heap[i]? := fun i hi e1 e2 e3 => (hf.block i hi (by rintro (e | e); exact e2 e; exact e3 e)).trans (Below.heap_setCell W _ _ _ e1)
  have hab : W'.heap[ab]? = some (.cells (vs.set k (.pointer (some ⟨b, 0, none⟩))).toArray 105 (0, 0)) := by
    rw [hf.block ab l1 (by rintro (e | e); exact n2 e; exact n3 e), heap_setCell_same W ab k _ _ _ h1]
    simp
  have hge : w0.heap.size ≤ W.heap.size := h.below.size
  have hg2 : ∀ s, (g', s) ∉ T := fun s hs => by
    rcases hg with e | e
    · rw [e] at hs; exact (hn' s).2.2.2 hs
    · exact absurd (h.stk.node _ s hs).2.1 (Nat.not_lt.2 e)
  refine ⟨⟨hf.os.trans h.below.os, hf.tape.trans h.below.tape, hf.output.trans h.below.output, Nat.le_trans hge hfs, fun i hi => ?_⟩, h.stk.keep fun b s hb => ?_, ⟨vs.set k (.pointer (some ⟨b, 0, none⟩)), hab, by simpa using h2, fun j hj => ?_⟩, (hk2 sb l2 (Ne.symm n1) n4 n5).trans h.seen, ht, by simp only [List.length_set]; exact h.la, h.ls, h.lo, ⟨n1, n2, ?_, n4, ?_⟩, fun s => ⟨(hn' s).1, (hn' s).2.1, (hn' s).2.2.1, hg2 s⟩, fun j t => ?_⟩
  · have := h.lo
    have := h.todo.lo
    rw [hk2 i (by omega) (by omega) (by omega) (by omega)]
    exact h.below.block i hi
  · have hn := h.stk.node b s hb
    refine hk2 b hn.2.1 (fun e => (hn' s).1 (e ▸ hb)) (fun e => (hn' s).2.2.1 (e ▸ hb)) (fun e => (hn' s).2.2.2 (e ▸ hb))
  · obtain ⟨v, hv, hs2⟩ := h3 j hj
    by_cases e : k = j
    · subst e
      refine ⟨.pointer (some ⟨b, 0, none⟩), by rw [List.getElem?_set_self (by omega)], ?_⟩
      simp only [List.getD_eq_getElem?_getD]
      rw [List.getElem?_set_self (by rw [h.la]; omega)]
      exact ⟨b, rfl, hb⟩
    · refine ⟨v, by rw [List.getElem?_set_ne e]; exact hv, ?_⟩
      simp only [List.getD_eq_getElem?_getD] at hs2 ⊢
      rw [List.getElem?_set_ne e]
      exact hs2
  · rcases hg with e | e <;> omega
  · rcases hg with e | e <;> omega
  · intro ht
    by_cases e : k = j
    · subst e
      simp only [List.getD_eq_getElem?_getD] at ht
      rw [List.getElem?_set_self (by rw [h.la]; omega)] at ht
      simp only [Option.getD_some, Option.some.injEq] at ht
      rw [← ht]; exact hs
    · simp only [List.getD_eq_getElem?_getD] at ht
      rw [List.getElem?_set_ne e] at ht
      exact h.deep j t (by rw [List.getD_eq_getElem?_getD]; exact ht)
end

theorem stackInfo : (Tryz.prog.info? 108).map (·.size) = some 6 := by kernel_rfl
theorem stack_eq {w : World} {B : Nat} {T : Tab} (h : Stk 108 w B T) {b b' : Nat} {s s' : List UInt8} (hb : (b, s) ∈ T) (hb' : (b', s') ∈ T) :
    (binOp .eql 105 (.pointer (some ⟨b, 0, none⟩)) (.pointer (some ⟨b', 0, none⟩))).run Tryz.prog w = .ok (.bool (s == s')) w := by
  obtain ⟨j, hj, hjs⟩ := Option.map_eq_some_iff.1 stackInfo
  by_cases e : b = b'
  · subst e
    obtain rfl := h.same _ _ _ hb hb'
    rw [run_eql_ptr_same w _ Tryz.underlying105 hj]
    simp
  · obtain ⟨_, _, _, _, _, _, h1, _⟩ := h.node b s hb
    obtain ⟨_, _, _, _, _, _, h2, _⟩ := h.node b' s' hb'
    have hs : (s == s') = false := by
      simp only [beq_eq_false_iff_ne, ne_eq]
      intro e2
      subst e2
      exact e (h.one _ _ _ hb hb')
    rw [run_eql_ptr_other w Tryz.underlying105 hj (by rw [hjs]; decide) (fun e2 => e (by injection e2)) h1 h2, hs]
theorem getD_set {α : Type} {l : List (Option α)} {k : Nat} (hk : k < l.length) (v : Option α) : (l.set k v).getD k none = v := by
  rw [List.getD_eq_getElem?_getD, List.getElem?_set_self hk]
  rfl
set_option maxRecDepth 100000 in
set_option maxHeartbeats 4000000 in
theorem hand_any {w0 W : World} {ab sb tb n g cap : Nat} {T : Tab} {c : Cst} (h : FtAt w0 ab sb tb n g cap T c W) {k b : Nat} {s : List UInt8} (hk : k ≤ n) (hb : (b, s) ∈ T) (hs : s.length ≤ 30000) (hl : c.todo.length ≤ 900000) :
    Calls Tryz.prog 62 #[.slice (some ⟨ab, 0, none⟩) (n + 1) (n + 1), .pointer (some ⟨tb, 0, none⟩), .int .i64 k, .pointer (some ⟨b, 0, none⟩)] W fun e w' =>
      e = .returned (.bool (handP c k s).2) ∧ (∃ g' cap', FtAt w0 ab sb tb n g' cap' T (handP c k s).1 w' ∧ (g' = g ∨ W.heap.size ≤ g')) ∧ Foot W.heap.size (fun i => i = ab ∨ i = tb ∨ i = g) W w' := by
  obtain ⟨v, k0, hv, f0⟩ := h.at_ hk
  have H := Lib.hid h
  go_enter Tryz.func62, Tryz.ntmps62
  unfold handP
  cases hat : c.at_.getD k none with
  | none =>
    rw [hat] at hv
    obtain rfl : v = .pointer none := hv
    have h1 : TodoAt w0.heap.size tb g cap c.todo (W.setCell ⟨ab, k, none⟩ (.pointer (some ⟨b, 0, none⟩))) := h.todo.keep (Below.heap_setCell W _ _ _ (Ne.symm h.ne.2.1)) (Below.heap_setCell W _ _ _ (Ne.symm h.ne.2.2.1))
    have HT := Lib.hid h1
    have hlo : w0.heap.size ≤ (W.setCell ⟨ab, k, none⟩ (.pointer (some ⟨b, 0, none⟩))).heap.size := by simpa using h.below.size
    clear h h1 hat
    simp only
    go_wp2_with (go_at_call 90; refine (push_any HT.out k hl hlo).mono ?_; rintro e w1 ⟨rfl, g', cap', ht1, hg1, hf1⟩; have hF := H.out.hand hk hb hs ht1 hg1 hf1; obtain ⟨v2, k2, hv2, f2⟩ := hF.at_ hk; simp only at hv2; rw [getD_set (by rw [H.out.la]; omega)] at hv2; obtain ⟨b3, rfl, hb3⟩ := hv2; have q1 := stack_eq hF.stk hb3 hb; rw [beq_self_eq_true] at q1; have hfo : Foot W.heap.size (fun i => i = ab ∨ i = tb ∨ i = g) W w1 := (Foot.set (g := fun i => i = ab ∨ i = tb ∨ i = g) (p := ⟨ab, k, none⟩) (Foot.refl W.heap.size _ W) (.inr (.inl rfl)) (.pointer (some ⟨b, 0, none⟩))).trans (hf1.mono (by simp) fun i _ e => .inr e); have HF := Lib.hid hF; have hg2 : g' = g ∨ W.heap.size ≤ g' := (by simpa using hg1); clear hF ht1 hf1 hg1 hb3)
    go_ret
    exact ⟨rfl, ⟨g', cap', HF.out, hg2⟩, hfo⟩
  | some t =>
    rw [hat] at hv
    obtain ⟨b2, rfl, hb2⟩ := hv
    have q1 := stack_eq h.stk hb2 hb
    clear h hat
    simp only
    go_wp2_with fail
    go_ret
    exact ⟨rfl, ⟨g, cap, H.out, .inl rfl⟩, Foot.refl _ _ _⟩
end Go.Proofs.YtdjbkppdppdcgaaGreatDoor

namespace Go.Proofs.YtdjbkppdppdcgaaGreatDoor
open Go.RowKit

def fitsR : Option Int → Int
  | none => -1
  | some k => k
def fnV (x : Cf × Fv) : Value := .agg #[.string x.1.name, .int .i64 x.1.params, .int .i64 x.1.slots, .slice x.2.ta x.1.taken.length x.2.tc, .int .i64 x.1.around, .slice x.2.ca x.1.code.length x.2.cc]
theorem ptrInfo : (Tryz.prog.info? 105).map (fun i => (i.zero, i.size, i.bytes)) = some (some (.pointer none), 1, 8) := by kernel_rfl
theorem make_at (n : Nat) (hn : n ≤ 100000) (w : World) : (Instr.makeSlice 104 (.int .i64 ((n : Int) + 1)) (.int .i64 ((n : Int) + 1))).run Tryz.prog w = .ok (.slice (some ⟨w.heap.size, 0, none⟩) (n + 1) (n + 1)) (w.alloc (.cells (List.replicate (n + 1) (Value.pointer none)).toArray 105 (0, 0))) := by
  obtain ⟨i, hi, hz0, hz1, hz2⟩ := info_parts ptrInfo
  have := run_make (P := Tryz.prog) w 104 105 i _ Tryz.underlying104 hi hz0 .i64 .i64 ((n : Int) + 1) ((n : Int) + 1) (by omega) (by omega) (by rw [hz2]; omega) (by omega)
  rw [this, hz1, Nat.mul_one, show ((n : Int) + 1).toNat = n + 1 by omega]
  have e := toList_madeCells_one (Value.pointer none) (n + 1)
  rw [← e]
  rfl
theorem make_ints (n : Nat) (hn : n ≤ 100000) (w : World) : (Instr.makeSlice 30 (.int .i64 (n : Int)) (.int .i64 (n : Int))).run Tryz.prog w = .ok (.slice (some ⟨w.heap.size, 0, none⟩) n n) (w.alloc (.cells (List.replicate n (Value.int .i64 0)).toArray 3 (0, 0))) := by
  obtain ⟨i, hi, hz0, hz1, hz2⟩ := info_parts intInfo
  have := run_make (P := Tryz.prog) w 30 3 i _ Tryz.underlying30 hi hz0 .i64 .i64 (n : Int) (n : Int) (by omega) (by omega) (by rw [hz2]; omega) (by omega)
  rw [this, hz1, Nat.mul_one, Int.toNat_natCast]
  have e := toList_madeCells_one (Value.int .i64 0) n
  rw [← e]
  rfl

theorem allocs6 (w : World) (o0 o1 o2 o3 o4 o5 : Obj) :
    let W := (((((w.alloc o0).alloc o1).alloc o2).alloc o3).alloc o4).alloc o5
    W.heap[w.heap.size]? = some o0 ∧ W.heap[w.heap.size + 1]? = some o1 ∧ W.heap[w.heap.size + 1 + 1]? = some o2 ∧ W.heap[w.heap.size + 1 + 1 + 1]? = some o3 ∧ W.heap[w.heap.size + 1 + 1 + 1 + 1]? = some o4 ∧ W.heap[w.heap.size + 1 + 1 + 1 + 1 + 1]? = some o5 ∧ W.heap.size = w.heap.size + 6 ∧ Below (w.heap.size + 1) (w.alloc o0) W := by
  intro W
  have e : ∀ (w : World) (o : Obj), (w.alloc o).heap = w.heap.push o := fun _ _ => rfl
  have hW : W.heap = (((((w.heap.push o0).push o1).push o2).push o3).push o4).push o5 := rfl
  refine ⟨?_, ?_, ?_, ?_, ?_, ?_, ?_, ?_⟩
  · rw [hW]; simp [Array.getElem_push, Nat.add_assoc]
  · rw [hW]; simp [Array.getElem_push, Nat.add_assoc]
  · rw [hW]; simp [Array.getElem_push, Nat.add_assoc]
  · rw [hW]; simp [Array.getElem_push, Nat.add_assoc]
  · rw [hW]; simp [Array.getElem_push, Nat.add_assoc]
  · rw [hW]; simp [Array.getElem_push, Nat.add_assoc]
  · rw [hW]; simp only [Array.size_push]
  · have h1 := (Below.refl (w.heap.size + 1) (w.alloc o0)).alloc (by simp) o1
    have h2 := h1.alloc (by simp) o2
    have h3 := h2.alloc (by simp) o3
    have h4 := h3.alloc (by simp) o4
    exact h4.alloc (by simp) o5
theorem FtAt.begin (w : World) (o0 : Obj) (n : Nat) (_h0 : 0 < n) :
    FtAt (w.alloc o0) (w.heap.size + 1) (w.heap.size + 1 + 1) (w.heap.size + 1 + 1 + 1 + 1) n (w.heap.size + 1 + 1 + 1) 1 [(w.heap.size + 1 + 1 + 1 + 1 + 1, [])] ⟨some [] :: List.replicate n none, List.replicate n false, [0]⟩
      ((((((w.alloc o0).alloc (.cells ((Array.replicate (n + 1) (Value.pointer none)).setIfInBounds 0 (.pointer (some ⟨w.heap.size + 1 + 1 + 1 + 1 + 1, 0, none⟩))) 105 (0, 0))).alloc (.cells (Array.replicate n (Value.int .i64 0)) 3 (0, 0))).alloc (.cells #[.int .i64 0] 3 (0, 0))).alloc (.cells #[.slice (some ⟨w.heap.size + 1 + 1 + 1, 0, none⟩) 1 1] 30 (0, 0))).alloc
        (.cells #[.int .u8 0, .pointer none, .int .i64 0, .pointer none, .pointer none, .pointer none] 108 (0, 0))) := by
  have hA := allocs6 w o0 (.cells ((Array.replicate (n + 1) (Value.pointer none)).setIfInBounds 0 (.pointer (some ⟨w.heap.size + 1 + 1 + 1 + 1 + 1, 0, none⟩))) 105 (0, 0)) (.cells (Array.replicate n (Value.int .i64 0)) 3 (0, 0)) (.cells #[.int .i64 0] 3 (0, 0)) (.cells #[.slice (some ⟨w.heap.size + 1 + 1 + 1, 0, none⟩) 1 1] 30 (0, 0)) (.cells #[.int .u8 0, .pointer none, .int .i64 0, .pointer none, .pointer none, .pointer none] 108 (0, 0))
  dsimp only at hA
  obtain ⟨W, hW⟩ : ∃ W, (((((w.alloc o0).alloc (.cells ((Array.replicate (n + 1) (Value.pointer none)).setIfInBounds 0 (.pointer (some ⟨w.heap.size + 1 + 1 + 1 + 1 + 1, 0, none⟩))) 105 (0, 0))).alloc (.cells (Array.replicate n (Value.int .i64 0)) 3 (0, 0))).alloc (.cells #[.int .i64 0] 3 (0, 0))).alloc (.cells #[.slice (some ⟨w.heap.size + 1 + 1 + 1, 0, none⟩) 1 1] 30 (0, 0))).alloc
        (.cells #[.int .u8 0, .pointer none, .int .i64 0, .pointer none, .pointer none, .pointer none] 108 (0, 0)) = W := ⟨_, rfl⟩
  rw [hW] at hA ⊢
  obtain ⟨_, a1, a2, a3, a4, a5, hsz, hb⟩ := hA
  have hs0 : (w.alloc o0).heap.size = w.heap.size + 1 := by simp
  refine ⟨by rw [hs0]; exact hb, ⟨?_, ?_, ?_⟩, ⟨(List.replicate (n + 1) (Value.pointer none)).set 0 (.pointer (some ⟨w.heap.size + 1 + 1 + 1 + 1 + 1, 0, none⟩)), by rw [a1, ← List.setIfInBounds_toArray, List.toArray_replicate], by simp, fun j hj => ?_⟩, by rw [a2]; simp [seenV], ⟨a4, ⟨by simp [rowI], .inr ⟨_, _, _, rfl, Nat.zero_le _, a3, by simp, by decide, by simp, by simp [rowI]⟩⟩, by omega, by rw [hs0]; omega⟩, by simp, by simp, by rw [hs0]; omega, by omega, fun s => ?_, fun j s => ?_⟩
  · intro b s hb2
    rw [List.mem_singleton] at hb2
    injection hb2 with e1 e2
    subst e1
    subst e2
    refine ⟨by rw [hs0]; omega, by rw [hsz]; omega, .pointer none, .pointer none, .pointer none, .pointer none, by rw [a5]; rfl, rfl, ?_, ?_, ?_⟩ <;>
    · refine .inl ⟨rfl, fun b hb3 => ?_⟩
      rw [List.mem_singleton] at hb3
      injection hb3 with _ e
      cases e
  · intro b b' s h1 h2
    rw [List.mem_singleton] at h1 h2
    injection h1 with e1 _
    injection h2 with e2 _
    rw [e1, e2]
  · intro b s s' h1 h2
    rw [List.mem_singleton] at h1 h2
    injection h1 with _ e1
    injection h2 with _ e2
    rw [e1, e2]
  · cases j with
    | zero => exact ⟨_, by rw [List.getElem?_set_self (by simp)], _, rfl, List.mem_singleton.2 rfl⟩
    | succ j =>
      refine ⟨.pointer none, by rw [List.getElem?_set_ne (by omega), List.getElem?_replicate, if_pos (by omega)], ?_⟩
      simp only [List.getD_cons_succ]
      rw [List.getD_eq_getElem?_getD, List.getElem?_replicate]
      split <;> exact rfl
  · simp
  · intro h
    cases j with
    | zero =>
      simp only [List.getD_cons_zero, Option.some.injEq] at h
      rw [← h]; exact Nat.zero_le _
    | succ j =>
      simp only [List.getD_cons_succ] at h
      rw [List.getD_eq_getElem?_getD, List.getElem?_replicate] at h
      split at h <;> cases h
section
variable {w0 W W' : World} {ab sb tb n g cap : Nat} {T : Tab} {c : Cst}
theorem FtAt.alloc (h : FtAt w0 ab sb tb n g cap T c W) (o : Obj) : FtAt w0 ab sb tb n g cap T c (W.alloc o) :=
  h.more (h.stk.keep fun b s hb => heap_alloc_old W o (h.stk.node b s hb).2.1) (fun _ h => h) (fun _ h => .inl h) (Foot.of ((Below.refl _ W).alloc (Nat.le_refl _) o))
theorem FtAt.under (h : FtAt w0 ab sb tb n g cap T c W) (hb : Below W.heap.size W W') : FtAt w0 ab sb tb n g cap T c W' :=
  h.more (h.stk.keep fun b s hb2 => hb.block b (h.stk.node b s hb2).2.1) (fun _ h => h) (fun _ h => .inl h) (Foot.of hb)
theorem FtAt.drewN (h : FtAt w0 ab sb tb n g cap T c W) (k : Nat) : FtAt w0 ab sb tb n g cap T c (W.drewN k) := h.under ⟨rfl, rfl, rfl, Nat.le_refl _, fun _ _ => rfl⟩
/-- The least one is taken out. -/
theorem FtAt.pop (h : FtAt w0 ab sb tb n g cap T c W) (ht : TodoAt w0.heap.size tb g cap (popL c.todo).2 W') (hf : Foot W.heap.size (fun k => k = tb ∨ k = g) W W') : FtAt w0 ab sb tb n g cap T { c with todo := (popL c.todo).2 } W' := by
  obtain ⟨l1, l2, l3, l4⟩ := h.alt
  obtain ⟨vs, h1, h2, h3⟩ := h.atr
  obtain ⟨n1, n2, n3, n4, n5⟩ := h.ne
  have hn' := h.nn
  have hk : ∀ k, k < W.heap.size → k ≠ tb → k ≠ g → W'.heap[k]? = W.heap[k]? := fun k hk e1 e2 => hf.block k hk (by rintro (e | e); exact e1 e; exact e2 e)
  have hlo := h.lo
  have hlg := h.todo.lo
  exact ⟨h.below.trans (hf.to (C := w0.heap.size) h.below.size (by rintro k (e | e) <;> omega)), h.stk.keep fun b s hb => hk b (h.stk.node b s hb).2.1 (fun e => (hn' s).2.2.1 (e ▸ hb)) (fun e => (hn' s).2.2.2 (e ▸ hb)), ⟨vs, (hk ab l1 n2 n3).trans h1, h2, h3⟩, (hk sb l2 n4 n5).trans h.seen, ht, h.la, h.ls, h.lo, h.ne, h.nn, h.deep⟩
/-- An instruction is seen. -/
theorem FtAt.look (h : FtAt w0 ab sb tb n g cap T c W) {k : Nat} (_hk : k < n) : FtAt w0 ab sb tb n g cap T { c with seen := c.seen.set k true } (W.setCell ⟨sb, k, none⟩ (.int .i64 1)) := by
  obtain ⟨vs, h1, h2, h3⟩ := h.atr
  obtain ⟨n1, n2, n3, n4, n5⟩ := h.ne
  have hn' := h.nn
  have hk2 : ∀ i, i ≠ sb → (W.setCell ⟨sb, k, none⟩ (.int .i64 1)).heap[i]? = W.heap[i]? := fun i e => Below.heap_setCell W _ _ _ e
  have hlo := h.lo
  refine ⟨h.below.setCell (p := ⟨sb, k, none⟩) hlo.2.1 _, h.stk.keep fun b s hb => hk2 b (fun e => (hn' s).2.1 (e ▸ hb)), ⟨vs, (hk2 ab n1).trans h1, h2, h3⟩, ?_, h.todo.keep (hk2 tb (Ne.symm n4)) (hk2 g (Ne.symm n5)), h.la, by simp only [List.length_set]; exact h.ls, h.lo, h.ne, h.nn, h.deep⟩
  rw [heap_setCell_same W sb k _ _ _ h.seen]
  simp [List.map_set, seenV]
end
theorem lays_len : ∀ (l : List UInt8) (s : List UInt8) {s' : List UInt8}, laysP s l = some s' → s.length ≤ 30000 → s'.length ≤ 30000
  | [], s, s', h, hs => by
    rw [laysP] at h
    injection h with h
    rw [← h]; exact hs
  | c :: r, s, s', h, hs => by
    rw [laysP] at h
    split at h
    · cases h
    · exact lays_len r (c :: s) h (by simp only [List.length_cons]; omega)
theorem takes_len : ∀ (l : List UInt8) (s : List UInt8) {s' : List UInt8}, takesP s l = some s' → s'.length ≤ s.length
  | [], s, s', h => by
    rw [takesP] at h
    injection h with h
    rw [← h]; exact Nat.le_refl _
  | c :: r, s, s', h => by
    rw [takesP] at h
    cases e : lessP s c 1 with
    | none => rw [e] at h; cases h
    | some s1 =>
      rw [e] at h
      exact Nat.le_trans (takes_len r s1 h) (less_len _ _ e)
theorem leaves_len {x : Ci} {s nx th : List UInt8} (h : leavesP x s = some (nx, th)) (hs : s.length ≤ 30000) : nx.length ≤ 30000 ∧ th.length ≤ 30000 := by
  unfold leavesP at h
  split at h
  · cases h
  · rename_i s1 e1
    have l1 := less_len _ _ e1
    split at h
    · cases h
    · rename_i s2 e2
      have l2 := takes_len _ _ e2
      split at h
      · cases h
      · rename_i s3 e3
        have l3 := lays_len _ _ e3 (by omega)
        simp only [Option.some.injEq, Prod.mk.injEq] at h
        obtain ⟨rfl, rfl⟩ := h
        refine ⟨l3, ?_⟩
        split
        · rename_i ho
          have e : takesP s1 [118] = some s2 := by
            rcases ho with ho | ho
            · rw [ho] at e2; exact e2
            · rw [ho] at e2; exact e2
          rw [takesP] at e
          cases e4 : lessP s1 118 1 with
          | none => rw [e4] at e; cases e
          | some s4 =>
            rw [e4] at e
            dsimp only at e
            rw [takesP] at e
            injection e with e
            subst e
            cases s1 with
            | nil => rw [lessP] at e4; cases e4
            | cons t r =>
              rw [lessP] at e4
              split at e4
              · rw [lessP] at e4
                injection e4 with e4
                subst e4
                simp only [List.length_cons] at l1 ⊢
                omega
              · cases e4
        · omega
theorem round_eq {code : List Ci} {c : Cst} {k : Nat} {x : Ci} {s : List UInt8} (hx : code[k]? = some x) (hs : c.at_.getD k none = some s) : roundP code c k = match leavesP x s with
    | none => (some (k : Int), c)
    | some (nx, th) =>
      let h1 := if x.op = 34 ∨ x.op = 50 then (c, true) else handP c (k + 1) nx
      if h1.2 = false then (some ((k : Int) + 1), h1.1) else
      let h2 := if goesB x.op then handP h1.1 x.a.toNat th else (h1.1, true)
      if h2.2 = false then (some x.a, h2.1) else (none, h2.1) := by
  unfold roundP
  rw [hx, hs]
  rfl
end Go.Proofs.YtdjbkppdppdcgaaGreatDoor
