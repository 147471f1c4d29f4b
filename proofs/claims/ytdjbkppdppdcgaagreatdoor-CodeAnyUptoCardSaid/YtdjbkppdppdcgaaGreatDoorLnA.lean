/- What code.Read has come to, between two lines. -/
import Derived.Test.YtdjbkppdppdcgaaGreatDoorInB
namespace Go.Proofs.YtdjbkppdppdcgaaGreatDoor
open Go.RowKit

theorem RowIs.at_ {w w' : World} {B B' : Nat} {A : Option Addr} {cs : List Value} (h : RowIs w B A cs) (hk : ∀ g o, cs ≠ [] → A = some ⟨g, o, none⟩ → w'.heap[g]? = w.heap[g]?) (hB : B ≤ B') : RowIs w' B' A cs := by
  by_cases h0 : cs = []
  · exact .inl h0
  · rcases h with h | ⟨g, o, hA, hg, hc⟩
    · exact .inl h
    · exact .inr ⟨g, o, hA, Nat.lt_of_lt_of_le hg hB, fun j v hj => (World.cell?_of_block (w := w) (a := ⟨g, o + j, none⟩) (hk g o h0 hA)).trans (hc j v hj)⟩
abbrev CV (x : Cf × Fv) : Value := .slice x.2.ca x.1.code.length x.2.cc
def KB (x : Cf × Fv) (g : Nat) : Prop := (CV x).ownBlock = some g
def TB (x : Cf × Fv) (g : Nat) : Prop := x.1.taken ≠ [] ∧ ∃ o, x.2.ta = some ⟨g, o, none⟩
def GB (ga : Option Addr) (gs : List ByteArray) (g : Nat) : Prop := gs ≠ [] ∧ ∃ o, ga = some ⟨g, o, none⟩
structure RdG (lo : Nat) (W0 W : World) (pb : Nat) (vf : Value) (ga : Option Addr) (m gc : Nat) (xs : List (Cf × Fv)) (gs : List ByteArray) : Prop where
  low : Below lo W0 W
  box : W.heap[pb]? = some (.cells #[vf, .slice ga m gc] 25 (0, 0))
  lp : lo ≤ pb
  fns : W.ownsRow lo 43 6 vf xs.length (xs.flatMap fnCells)
  codes : ∀ x ∈ xs, W.ownsRow lo 46 5 (CV x) x.1.code.length (x.1.code.flatMap insCells)
  takes : ∀ x ∈ xs, RowIs W W.heap.size x.2.ta (x.1.taken.map (Value.int .i64)) ∧ x.1.taken.length ≤ x.2.tc
  gn : gs.length = m
  gcap : m ≤ gc
  globs : RowIs W W.heap.size ga (gs.map Value.string)
  v1 : ∀ g, vf.ownBlock = some g → g ≠ pb ∧ ¬ GB ga gs g ∧ ∀ x ∈ xs, ¬ KB x g ∧ ¬ TB x g
  k1 : ∀ x ∈ xs, ∀ g, KB x g → g ≠ pb ∧ ¬ GB ga gs g ∧ ∀ y ∈ xs, ¬ TB y g
  k2 : xs.Pairwise fun x y => ∀ g, KB x g → ¬ KB y g
  t1 : ∀ x ∈ xs, ∀ g, TB x g → g ≠ pb ∧ lo ≤ g
  g1 : ∀ g, GB ga gs g → g ≠ pb ∧ lo ≤ g
theorem nonempty_map {α β : Type} {f : α → β} {l : List α} (h : l.map f ≠ []) : l ≠ [] := fun e => h (by rw [e]; rfl)
section
variable {lo : Nat} {W0 W W' W2 : World} {pb g2 cap2 m gc : Nat} {vf : Value} {ga : Option Addr} {xs ys : List (Cf × Fv)} {gs : List ByteArray} {o : Obj}
theorem RdG.plt (h : RdG lo W0 W pb vf ga m gc xs gs) : pb < W.heap.size := (Array.getElem?_eq_some_iff.1 h.box).1
theorem RdG.lo_le (h : RdG lo W0 W pb vf ga m gc xs gs) : lo ≤ W.heap.size := by have := h.plt; have := h.lp; omega
theorem RdG.tlt (h : RdG lo W0 W pb vf ga m gc xs gs) {x : Cf × Fv} (hx : x ∈ xs) {g : Nat} (hg : TB x g) : g < W.heap.size := by
  obtain ⟨h0, o, ho⟩ := hg
  rcases (h.takes x hx).1 with e | ⟨g', o', hA, hl, _⟩
  · exact absurd (by simpa using e) h0
  · rw [ho] at hA; injection hA with hA; injection hA with hA _ _; omega
theorem RdG.glt (h : RdG lo W0 W pb vf ga m gc xs gs) {g : Nat} (hg : GB ga gs g) : g < W.heap.size := by
  obtain ⟨h0, o, ho⟩ := hg
  rcases h.globs with e | ⟨g', o', hA, hl, _⟩
  · exact absurd (by simpa using e) h0
  · rw [ho] at hA; injection hA with hA; injection hA with hA _ _; omega
/-- All its blocks stand as they were. -/
theorem RdG.keep (h : RdG lo W0 W pb vf ga m gc xs gs) (hl : Below lo W0 W') (hs : W.heap.size ≤ W'.heap.size) (hp : W'.heap[pb]? = W.heap[pb]?) (hv : ∀ g, vf.ownBlock = some g → W'.heap[g]? = W.heap[g]?) (hk : ∀ x ∈ xs, ∀ g, KB x g → W'.heap[g]? = W.heap[g]?)
    (ht : ∀ x ∈ xs, ∀ g, TB x g → W'.heap[g]? = W.heap[g]?) (hg : ∀ g, GB ga gs g → W'.heap[g]? = W.heap[g]?) : RdG lo W0 W' pb vf ga m gc xs gs :=
  ⟨hl, hp.trans h.box, h.lp, own_keep h.fns hv, fun x hx => own_keep (h.codes x hx) (hk x hx), fun x hx => ⟨(h.takes x hx).1.at_ (fun g o h0 hA => ht x hx g ⟨nonempty_map h0, o, hA⟩) hs, (h.takes x hx).2⟩, h.gn, h.gcap, h.globs.at_ (fun g o h0 hA => hg g ⟨nonempty_map h0, o, hA⟩) hs, h.v1, h.k1, h.k2, h.t1, h.g1⟩
theorem RdG.under (h : RdG lo W0 W pb vf ga m gc xs gs) (hb : Below W.heap.size W W') : RdG lo W0 W' pb vf ga m gc xs gs :=
  h.keep (h.low.trans (hb.mono h.lo_le)) hb.size (hb.block pb h.plt) (fun g hg => hb.block g (h.fns.lt g hg).2) (fun x hx g hg => hb.block g ((h.codes x hx).lt g hg).2) (fun _x hx g hg => hb.block g (h.tlt hx hg)) fun g hg => hb.block g (h.glt hg)
theorem RdG.alloc (h : RdG lo W0 W pb vf ga m gc xs gs) (p : Obj) : RdG lo W0 (W.alloc p) pb vf ga m gc xs gs := h.under ((Below.refl _ _).alloc (Nat.le_refl _) _)
theorem RdG.drew (h : RdG lo W0 W pb vf ga m gc xs gs) : RdG lo W0 W.drew pb vf ga m gc xs gs := h.under ⟨rfl, rfl, rfl, Nat.le_refl _, fun _ _ => rfl⟩
/-- The program so far, as the other functions read it. -/
theorem RdG.pg (h : RdG lo W0 W pb vf ga m gc xs gs) {p : Cp} (hp : p = ⟨xs.map Prod.fst, gs⟩) : ∃ n fa fc, vf = .slice fa n fc ∧ n ≤ fc ∧ PgAt W p n m fa ga xs := by
  subst hp
  obtain ⟨fa, fc, rfl, _, _⟩ := row_form h.fns
  exact ⟨_, fa, fc, rfl, (own_row h.fns).2, by simp, h.gn, rfl, (own_row h.fns).1, h.globs, fun x hx => ⟨(h.takes x hx).1, (own_row (h.codes x hx)).1, (h.takes x hx).2, (own_row (h.codes x hx)).2⟩⟩
/-- An instruction more behind the last function's. -/
theorem RdG.pushI {x : Cf × Fv} {ci : Ci} {gf cap : Nat} (h : RdG lo W0 W pb vf ga m gc (ys ++ [x]) gs) (hvf : vf = .slice (some ⟨gf, 0, none⟩) (ys.length + 1) cap)
    (ho : W2.ownsRow lo 46 5 (.slice (some ⟨g2, 0, none⟩) (x.1.code.length + 1) cap2) (x.1.code.length + 1) (x.1.code.flatMap insCells ++ insCells ci)) (hg : (W.alloc o).grownBy W2 (CV x).ownBlock) (hb : (CV x).ownBlock = some g2 ∨ g2 = (W.alloc o).heap.size) :
    (W2.cell? ⟨gf, ys.length * 6 + 5, none⟩ = some (CV x) ∧ W2.frozen? ⟨gf, ys.length * 6 + 5, none⟩ = false) ∧
    RdG lo W0 (W2.setCell ⟨gf, ys.length * 6 + 5, none⟩ (.slice (some ⟨g2, 0, none⟩) (x.1.code.length + 1) cap2)) pb vf ga m gc (ys ++ [({ x.1 with code := x.1.code ++ [ci] }, ⟨x.2.ta, x.2.tc, some ⟨g2, 0, none⟩, cap2⟩)]) gs := by
  have hx : x ∈ ys ++ [x] := by simp
  have hlen : (ys ++ [x]).length = ys.length + 1 := by simp
  have hvb : vf.ownBlock = some gf := by rw [hvf]; rfl
  have hsz : (W.alloc o).heap.size = W.heap.size + 1 := World.size_alloc _ _
  have hgs := hg.size
  have hgf := h.fns.lt gf hvb
  have hv := h.v1 gf hvb
  have hkx : ∀ k, (CV x).ownBlock = some k → lo ≤ k ∧ k < W.heap.size := fun k hk => (h.codes x hx).lt k hk
  have hK : ∀ k, k < W.heap.size → (CV x).ownBlock ≠ some k → W2.heap[k]? = W.heap[k]? := fun k hk hn => grown_keep hg hk hn
  have hset : ∀ k, k ≠ gf → (W2.setCell ⟨gf, ys.length * 6 + 5, none⟩ (.slice (some ⟨g2, 0, none⟩) (x.1.code.length + 1) cap2)).heap[k]? = W2.heap[k]? := fun k hk => Below.heap_setCell W2 _ _ _ hk
  have hg2n : g2 ≠ pb ∧ ¬ GB ga gs g2 ∧ g2 ≠ gf ∧ (∀ y ∈ ys ++ [x], ¬ TB y g2) ∧ ∀ y ∈ ys, ¬ KB y g2 := by
    rcases hb with e | e
    · obtain ⟨a1, a2, a3⟩ := h.k1 x hx g2 e
      refine ⟨a1, a2, fun e2 => (hv.2.2 x hx).1 (by rw [← e2]; exact e), a3, fun y hy hky => ?_⟩
      have := (List.pairwise_append.1 h.k2).2.2 y hy x (by simp) g2 hky
      exact this e
    · rw [hsz] at e
      refine ⟨by have := h.plt; omega, fun hgb => by have := h.glt hgb; omega, by omega, fun y hy ht => by have := h.tlt hy ht; omega, fun y hy hk => by have := ((h.codes y (by simp [hy])).lt g2 hk).2; omega⟩
  have hf2 : W2.ownsRow lo 43 6 vf (ys ++ [x]).length ((ys ++ [x]).flatMap fnCells) := own_keep h.fns fun g hgv => by
    rw [hvb] at hgv; injection hgv with hgv; subst hgv
    exact hK _ hgf.2 fun e => (hv.2.2 x hx).1 e
  have hi5 : ys.length * 6 + 5 < ((ys ++ [x]).flatMap fnCells).length := by rw [flat_len fn_len, hlen]; omega
  have hcell5 : ((ys ++ [x]).flatMap fnCells)[ys.length * 6 + 5]? = some (CV x) := by
    rw [flat_at fn_len (ys ++ [x]) ys.length x (by simp) 5 (by decide)]
    rfl
  have hf3 := hf2
  rw [hvf, hlen] at hf3
  refine ⟨⟨(hf3.cellAt (ys.length * 6 + 5) (by omega)).trans hcell5, hf3.frozenAt _⟩, ?_⟩
  have hbW2 : Below lo W0 W2 := (h.low.alloc h.lo_le o).trans ⟨hg.os, hg.tape, hg.output, hg.size, fun k hk => hg.block k (by omega) (fun e => by have := (hkx k e.symm).1; omega)⟩
  have key : ∀ k, k < W.heap.size → k ≠ gf → (CV x).ownBlock ≠ some k → (W2.setCell ⟨gf, ys.length * 6 + 5, none⟩ (.slice (some ⟨g2, 0, none⟩) (x.1.code.length + 1) cap2)).heap[k]? = W.heap[k]? := fun k h1 h2 h3 => (hset k h2).trans (hK k h1 h3)
  have hTB : ∀ g, TB (({ x.1 with code := x.1.code ++ [ci] }, ⟨x.2.ta, x.2.tc, some ⟨g2, 0, none⟩, cap2⟩) : Cf × Fv) g ↔ TB x g := fun g => Iff.rfl
  have hKBn : ∀ g, KB (({ x.1 with code := x.1.code ++ [ci] }, ⟨x.2.ta, x.2.tc, some ⟨g2, 0, none⟩, cap2⟩) : Cf × Fv) g → g = g2 := fun g hk => by
    have : (Value.slice (some ⟨g2, 0, none⟩) (x.1.code ++ [ci]).length cap2).ownBlock = some g := hk
    simpa [Value.ownBlock] using this.symm
  have hmem : ∀ y ∈ ys, y ∈ ys ++ [x] := fun y hy => by simp [hy]
  refine ⟨hbW2.setCell hgf.1 _, ?_, h.lp, ?_, fun y hy => ?_, fun y hy => ?_, h.gn, h.gcap, ?_, fun g hgv => ?_, fun y hy g hk => ?_, ?_, fun y hy g ht => ?_, h.g1⟩
  · exact (key pb h.plt (Ne.symm hv.1) fun e => (h.k1 x hx pb e).1 rfl).trans h.box
  · have h5 := hf3.stored (ys.length * 6 + 5) (.slice (some ⟨g2, 0, none⟩) (x.1.code.length + 1) cap2)
    have h6 := h5.1
    have e6 : ((ys ++ [x]).flatMap fnCells).set (ys.length * 6 + 5) (.slice (some ⟨g2, 0, none⟩) (x.1.code.length + 1) cap2) = (ys ++ [(({ x.1 with code := x.1.code ++ [ci] }, ⟨x.2.ta, x.2.tc, some ⟨g2, 0, none⟩, cap2⟩) : Cf × Fv)]).flatMap fnCells := by
      rw [List.flatMap_append, List.flatMap_append, List.set_append_right _ _ (by rw [flat_len fn_len]; omega), flat_len fn_len]
      rw [show ys.length * 6 + 5 - ys.length * 6 = 5 by omega]
      simp [fnCells]
    rw [e6] at h6
    rw [hvf]
    simpa using h6
  · rcases List.mem_append.1 hy with hy | hy
    · refine own_keep (h.codes y (hmem y hy)) fun g hgk => key g ((h.codes y (hmem y hy)).lt g hgk).2 (fun e => (hv.2.2 y (hmem y hy)).1 (by rw [← e]; exact hgk)) fun e => ?_
      exact (List.pairwise_append.1 h.k2).2.2 y hy x (by simp) g hgk e
    · rw [List.mem_singleton.1 hy]
      show (W2.setCell _ _).ownsRow lo _ 5 (.slice (some ⟨g2, 0, none⟩) (x.1.code ++ [ci]).length cap2) (x.1.code ++ [ci]).length ((x.1.code ++ [ci]).flatMap insCells)
      rw [List.length_append, List.flatMap_append]
      simp only [List.flatMap_cons, List.flatMap_nil, List.append_nil, List.length_cons, List.length_nil, Nat.zero_add]
      refine own_keep ho fun g hgo => hset g ?_
      simp only [Value.ownBlock, Option.some.injEq] at hgo
      rw [← hgo]; exact hg2n.2.2.1
  · have hrow : ∀ z ∈ ys ++ [x], RowIs (W2.setCell ⟨gf, ys.length * 6 + 5, none⟩ (.slice (some ⟨g2, 0, none⟩) (x.1.code.length + 1) cap2)) (W2.setCell ⟨gf, ys.length * 6 + 5, none⟩ (.slice (some ⟨g2, 0, none⟩) (x.1.code.length + 1) cap2)).heap.size z.2.ta (z.1.taken.map (Value.int .i64)) := fun z hz =>
      (h.takes z hz).1.at_ (fun g o h0 hA => key g (h.tlt hz ⟨nonempty_map h0, o, hA⟩) (fun e => (hv.2.2 z hz).2 (by rw [← e]; exact ⟨nonempty_map h0, o, hA⟩)) fun e => (h.k1 x hx g e).2.2 z hz ⟨nonempty_map h0, o, hA⟩) (by simp only [World.size_setCell]; omega)
    rcases List.mem_append.1 hy with hy | hy
    · exact ⟨hrow y (hmem y hy), (h.takes y (hmem y hy)).2⟩
    · rw [List.mem_singleton.1 hy]
      exact ⟨hrow x hx, (h.takes x hx).2⟩
  · exact h.globs.at_ (fun g o h0 hA => key g (h.glt ⟨nonempty_map h0, o, hA⟩) (fun e => hv.2.1 (by rw [← e]; exact ⟨nonempty_map h0, o, hA⟩)) fun e => (h.k1 x hx g e).2.1 ⟨nonempty_map h0, o, hA⟩) (by simp only [World.size_setCell]; omega)
  · rw [hvb] at hgv; injection hgv with hgv; subst hgv
    refine ⟨hv.1, hv.2.1, fun y hy => ?_⟩
    rcases List.mem_append.1 hy with hy | hy
    · exact hv.2.2 y (hmem y hy)
    · rw [List.mem_singleton.1 hy]
      exact ⟨fun hk => hg2n.2.2.1 (hKBn _ hk).symm, (hv.2.2 x hx).2⟩
  · have htb : ∀ (g : Nat), (∀ z ∈ ys ++ [x], ¬ TB z g) → ∀ z ∈ ys ++ [(({ x.1 with code := x.1.code ++ [ci] }, ⟨x.2.ta, x.2.tc, some ⟨g2, 0, none⟩, cap2⟩) : Cf × Fv)], ¬ TB z g := fun g hz z hm => by
      rcases List.mem_append.1 hm with hm | hm
      · exact hz z (hmem z hm)
      · rw [List.mem_singleton.1 hm]; exact hz x hx
    rcases List.mem_append.1 hy with hy | hy
    · obtain ⟨a1, a2, a3⟩ := h.k1 y (hmem y hy) g hk
      exact ⟨a1, a2, htb g a3⟩
    · rw [List.mem_singleton.1 hy] at hk
      obtain rfl := hKBn g hk
      exact ⟨hg2n.1, hg2n.2.1, htb _ hg2n.2.2.2.1⟩
  · rw [List.pairwise_append]
    refine ⟨(List.pairwise_append.1 h.k2).1, by simp, fun y hy z hz g hky hkz => ?_⟩
    rw [List.mem_singleton.1 hz] at hkz
    obtain rfl := hKBn g hkz
    exact hg2n.2.2.2.2 y hy hky
  · rcases List.mem_append.1 hy with hy | hy
    · exact h.t1 y (hmem y hy) g ht
    · rw [List.mem_singleton.1 hy] at ht
      exact h.t1 x hx g ht
/-- A function more, without instructions; its taken row is younger than all that is used. -/
theorem RdG.pushF {x : Cf × Fv} {N : Nat} (h : RdG lo W0 W pb vf ga m gc xs gs) (hcode : x.1.code = [] ∧ x.2.ca = none ∧ x.2.cc = 0) (htk : RowIs W W.heap.size x.2.ta (x.1.taken.map (Value.int .i64)) ∧ x.1.taken.length ≤ x.2.tc) (hN : ∀ a, x.2.ta = some a → N ≤ a.block) (hNlo : lo ≤ N)
    (hNp : pb < N) (hNv : ∀ g, vf.ownBlock = some g → g < N) (hNk : ∀ y ∈ xs, ∀ g, KB y g → g < N)
    (ho : W2.ownsRow lo 43 6 (.slice (some ⟨g2, 0, none⟩) (xs.length + 1) cap2) (xs.length + 1) (xs.flatMap fnCells ++ fnCells x)) (hg : (W.alloc o).grownBy W2 vf.ownBlock) (hb : vf.ownBlock = some g2 ∨ g2 = (W.alloc o).heap.size) :
    W2.heap[pb]? = some (.cells #[vf, .slice ga m gc] 25 (0, 0)) ∧
    RdG lo W0 (W2.setCell ⟨pb, 0, none⟩ (.slice (some ⟨g2, 0, none⟩) (xs.length + 1) cap2)) pb (.slice (some ⟨g2, 0, none⟩) (xs.length + 1) cap2) ga m gc (xs ++ [x]) gs := by
  have hpl := h.plt
  have hsz : (W.alloc o).heap.size = W.heap.size + 1 := World.size_alloc _ _
  have hgs := hg.size
  have hbox : W2.heap[pb]? = some (.cells #[vf, .slice ga m gc] 25 (0, 0)) := (grown_keep hg hpl fun e => (h.v1 _ e).1 rfl).trans h.box
  have hset : ∀ k, k ≠ pb → (W2.setCell ⟨pb, 0, none⟩ (.slice (some ⟨g2, 0, none⟩) (xs.length + 1) cap2)).heap[k]? = W2.heap[k]? := fun k hk => Below.heap_setCell W2 _ _ _ hk
  have key : ∀ k, k < W.heap.size → k ≠ pb → vf.ownBlock ≠ some k → (W2.setCell ⟨pb, 0, none⟩ (.slice (some ⟨g2, 0, none⟩) (xs.length + 1) cap2)).heap[k]? = W.heap[k]? := fun k h1 h2 h3 => (hset k h2).trans (grown_keep hg h1 h3)
  have hxt : ∀ g, TB x g → N ≤ g ∧ g < W.heap.size := fun g ⟨h0, q, hq⟩ => ⟨hN _ hq, by
    rcases htk.1 with e | ⟨g', o', hA, hl, _⟩
    · exact absurd (by simpa using e) h0
    · rw [hq] at hA; injection hA with hA; injection hA with hA _ _; omega⟩
  have hxk : ∀ g, ¬ KB x g := fun g hk => by
    have : (Value.slice x.2.ca x.1.code.length x.2.cc).ownBlock = some g := hk
    rw [hcode.2.1] at this
    simp [Value.ownBlock] at this
  have hg2n : g2 ≠ pb ∧ ¬ GB ga gs g2 ∧ (∀ y ∈ xs, ¬ KB y g2 ∧ ¬ TB y g2) ∧ ¬ TB x g2 := by
    rcases hb with e | e
    · obtain ⟨a1, a2, a3⟩ := h.v1 g2 e
      exact ⟨a1, a2, a3, fun ht => by have := (hxt g2 ht).1; have := hNv g2 e; omega⟩
    · rw [hsz] at e
      exact ⟨by omega, fun hgb => by have := h.glt hgb; omega, fun y hy => ⟨fun hk => by have := ((h.codes y hy).lt g2 hk).2; omega, fun ht => by have := h.tlt hy ht; omega⟩, fun ht => by have := (hxt g2 ht).2; omega⟩
  have hbW2 : Below lo W0 W2 := (h.low.alloc h.lo_le o).trans ⟨hg.os, hg.tape, hg.output, hg.size, fun k hk => hg.block k (by have := h.lo_le; omega) (fun e => by have := (h.fns.lt k e.symm).1; omega)⟩
  refine ⟨hbox, hbW2.setCell h.lp _, heap_setCell_same _ _ 0 _ _ _ hbox, h.lp, ?_, fun y hy => ?_, fun y hy => ?_, h.gn, h.gcap, ?_, fun g hgv => ?_, fun y hy g hk => ?_, ?_, fun y hy g ht => ?_, h.g1⟩
  · rw [List.length_append, List.flatMap_append]
    simp only [List.flatMap_cons, List.flatMap_nil, List.append_nil]
    refine own_keep ho fun g hgo => hset g ?_
    simp only [Value.ownBlock, Option.some.injEq] at hgo
    rw [← hgo]; exact hg2n.1
  · rcases List.mem_append.1 hy with hy | hy
    · exact own_keep (h.codes y hy) fun g hgk => key g ((h.codes y hy).lt g hgk).2 (h.k1 y hy g hgk).1 fun e => ((h.v1 g e).2.2 y hy).1 hgk
    · rw [List.mem_singleton.1 hy]
      obtain ⟨e1, e2, e3⟩ := hcode
      show (W2.setCell _ _).ownsRow lo _ 5 (.slice x.2.ca x.1.code.length x.2.cc) x.1.code.length (x.1.code.flatMap insCells)
      rw [e1, e2, e3]
      exact World.ownsRow_nil _ _ _ _
  · rcases List.mem_append.1 hy with hy | hy
    · exact ⟨(h.takes y hy).1.at_ (fun g o h0 hA => key g (h.tlt hy ⟨nonempty_map h0, o, hA⟩) (h.t1 y hy g ⟨nonempty_map h0, o, hA⟩).1 fun e => ((h.v1 g e).2.2 y hy).2 ⟨nonempty_map h0, o, hA⟩) (by simp only [World.size_setCell]; omega), (h.takes y hy).2⟩
    · rw [List.mem_singleton.1 hy]
      exact ⟨htk.1.at_ (fun g o h0 hA => key g (hxt g ⟨nonempty_map h0, o, hA⟩).2 (by have := (hxt g ⟨nonempty_map h0, o, hA⟩).1; omega) fun e => by have := (hxt g ⟨nonempty_map h0, o, hA⟩).1; have := hNv g e; omega) (by simp only [World.size_setCell]; omega), htk.2⟩
  · exact h.globs.at_ (fun g o h0 hA => key g (h.glt ⟨nonempty_map h0, o, hA⟩) (h.g1 g ⟨nonempty_map h0, o, hA⟩).1 fun e => (h.v1 g e).2.1 ⟨nonempty_map h0, o, hA⟩) (by simp only [World.size_setCell]; omega)
  · simp only [Value.ownBlock, Option.some.injEq] at hgv
    subst hgv
    refine ⟨hg2n.1, hg2n.2.1, fun y hy => ?_⟩
    rcases List.mem_append.1 hy with hy | hy
    · exact hg2n.2.2.1 y hy
    · rw [List.mem_singleton.1 hy]; exact ⟨hxk _, hg2n.2.2.2⟩
  · rcases List.mem_append.1 hy with hy | hy
    · obtain ⟨a1, a2, a3⟩ := h.k1 y hy g hk
      refine ⟨a1, a2, fun z hz => ?_⟩
      rcases List.mem_append.1 hz with hz | hz
      · exact a3 z hz
      · rw [List.mem_singleton.1 hz]
        exact fun ht => by have := (hxt g ht).1; have := hNk y hy g hk; omega
    · rw [List.mem_singleton.1 hy] at hk
      exact absurd hk (hxk g)
  · rw [List.pairwise_append]
    refine ⟨h.k2, by simp, fun y hy z hz g hky hkz => ?_⟩
    rw [List.mem_singleton.1 hz] at hkz
    exact hxk g hkz
  · rcases List.mem_append.1 hy with hy | hy
    · exact h.t1 y hy g ht
    · rw [List.mem_singleton.1 hy] at ht
      have := (hxt g ht).1
      exact ⟨by omega, by omega⟩
end
end Go.Proofs.YtdjbkppdppdcgaaGreatDoor
