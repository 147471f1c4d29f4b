/- guiselaw13.lent: a function's own rows; the row of functions. -/
import Derived.Test.YtdjbkppdppdcgaaGreatDoorMCyM
namespace Go.Proofs.YtdjbkppdppdcgaaGreatDoor
open Go.RowKit

theorem take_set_end {α : Type} (L : List α) (n : Nat) (a : α) (h : n < L.length) : (L.set n a).take (n + 1) = L.take n ++ [a] := by
  rw [List.take_set]
  have h1 : L.take (n + 1) = L.take n ++ [L[n]] := by rw [List.take_succ_eq_append_getElem h]
  rw [h1, List.set_append_right _ _ (by rw [List.length_take]; omega)]
  simp [Nat.min_eq_left (Nat.le_of_lt h)]
theorem take_set6 {α : Type} (L : List α) (n : Nat) (a b c d e f : α) (h : n + 5 < L.length) : ((((((L.set n a).set (n + 1) b).set (n + 2) c).set (n + 3) d).set (n + 4) e).set (n + 5) f).take (n + 6) = L.take n ++ [a, b, c, d, e, f] := by
  rw [take_set_end _ (n + 5) _ (by simp; omega), take_set_end _ (n + 4) _ (by simp; omega), take_set_end _ (n + 3) _ (by simp; omega), take_set_end _ (n + 2) _ (by simp; omega), take_set_end _ (n + 1) _ (by simp; omega), take_set_end _ n _ (by omega)]
  simp
theorem set_heap {W : World} {b j : Nat} {cs : List Value} {t : TypeId} (h : W.heap[b]? = some (.cells cs.toArray t (0, 0))) (v : Value) : (W.setCell ⟨b, j, none⟩ v).heap[b]? = some (.cells (cs.set j v).toArray t (0, 0)) := by
  have := heap_setCell_same W b j _ _ v h
  simpa using this
theorem alloc3 (w : World) (A B C : Obj) : ∃ W x t c, ((w.alloc A).alloc B).alloc C = W ∧ w.heap.size = x ∧ x + 1 = t ∧ t + 1 = c ∧ W.heap[x]? = some A ∧ W.heap[t]? = some B ∧ W.heap[c]? = some C ∧ Below w.heap.size w W := by
  have s1 : (w.alloc A).heap.size = w.heap.size + 1 := World.size_alloc _ _
  have s2 : ((w.alloc A).alloc B).heap.size = w.heap.size + 1 + 1 := by rw [World.size_alloc, s1]
  have n1 := heap_alloc_new (w.alloc A) B
  have n2 := heap_alloc_new ((w.alloc A).alloc B) C
  rw [s1] at n1
  rw [s2] at n2
  exact ⟨_, _, _, _, rfl, rfl, rfl, rfl, (heap_alloc_old _ _ (by omega)).trans ((heap_alloc_old _ _ (by omega)).trans (heap_alloc_new w A)), (heap_alloc_old _ _ (by omega)).trans n1, n2, (((Below.refl _ _).alloc (Nat.le_refl _) A).alloc (by omega) B).alloc (by omega) C⟩
theorem row_src {w W : World} {A : Option Addr} {cs : List Value} (h : RowIs w w.heap.size A cs) (hb : Below w.heap.size w W) : cs ≠ [] → ∃ ad, A = some ad ∧ ∀ j v, cs[j]? = some v → W.cell? (ad.add j) = some v := by
  intro hne
  obtain ⟨g, o, rfl, hg, hc⟩ := h.at (List.length_pos_iff.2 hne)
  refine ⟨_, rfl, fun j v hj => ?_⟩
  rw [Addr.add_lit]
  exact (World.cell?_of_block (w := w) (a := ⟨g, o + j, none⟩) (hb.block g hg)).trans (hc j v hj)
/-- A function's own rows as they are laid. -/
structure ItS (W0 W : World) (f : Cf) (c3 c5 : Value) (tn cn xb tb cb : Nat) : Prop where
  low : Below W0.heap.size W0 W
  hx : W.heap[xb]? = some (.cells #[.string f.name, .int .i64 f.params, .int .i64 f.slots, c3, .int .i64 f.around, c5] 43 (0, 0))
  ht : ∃ ts : List Value, ts.length = tn + 2 ∧ ts.take tn = f.taken.map (Value.int .i64) ∧ W.heap[tb]? = some (.cells ts.toArray 3 (0, 0))
  hc : ∃ cs : List Value, cs.length = (cn + 2) * 5 ∧ cs.take (cn * 5) = f.code.flatMap insCells ∧ W.heap[cb]? = some (.cells cs.toArray 46 (0, 0))
  d : W0.heap.size ≤ xb ∧ W0.heap.size ≤ tb ∧ W0.heap.size ≤ cb ∧ xb ≠ tb ∧ xb ≠ cb ∧ tb ≠ cb
section
variable {W0 W : World} {f : Cf} {c3 c5 : Value} {tn cn xb tb cb : Nat}
theorem ItS.tc (h : ItS W0 W f c3 c5 tn cn xb tb cb) {j : Nat} (hj : j < tn + 2) : (∃ u, W.cell? ⟨tb, j, none⟩ = some u) ∧ W.frozen? ⟨tb, j, none⟩ = false := by
  obtain ⟨cs, h1, _, h2⟩ := h.ht
  have hjl : j < cs.length := by omega
  refine ⟨⟨cs[j], (cell_of_row W tb j _ _ _ h2).trans ?_⟩, frozen_of_row W tb j _ _ h2⟩
  rw [List.getElem?_toArray]
  exact List.getElem?_eq_getElem hjl
theorem ItS.cc (h : ItS W0 W f c3 c5 tn cn xb tb cb) {j : Nat} (hj : j < (cn + 2) * 5) : (∃ u, W.cell? ⟨cb, j, none⟩ = some u) ∧ W.frozen? ⟨cb, j, none⟩ = false := by
  obtain ⟨cs, h1, _, h2⟩ := h.hc
  have hjl : j < cs.length := by omega
  refine ⟨⟨cs[j], (cell_of_row W cb j _ _ _ h2).trans ?_⟩, frozen_of_row W cb j _ _ h2⟩
  rw [List.getElem?_toArray]
  exact List.getElem?_eq_getElem hjl
theorem ItS.xc (h : ItS W0 W f c3 c5 tn cn xb tb cb) : W.cell? ⟨xb, 0, none⟩ = some (.string f.name) ∧ W.cell? ⟨xb, 1, none⟩ = some (.int .i64 f.params) ∧ W.cell? ⟨xb, 2, none⟩ = some (.int .i64 f.slots) ∧ W.cell? ⟨xb, 3, none⟩ = some c3 ∧ W.cell? ⟨xb, 4, none⟩ = some (.int .i64 f.around) ∧ W.cell? ⟨xb, 5, none⟩ = some c5 ∧ W.frozen? ⟨xb, 3, none⟩ = false ∧ W.frozen? ⟨xb, 5, none⟩ = false := by
  have c := fun k => cell_of_row W xb k _ _ _ h.hx
  exact ⟨c 0, c 1, c 2, c 3, c 4, c 5, frozen_of_row W xb 3 _ _ h.hx, frozen_of_row W xb 5 _ _ h.hx⟩
theorem ItS.markT (h : ItS W0 W f c3 c5 tn cn xb tb cb) {j : Nat} (hj : tn ≤ j) (v : Value) : ItS W0 (W.setCell ⟨tb, j, none⟩ v) f c3 c5 tn cn xb tb cb := by
  have hd := h.d
  have hk : ∀ i, i ≠ tb → (W.setCell ⟨tb, j, none⟩ v).heap[i]? = W.heap[i]? := fun i hi => Below.heap_setCell _ _ _ _ hi
  obtain ⟨ts, t1, t2, t3⟩ := h.ht
  obtain ⟨cs, c1, c2, c3'⟩ := h.hc
  refine ⟨h.low.setCell hd.2.1 _, (hk _ (by omega)).trans h.hx, ⟨ts.set j v, by simpa using t1, ?_, set_heap t3 v⟩, ⟨cs, c1, c2, (hk _ (by omega)).trans c3'⟩, hd⟩
  rw [← t2, List.take_set, List.set_eq_of_length_le (by simp; omega)]
theorem ItS.markC (h : ItS W0 W f c3 c5 tn cn xb tb cb) {j : Nat} (hj : cn * 5 ≤ j) (v : Value) : ItS W0 (W.setCell ⟨cb, j, none⟩ v) f c3 c5 tn cn xb tb cb := by
  have hd := h.d
  have hk : ∀ i, i ≠ cb → (W.setCell ⟨cb, j, none⟩ v).heap[i]? = W.heap[i]? := fun i hi => Below.heap_setCell _ _ _ _ hi
  obtain ⟨ts, t1, t2, t3⟩ := h.ht
  obtain ⟨cs, c1, c2, c3'⟩ := h.hc
  refine ⟨h.low.setCell hd.2.2.1 _, (hk _ (by omega)).trans h.hx, ⟨ts, t1, t2, (hk _ (by omega)).trans t3⟩, ⟨cs.set j v, by simpa using c1, ?_, set_heap c3' v⟩, hd⟩
  rw [← c2, List.take_set, List.set_eq_of_length_le (by simp; omega)]
theorem ItS.set3 (h : ItS W0 W f c3 c5 tn cn xb tb cb) (v : Value) : ItS W0 (W.setCell ⟨xb, 3, none⟩ v) f v c5 tn cn xb tb cb := by
  have hd := h.d
  have hk : ∀ i, i ≠ xb → (W.setCell ⟨xb, 3, none⟩ v).heap[i]? = W.heap[i]? := fun i hi => Below.heap_setCell _ _ _ _ hi
  obtain ⟨ts, t1, t2, t3⟩ := h.ht
  obtain ⟨cs, c1, c2, c3'⟩ := h.hc
  exact ⟨h.low.setCell hd.1 _, heap_setCell_same W xb 3 _ _ v h.hx, ⟨ts, t1, t2, (hk _ (by omega)).trans t3⟩, ⟨cs, c1, c2, (hk _ (by omega)).trans c3'⟩, hd⟩
theorem ItS.set5 (h : ItS W0 W f c3 c5 tn cn xb tb cb) (v : Value) : ItS W0 (W.setCell ⟨xb, 5, none⟩ v) f c3 v tn cn xb tb cb := by
  have hd := h.d
  have hk : ∀ i, i ≠ xb → (W.setCell ⟨xb, 5, none⟩ v).heap[i]? = W.heap[i]? := fun i hi => Below.heap_setCell _ _ _ _ hi
  obtain ⟨ts, t1, t2, t3⟩ := h.ht
  obtain ⟨cs, c1, c2, c3'⟩ := h.hc
  exact ⟨h.low.setCell hd.1 _, heap_setCell_same W xb 5 _ _ v h.hx, ⟨ts, t1, t2, (hk _ (by omega)).trans t3⟩, ⟨cs, c1, c2, (hk _ (by omega)).trans c3'⟩, hd⟩
theorem take_at {α : Type} {l xs : List α} {n : Nat} (h : l.take n = xs) {j : Nat} {v : α} (hj : xs[j]? = some v) : l[j]? = some v := by
  have hjn : j < n := by
    have := (List.getElem?_eq_some_iff.1 hj).1
    rw [← h, List.length_take] at this
    omega
  rw [← h, List.getElem?_take, if_pos hjn] at hj
  exact hj
theorem ItS.hi (h : ItS W0 W f c3 c5 tn cn xb tb cb) {lo : Nat} (hlo : lo ≤ W0.heap.size) (ht : f.taken.length = tn) (hc : f.code.length = cn) : LiesHi W lo (f, ⟨some ⟨tb, 0, none⟩, tn + 2, some ⟨cb, 0, none⟩, cn + 2⟩) := by
  have hd := h.d
  obtain ⟨ts, t1, t2, t3⟩ := h.ht
  obtain ⟨cs, c1, c2, c3'⟩ := h.hc
  exact ⟨RowHi.of_block t3 (by omega) fun j v hj => take_at t2 hj, RowHi.of_block c3' (by omega) fun j v hj => take_at c2 hj, by show f.taken.length ≤ tn + 2; omega, by show f.code.length ≤ cn + 2; omega⟩
end
section
variable {w W W' : World} {p : Cp} {n m : Nat} {v0 v1 : Value} {pb rb ob gb fb lo k : Nat} {ys : List (Cf × Fv)}
theorem LtS.put (h : LtS w W p n m v0 v1 pb rb ob gb fb lo k ys) {f : Cf} {fv : Fv} (hf : p.funcs[k]? = some f) (hk : k < n) (hr : LiesHi W lo (f, fv)) :
    LtS w ((((((W.setCell ⟨fb, k * 6, none⟩ (.string f.name)).setCell ⟨fb, k * 6 + 1, none⟩ (.int .i64 f.params)).setCell ⟨fb, k * 6 + 2, none⟩ (.int .i64 f.slots)).setCell ⟨fb, k * 6 + 3, none⟩ (.slice fv.ta f.taken.length fv.tc)).setCell ⟨fb, k * 6 + 4, none⟩ (.int .i64 f.around)).setCell ⟨fb, k * 6 + 5, none⟩ (.slice fv.ca f.code.length fv.cc)) p n m v0 v1 pb rb ob gb fb lo (k + 1) (ys ++ [(f, fv)]) := by
  have hd := h.d
  have hl := h.llo
  obtain ⟨cg, g1, g2, g3⟩ := h.hgb
  obtain ⟨cf, f1, f2, f3⟩ := h.hfb
  have hw : Only fb W ((((((W.setCell ⟨fb, k * 6, none⟩ (.string f.name)).setCell ⟨fb, k * 6 + 1, none⟩ (.int .i64 f.params)).setCell ⟨fb, k * 6 + 2, none⟩ (.int .i64 f.slots)).setCell ⟨fb, k * 6 + 3, none⟩ (.slice fv.ta f.taken.length fv.tc)).setCell ⟨fb, k * 6 + 4, none⟩ (.int .i64 f.around)).setCell ⟨fb, k * 6 + 5, none⟩ (.slice fv.ca f.code.length fv.cc)) :=
    (((((Only.set fb W _ _).trans (Only.set fb _ _ _)).trans (Only.set fb _ _ _)).trans (Only.set fb _ _ _)).trans (Only.set fb _ _ _)).trans (Only.set fb _ _ _)
  have hx := set_heap (j := k * 6 + 5) (set_heap (j := k * 6 + 4) (set_heap (j := k * 6 + 3) (set_heap (j := k * 6 + 2) (set_heap (j := k * 6 + 1) (set_heap (j := k * 6) f3 (.string f.name)) (.int .i64 f.params)) (.int .i64 f.slots)) (.slice fv.ta f.taken.length fv.tc)) (.int .i64 f.around)) (.slice fv.ca f.code.length fv.cc)
  have hr2 : ∀ y, LiesHi W lo y → LiesHi ((((((W.setCell ⟨fb, k * 6, none⟩ (.string f.name)).setCell ⟨fb, k * 6 + 1, none⟩ (.int .i64 f.params)).setCell ⟨fb, k * 6 + 2, none⟩ (.int .i64 f.slots)).setCell ⟨fb, k * 6 + 3, none⟩ (.slice fv.ta f.taken.length fv.tc)).setCell ⟨fb, k * 6 + 4, none⟩ (.int .i64 f.around)).setCell ⟨fb, k * 6 + 5, none⟩ (.slice fv.ca f.code.length fv.cc)) lo y :=
    fun y hy => ⟨hy.1.keep (by rw [hw.size]; exact Nat.le_refl _) fun i hi _ => hw.block i (by omega), hy.2.1.keep (by rw [hw.size]; exact Nat.le_refl _) fun i hi _ => hw.block i (by omega), hy.2.2⟩
  refine ⟨hw.below h.low hd.2.1, h.lp, (hw.block _ (by omega)).trans h.hpb, (hw.block _ (by omega)).trans h.hrb, (hw.block _ (by omega)).trans h.hob, ⟨cg, g1, g2, (hw.block _ (by omega)).trans g3⟩, ⟨_, ?_, ?_, hx⟩, ?_, fun y hy => ?_, by rw [hw.size]; exact hl, hd⟩
  · simpa using f1
  · rw [show (k + 1) * 6 = k * 6 + 6 by omega, take_set6 _ _ _ _ _ _ _ _ (by omega), f2, List.flatMap_append, List.flatMap_cons, List.flatMap_nil, List.append_nil]
    rfl
  · rw [List.map_append, h.yf]
    have hkl := (List.getElem?_eq_some_iff.1 hf).1
    rw [List.take_succ_eq_append_getElem hkl, (List.getElem?_eq_some_iff.1 hf).2]
    rfl
  · rcases List.mem_append.1 hy with hy | hy
    · exact hr2 y (h.rows y hy)
    · rw [List.mem_singleton.1 hy]; exact hr2 _ hr
theorem LtS.final (h : LtS w W p n m v0 v1 pb rb ob gb fb lo n ys) (hn : p.funcs.length = n) (hm : p.globals.length = m) (hs : W'.heap.size = W.heap.size) (hk : ∀ i, i ≠ ob → i ≠ rb → W'.heap[i]? = W.heap[i]?) :
    LiesC W' W'.heap.size p (.agg #[.slice (some ⟨fb, 0, none⟩) n (n + 2), .slice (some ⟨gb, 0, none⟩) m (m + 2)]) := by
  have hd := h.d
  obtain ⟨cg, g1, g2, g3⟩ := h.hgb
  obtain ⟨cf, f1, f2, f3⟩ := h.hfb
  have g4 := (hk gb (by omega) (by omega)).trans g3
  have f4 := (hk fb (by omega) (by omega)).trans f3
  refine ⟨some ⟨fb, 0, none⟩, n + 2, some ⟨gb, 0, none⟩, m + 2, ys, ?_, by rw [hn, hm], (RowHi.of_block (lo := 0) f4 (Nat.zero_le _) fun j v hj => take_at f2 hj).row, (RowHi.of_block (lo := 0) g4 (Nat.zero_le _) fun j v hj => take_at g2 hj).row, by omega, by omega, fun x hx => ?_⟩
  · rw [h.yf, List.take_of_length_le (by omega)]
  · have hr := h.rows x hx
    exact ⟨(hr.1.keep (by omega) fun i hi _ => hk i (by omega) (by omega)).row, (hr.2.1.keep (by omega) fun i hi _ => hk i (by omega) (by omega)).row, hr.2.2⟩
end
end Go.Proofs.YtdjbkppdppdcgaaGreatDoor
