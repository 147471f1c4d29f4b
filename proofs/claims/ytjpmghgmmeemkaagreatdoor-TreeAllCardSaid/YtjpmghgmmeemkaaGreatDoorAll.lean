/- tree.All: the iterator over the nodes of a tree, a node ahead of its kids. -/
import Derived.Test.YtjpmghgmmeemkaaGreatDoorOver
import Derived.Test.YtjpmghgmmeemkaaGreatDoorLay
namespace Go.Proofs.YtjpmghgmmeemkaaGreatDoor
open Go.RowKit Go.Shelf
attribute [local go_sem] Oper.semAt_some

/-- Every block of cells that is not one of g's holds what it held. -/
structure CK (g : Nat → Prop) (A B : World) : Prop where
  os : B.os = A.os
  tape : B.tape = A.tape
  output : B.output = A.output
  size : A.heap.size ≤ B.heap.size
  block : ∀ k o, A.heap[k]? = some o → o.isCells = true → ¬ g k → B.heap[k]? = some o

theorem CK.refl (g : Nat → Prop) (w : World) : CK g w w := ⟨rfl, rfl, rfl, Nat.le_refl _, fun _ _ h _ _ => h⟩
theorem CK.trans {g : Nat → Prop} {a b c : World} (h : CK g a b) (k : CK g b c) : CK g a c :=
  ⟨k.os.trans h.os, k.tape.trans h.tape, k.output.trans h.output, Nat.le_trans h.size k.size, fun i o hi ho hg => k.block i o (h.block i o hi ho hg) ho hg⟩
theorem CK.of {g : Nat → Prop} {a b : World} (h : Below a.heap.size a b) : CK g a b :=
  ⟨h.os, h.tape, h.output, h.size, fun i _o hi _ _ => (h.block i (Array.getElem?_eq_some_iff.1 hi).1).trans hi⟩
theorem CK.grown {g : Nat → Prop} {a b : World} {row : Option Nat} (h : a.grownBy b row) (hr : ∀ k, row = some k → ∃ o, a.heap[k]? = some o ∧ o.isCells = false) : CK g a b :=
  ⟨h.os, h.tape, h.output, h.size, fun i o hi ho _ => (h.block i (Array.getElem?_eq_some_iff.1 hi).1 (fun e => by
    obtain ⟨o', h1, h2⟩ := hr i e.symm
    rw [hi] at h1; cases h1; rw [ho] at h2; cases h2)).trans hi⟩
theorem CK.alloc {g : Nat → Prop} {a b : World} (h : CK g a b) (o : Obj) : CK g a (b.alloc o) := h.trans (CK.grown (World.grownBy_alloc b o none) (fun _ e => by cases e))
theorem CK.set {g : Nat → Prop} {a b : World} (h : CK g a b) {p : Addr} (hp : g p.block) (v : Value) : CK g a (b.setCell p v) :=
  h.trans ⟨rfl, rfl, rfl, by simp, fun k o hk _ hg => (Below.heap_setCell b p v k (fun e => hg (by rw [e]; exact hp))).trans hk⟩
theorem CK.putObj {g : Nat → Prop} {w : World} (W : World) (l : Nat) (o o' : Obj) (_ : w.heap.size ≤ l) (h : W.heap[l]? = some o) (hc : o.isCells = false) (_ : o.isWalk = false) : CK g W (W.putObj l o') :=
  CK.grown (grownBy_putObj' W l o') (fun k e => by cases e; exact ⟨o, h, hc⟩)
theorem cell_isCells {w : World} {p : Addr} {v : Value} (h : w.cell? p = some v) : ∃ o, w.heap[p.block]? = some o ∧ o.isCells = true := by
  unfold World.cell? at h
  split at h
  · exact ⟨_, by assumption, rfl⟩
  · simp at h
theorem CK.cell {g : Nat → Prop} {a b : World} (h : CK g a b) {p : Addr} {v : Value} (hv : a.cell? p = some v) (hg : ¬ g p.block) : b.cell? p = some v := by
  obtain ⟨o, h1, h2⟩ := cell_isCells hv
  exact (World.cell?_of_block (w := a) ((h.block _ _ h1 h2 hg).trans h1.symm)).trans hv

def Tl.encs (x : Tl) : Array Value := #[.int .i64 x.deep, .agg #[.int .i64 x.k, .string x.s, .int .i64 x.n, .int .i64 x.a, .slice none 0 0]]

theorem tlCells_get : ∀ (l : List Tl) (j i : Nat) (x : Tl), l[j]? = some x → i < 6 → (tlCells l)[j * 6 + i]? = x.cells[i]?
  | [], j, i, x, h, _ => by simp at h
  | y :: l, 0, i, x, h, hi => by
    simp at h; subst h
    have : i < y.cells.length := by simpa [Tl.cells] using hi
    simp only [tlCells, List.flatMap_cons, Nat.zero_mul, Nat.zero_add]
    rw [List.getElem?_append_left this]
  | y :: l, j + 1, i, x, h, hi => by
    have := tlCells_get l j i x (by simpa using h) hi
    have hl : y.cells.length = 6 := rfl
    simp only [tlCells, List.flatMap_cons] at this ⊢
    rw [List.getElem?_append_right (by rw [hl]; omega), hl, show (j + 1) * 6 + i - 6 = j * 6 + i from by omega]
    exact this

set_option maxRecDepth 100000 in
set_option maxHeartbeats 2000000 in
theorem all1_in (n : Nat) (hn : 1 ≤ n) (l Bn : Nat) (g : Nat → Prop) (k : Int) (s : ByteArray) (nn a : Int) (A : Option Addr) (cap : Nat) (ks : List Nd) (J Jx : List Tl → World → Prop)
    (hY : ∀ pre x W, J pre W → pre.length < 1000000 → YieldAt Fence.wide (n - 1) Tryz.prog l (Tl.encs x) W fun e W' =>
      (e = .returned (.bool true) ∧ J (pre ++ [x]) W' ∧ CK g W W') ∨ (e = .returned (.bool false) ∧ Jx (pre ++ [x]) W'))
    (W : World) (hJ : AbidesFrom W.heap.size J) (hg : ∀ k, g k → k < W.heap.size)
    (c0 : W.cell? ⟨Bn, 0, none⟩ = some (.int .i64 k)) (c1 : W.cell? ⟨Bn, 1, none⟩ = some (.string s)) (c2 : W.cell? ⟨Bn, 2, none⟩ = some (.int .i64 nn)) (c3 : W.cell? ⟨Bn, 3, none⟩ = some (.int .i64 a)) (c4 : W.cell? ⟨Bn, 4, none⟩ = some (.slice A ks.length cap))
    (hl : Lies W W.heap.size (.mk k s nn a ks) (.agg #[.int .i64 k, .string s, .int .i64 nn, .int .i64 a, .slice A ks.length cap])) (h0 : J [] W) :
    CallsIn Fence.wide n Tryz.prog 34 #[.func (.yield l) #[] #[], .pointer (some ⟨Bn, 0, none⟩)] W fun e W' => (∃ v, e = .returned v) ∧
      ((∃ xs, xs = (Nd.mk k s nn a ks).lay 1000000 0 1 ∧ J xs W') ∨ (∃ pre, (∃ j, pre = ((Nd.mk k s nn a ks).lay 1000000 0 1).take j) ∧ Jx pre W')) := by
  have HLAY := Lib.hid (lay_any (.mk k s nn a ks) _ (.slice none 0 0) [] 1 W.heap.size W hl (Nat.le_refl _) (World.ownsRow_nil _ _ _ _) (Nat.zero_le _) (by omega) (by simp))
  obtain ⟨L, hL⟩ : ∃ L, (Nd.mk k s nn a ks).lay 1000000 0 1 = L := ⟨_, rfl⟩
  have hLl : (L.length : Int) ≤ 1000000 := by
    have := Nd.lay_length (most := 1000000) (Nd.mk k s nn a ks) 0 1 (by omega)
    rw [hL] at this; omega
  simp only [List.nil_append, List.length_nil] at HLAY
  rw [hL] at HLAY ⊢
  clear hl hL
  have HY := Lib.hid hY
  have HJ := Lib.hid hJ
  have H0 := Lib.hid h0
  clear hY hJ h0
  refine callsIn_of_wp Tryz.func34 rfl trivial ?_ rfl
  simp only [Tryz.ntmps34, List.size_toArray, List.length_cons, List.length_nil, Nat.reduceAdd, Nat.reduceSub, Array.replicate_succ, Array.replicate_zero, List.push_toArray, List.append_toArray, List.nil_append, List.cons_append]
  gi_wp2_with (refine ⟨trivial, ?_⟩; gi_at_call 35; refine (callsIn_wide.2 HLAY.out).mono ?_; clear HLAY; rintro e W1 ⟨v1, rfl, ho, hb1⟩; obtain ⟨A1, cap1, rfl, hc1, hc2⟩ := row_form ho)
  have HO := Lib.hid ho
  clear ho c0 c1 c2 c3 c4
  gi_loopw [8] (fun i wr => ∃ j : Nat, j ≤ L.length ∧ i = .int .i64 j ∧ Hid (J (L.take j) wr) ∧ CK g W1 wr)
    (fun i _ => L.length - (intOf i).toNat)
  case atStart => exact ⟨0, Nat.zero_le _, rfl, Lib.hid (by simpa using HJ.out _ _ _ none H0.out ⟨hb1.os, hb1.tape, hb1.output, hb1.size, fun k hk _ => hb1.block k hk⟩ (fun _ e => by cases e)), CK.refl _ _⟩
  case round =>
    obtain ⟨j, hj, rfl, hJs, hck⟩ := hrel
    by_cases hlt : j < L.length
    · obtain ⟨b, rfl, hb2, hb3⟩ := row_some HO.out (by omega)
      have hng : ¬ g b := fun e => by have := hg b e; omega
      obtain ⟨x, hx⟩ : ∃ x, L[j]? = some x := ⟨L[j], List.getElem?_eq_getElem hlt⟩
      have hcl : ∀ i v, x.cells[i]? = some v → wr.cell? ⟨b, j * 6 + i, none⟩ = some v := fun i v hi => by
        have hi6 : i < 6 := by have := (List.getElem?_eq_some_iff.1 hi).1; simpa [Tl.cells] using this
        have h1 := HO.out.cells (g := b) rfl (j * 6 + i) v (by rw [tlCells_get L j i x hx hi6]; exact hi)
        have h2 : W1.cell? ⟨b, j * 6 + i, none⟩ = some v := by
          have e : (⟨b, 0, none⟩ : Addr).add (j * 6 + i) = ⟨b, j * 6 + i, none⟩ := by unfold Addr.add; split <;> simp_all
          rw [e] at h1; exact h1
        exact hck.cell h2 hng
      have d0 : wr.cell? ⟨b, j * 6, none⟩ = some (.int .i64 x.deep) := hcl 0 _ rfl
      have d1 : wr.cell? ⟨b, j * 6 + 1, none⟩ = some (.int .i64 x.k) := hcl 1 _ rfl
      have d2 : wr.cell? ⟨b, j * 6 + 2, none⟩ = some (.string x.s) := hcl 2 _ rfl
      have d3 : wr.cell? ⟨b, j * 6 + 3, none⟩ = some (.int .i64 x.n) := hcl 3 _ rfl
      have d4 : wr.cell? ⟨b, j * 6 + 4, none⟩ = some (.int .i64 x.a) := hcl 4 _ rfl
      have d5 : wr.cell? ⟨b, j * 6 + 5, none⟩ = some (.slice none 0 0) := hcl 5 _ rfl
      have hx' : L.take j ++ [x] = L.take (j + 1) := by rw [List.take_add_one, hx]; rfl
      have hyx := HY.out (L.take j) x (wr.alloc (.cells #[.int .i64 x.deep, .int .i64 x.k, .string x.s, .int .i64 x.n, .int .i64 x.a, .slice none 0 0] 78)) (HJ.out _ _ _ none hJs.out (World.grownBy_alloc _ _ none) (fun _ e => by cases e)) (by simp; omega)
      rw [hx'] at hyx
      unfold Tl.encs at hyx
      obtain ⟨fn, tmps, assign, body, hy, hR⟩ := hyx
      have HXX := Lib.hid hx
      clear hx hx' hcl hJs
      gi_wp2
      refine hR.mono ?_
      rintro e W3 (⟨rfl, hJ3, hk3⟩ | ⟨rfl, hJx3⟩)
      · have HJ3 := Lib.hid hJ3
        clear hJ3
        gi_wp2
        go_roundw
        case rel => exact ⟨j + 1, by omega, by go_num, HJ3, (hck.alloc _).trans hk3⟩
        case measure => simp [intOf]; omega
      · have HJ3 := Lib.hid hJx3
        clear hJx3
        gi_wp2
        refine bodyPost_ret (results_none rfl _ _ _) rfl ?_
        exact ⟨⟨_, rfl⟩, .inr ⟨_, ⟨j + 1, rfl⟩, HJ3.out⟩⟩
    · obtain rfl : j = L.length := by omega
      have hJs' := hJs.out
      rw [List.take_length] at hJs'
      have HJ3 := Lib.hid hJs'
      clear hJs hJs'
      gi_wp2
      go_end0
      exact ⟨⟨_, rfl⟩, .inl ⟨_, rfl, HJ3.out⟩⟩

/-- THE ITERATOR: all nodes; or the first of them. -/
theorem all_stops (n : Nat) (hn : 1 ≤ n) (Bn : Nat) (g : Nat → Prop) (k : Int) (s : ByteArray) (nn a : Int) (A : Option Addr) (cap : Nat) (ks : List Nd) (w : World) (hg : ∀ k, g k → k < w.heap.size)
    (c0 : w.cell? ⟨Bn, 0, none⟩ = some (.int .i64 k)) (c1 : w.cell? ⟨Bn, 1, none⟩ = some (.string s)) (c2 : w.cell? ⟨Bn, 2, none⟩ = some (.int .i64 nn)) (c3 : w.cell? ⟨Bn, 3, none⟩ = some (.int .i64 a)) (c4 : w.cell? ⟨Bn, 4, none⟩ = some (.slice A ks.length cap))
    (hl : Lies w w.heap.size (.mk k s nn a ks) (.agg #[.int .i64 k, .string s, .int .i64 nn, .int .i64 a, .slice A ks.length cap])) :
    SeqStopsK Fence.wide n Tryz.prog 34 #[.pointer (some ⟨Bn, 0, none⟩)] Tl.encs (CK g) (fun ys => ys = (Nd.mk k s nn a ks).lay 1000000 0 1) (fun pre => ∃ j, pre = ((Nd.mk k s nn a ks).lay 1000000 0 1).take j) 1000000 w := fun l J Jx W hW hJ _ hY h0 => by
  have hB := World.block_lt_of_cell? w _ c0
  have e : ∀ i, W.cell? ⟨Bn, i, none⟩ = w.cell? ⟨Bn, i, none⟩ := fun i => hW.cell (p := ⟨Bn, i, none⟩) hB
  exact all1_in n hn l Bn g k s nn a A cap ks J Jx hY W hJ (fun i hi => Nat.lt_of_lt_of_le (hg i hi) hW.size) ((e 0).trans c0) ((e 1).trans c1) ((e 2).trans c2) ((e 3).trans c3) ((e 4).trans c4) (hl.up hW) h0

set_option maxRecDepth 100000 in
theorem All_any (k : Int) (s : ByteArray) (n a : Int) (A : Option Addr) (len cap : Nat) (w : World) :
    Calls Tryz.prog 20 #[.agg #[.int .i64 k, .string s, .int .i64 n, .int .i64 a, .slice A len cap]] w fun e w' =>
      e = .returned (.func (.func 34) #[] #[.pointer (some ⟨w.heap.size, 0, none⟩)]) ∧ w' = w.alloc (.cells #[.int .i64 k, .string s, .int .i64 n, .int .i64 a, .slice A len cap] 24) := by
  go_enter Tryz.func20, Tryz.ntmps20
  go_wp2
  go_ret
  exact ⟨rfl, rfl⟩
end Go.Proofs.YtjpmghgmmeemkaaGreatDoor
