/- guiselaw2.TreeMore: the walk. -/
import Derived.Test.YtjpmghgmmeemkaaGreatDoorAll
import Derived.Test.YtjpmghgmmeemkaaGreatDoorTop
import Derived.Test.YtjpmghgmmeemkaaGreatDoorKids
namespace Go.Proofs.YtjpmghgmmeemkaaGreatDoor
open Go.RowKit Go.Shelf
attribute [local go_sem] Oper.semAt_some

/-- The walk's frame: the argument in its box, the result in its own. -/
structure MF (k : Int) (s : ByteArray) (n a : Int) (A : Option Addr) (cap : Nat) (ks : List Nd) (w W : World) : Prop where
  size : w.heap.size + 2 ≤ W.heap.size
  below : Below w.heap.size w W
  lies : Lies W w.heap.size (.mk k s n a ks) (.agg #[.int .i64 k, .string s, .int .i64 n, .int .i64 a, .slice A ks.length cap])
  b0 : W.heap[w.heap.size]? = some (.cells #[.int .i64 k, .string s, .int .i64 n, .int .i64 a, .slice A ks.length cap] 24 (0, 0))
  b1 : Boxed W (w.heap.size + 1) 4 (.bool false)

section
variable {k : Int} {s : ByteArray} {n a : Int} {A : Option Addr} {cap : Nat} {ks : List Nd} {w W W' : World}
theorem MF.init (h : Lies w w.heap.size (.mk k s n a ks) (.agg #[.int .i64 k, .string s, .int .i64 n, .int .i64 a, .slice A ks.length cap])) :
    MF k s n a A cap ks w ((w.alloc (.cells #[.int .i64 k, .string s, .int .i64 n, .int .i64 a, .slice A ks.length cap] 24)).alloc (.cells #[.bool false] 4)) := by
  have hb : Below w.heap.size w ((w.alloc (.cells #[.int .i64 k, .string s, .int .i64 n, .int .i64 a, .slice A ks.length cap] 24)).alloc (.cells #[.bool false] 4)) := ((Below.refl _ _).alloc (Nat.le_refl _) _).alloc (by simp) _
  refine ⟨by simp, hb, h.below hb, ?_, ?_⟩
  · rw [heap_alloc_old _ _ _ (by simp)]; exact heap_alloc_new w _
  · have := heap_alloc_new (w.alloc (.cells #[.int .i64 k, .string s, .int .i64 n, .int .i64 a, .slice A ks.length cap] 24)) (.cells #[.bool false] 4)
    simpa [Boxed] using this
theorem MF.step (h : MF k s n a A cap ks w W) {C : Nat} (hb : Below C W W') (hC : w.heap.size + 2 ≤ C) : MF k s n a A cap ks w W' :=
  ⟨Nat.le_trans h.size hb.size, h.below.trans (hb.mono (by omega)), h.lies.below (hb.mono (by omega)), (hb.block _ (by omega)).trans h.b0, (hb.block _ (by omega)).trans h.b1⟩
theorem MF.after (h : MF k s n a A cap ks w W) (hb : Below W.heap.size W W') : MF k s n a A cap ks w W' := h.step hb h.size
theorem MF.alloc (h : MF k s n a A cap ks w W) (o : Obj) : MF k s n a A cap ks w (W.alloc o) := h.after ((Below.refl _ _).alloc (Nat.le_refl _) _)
theorem MF.top (h : MF k s n a A cap ks w W) : Lies W W.heap.size (.mk k s n a ks) (.agg #[.int .i64 k, .string s, .int .i64 n, .int .i64 a, .slice A ks.length cap]) := h.lies.more (by have := h.size; omega)
theorem MF.cells (h : MF k s n a A cap ks w W) : W.cell? ⟨w.heap.size, 0, none⟩ = some (.int .i64 k) ∧ W.cell? ⟨w.heap.size, 1, none⟩ = some (.string s) ∧ W.cell? ⟨w.heap.size, 2, none⟩ = some (.int .i64 n) ∧ W.cell? ⟨w.heap.size, 3, none⟩ = some (.int .i64 a) ∧ W.cell? ⟨w.heap.size, 4, none⟩ = some (.slice A ks.length cap) ∧
    W.cell? ⟨w.heap.size + 1, 0, none⟩ = some (.bool false) ∧ W.frozen? ⟨w.heap.size + 1, 0, none⟩ = false := by
  refine ⟨?_, ?_, ?_, ?_, ?_, h.b1.cell, h.b1.frozen⟩ <;> exact cell_of_row W _ _ _ _ _ h.b0
end

/-- The frame behind the loop: the counter, the second node. -/
structure MG (k : Int) (s : ByteArray) (n a : Int) (A : Option Addr) (cap : Nat) (ks : List Nd) (c : Int) (Bi Bm D : Nat) (KV : Value) (w W : World) : Prop where
  mf : MF k s n a A cap ks w W
  i : Boxed W Bi 3 (.int .i64 c)
  m : W.heap[Bm]? = some (.cells #[.int .i64 k, .string s, .int .i64 n, .int .i64 a, KV] 24 (0, 0))
  d : W.heap[D]? = some (.deferred (some []))
  o1 : w.heap.size + 2 ≤ Bi
  o2 : Bi < Bm
  o3 : D < Bm
  o4 : w.heap.size + 2 ≤ D
section
variable {k : Int} {s : ByteArray} {n a : Int} {A : Option Addr} {cap : Nat} {ks : List Nd} {c : Int} {Bi Bm D : Nat} {KV : Value} {w W W' : World}
theorem MG.lt (h : MG k s n a A cap ks c Bi Bm D KV w W) : Bm < W.heap.size := (Array.getElem?_eq_some_iff.1 h.m).1
theorem MG.grown (h : MG k s n a A cap ks c Bi Bm D KV w W) {row : Option Nat} (hg : W.grownBy W' row) (hr : ∀ j, row = some j → Bm < j) : MG k s n a A cap ks c Bi Bm D KV w W' := by
  have h1 := h.o1
  have h2 := h.o2
  have h3 := h.o3
  have h5 := h.o4
  have h4 := h.lt
  have hb : ∀ j, j ≤ Bm → W'.heap[j]? = W.heap[j]? := fun j hj => hg.block j (by omega) (fun e => by have := hr j e.symm; omega)
  exact ⟨h.mf.step (C := w.heap.size + 2) ⟨hg.os, hg.tape, hg.output, hg.size, fun j hj => hb j (by omega)⟩ (Nat.le_refl _), (hb _ (by omega)).trans h.i, (hb _ (Nat.le_refl _)).trans h.m, (hb _ (by omega)).trans h.d, h1, h2, h3, h5⟩
theorem MG.alloc (h : MG k s n a A cap ks c Bi Bm D KV w W) (o : Obj) : MG k s n a A cap ks c Bi Bm D KV w (W.alloc o) := h.grown (World.grownBy_alloc W o none) (fun _ e => by cases e)
theorem MG.after (h : MG k s n a A cap ks c Bi Bm D KV w W) (hb : Below W.heap.size W W') : MG k s n a A cap ks c Bi Bm D KV w W' := h.grown (row := none) ⟨hb.os, hb.tape, hb.output, hb.size, fun k hk _ => hb.block k hk⟩ (fun _ e => by cases e)
theorem MG.set (h : MG k s n a A cap ks c Bi Bm D KV w W) (v : Value) : MG k s n a A cap ks c Bi Bm D v w (W.setCell ⟨Bm, 4, none⟩ v) := by
  have h1 := h.o1
  have h2 := h.o2
  have h3 := h.o3
  have h5 := h.o4
  have hb : ∀ j, j ≠ Bm → (W.setCell ⟨Bm, 4, none⟩ v).heap[j]? = W.heap[j]? := fun j hj => Below.heap_setCell _ _ _ _ hj
  exact ⟨h.mf.step (C := w.heap.size + 2) ((Below.refl _ _).setCell (p := ⟨Bm, 4, none⟩) (by simp; omega) v) (Nat.le_refl _), (hb _ (by omega)).trans h.i, heap_setCell_same W Bm 4 _ _ v h.m, (hb _ (by omega)).trans h.d, h1, h2, h3, h5⟩
theorem MG.cells (h : MG k s n a A cap ks c Bi Bm D KV w W) : W.cell? ⟨Bm, 0, none⟩ = some (.int .i64 k) ∧ W.cell? ⟨Bm, 1, none⟩ = some (.string s) ∧ W.cell? ⟨Bm, 2, none⟩ = some (.int .i64 n) ∧ W.cell? ⟨Bm, 3, none⟩ = some (.int .i64 a) ∧ W.cell? ⟨Bm, 4, none⟩ = some KV ∧ W.frozen? ⟨Bm, 4, none⟩ = false ∧
    W.cell? ⟨Bi, 0, none⟩ = some (.int .i64 c) := by
  refine ⟨?_, ?_, ?_, ?_, ?_, ?_, h.i.cell⟩
  · exact cell_of_row W _ _ _ _ _ h.m
  · exact cell_of_row W _ _ _ _ _ h.m
  · exact cell_of_row W _ _ _ _ _ h.m
  · exact cell_of_row W _ _ _ _ _ h.m
  · exact cell_of_row W _ _ _ _ _ h.m
  · simp [World.frozen?, h.m]
end

def leafC : List Value := [.int .i64 16, .string ⟨#[]⟩, .int .i64 0, .int .i64 0, .slice none 0 0]
theorem leaf_one : ∀ u ∈ leafC, u.oneCell' = true := by
  intro u hu
  simp only [leafC, List.mem_cons, List.not_mem_nil, or_false] at hu
  rcases hu with rfl | rfl | rfl | rfl | rfl <;> rfl
theorem leaf_news (W : World) : ∀ j u, leafC[j]? = some u → (W.alloc (.cells #[.int .i64 16, .string ⟨#[]⟩, .int .i64 0, .int .i64 0, .slice none 0 0] 24)).cell? ((⟨W.heap.size, 0, none⟩ : Addr).add j) = some u := by
  intro j u hj
  have hj' : j < 5 := by have := (List.getElem?_eq_some_iff.1 hj).1; simpa [leafC] using this
  unfold leafC at hj
  have e : j = 0 ∨ j = 1 ∨ j = 2 ∨ j = 3 ∨ j = 4 := by omega
  rcases e with rfl | rfl | rfl | rfl | rfl <;> simpa [Addr.add] using hj
theorem leaf_lies (W : World) (B : Nat) : LiesC W B [.mk 16 ⟨#[]⟩ 0 0 []] leafC := by
  refine ⟨?_, trivial⟩
  unfold Lies
  exact ⟨none, 0, rfl, by unfold okI; omega, by unfold okI; omega, by unfold okI; omega, by decide, by simp, by omega, .inl rfl⟩

theorem row_set_alloc {W : World} {B e sz m : Nat} {v : Value} {xs : List Value} (h : W.ownsRow B e sz v m xs) (b i : Nat) (x : Value) (hb : b < B) (o : Obj) : ((W.setCell ⟨b, i, none⟩ x).alloc o).ownsRow B e sz v m xs := by
  have hg : W.grownBy (W.setCell ⟨b, i, none⟩ x) (some b) := ⟨rfl, rfl, rfl, by simp, fun k _ hne => Below.heap_setCell _ _ _ _ (fun e => hne (by rw [e]))⟩
  refine (h.kept hg ?_).alloc o
  cases hv : v.ownBlock with
  | none => exact .inl rfl
  | some j => right; intro e; have := (h.lt j hv).1; simp at e; omega
theorem more_C {W : World} {Bm C : Nat} {ts : List Nd} {cs : List Value} (h : LiesC W C ts cs) (hC : C + 2 ≤ W.heap.size) (_hB : Bm < W.heap.size) (hCB : C ≤ Bm) (v : Value) (o : Obj) : LiesC ((W.setCell ⟨Bm, 4, none⟩ v).alloc o) C ts cs :=
  h.below (((Below.refl C W).setCell (p := ⟨Bm, 4, none⟩) hCB v).alloc (by simp; omega) o) (Nat.le_refl _)
def Three (k : Int) (s u : ByteArray) (n a : Int) (A A2 : Option Addr) (cap cap2 : Nat) (ks : List Nd) (W : World) : Prop :=
  Lies W W.heap.size (.mk k s n a ks) (.agg #[.int .i64 k, .string s, .int .i64 n, .int .i64 a, .slice A ks.length cap]) ∧
  Lies W W.heap.size (.mk k s n a (ks ++ [.mk 16 ⟨#[]⟩ 0 0 []])) (.agg #[.int .i64 k, .string s, .int .i64 n, .int .i64 a, .slice A2 (ks.length + 1) cap2]) ∧
  LiesT W W.heap.size (.mk k (s ++ u) n a ks) (.agg #[.int .i64 k, .string (s ++ u), .int .i64 n, .int .i64 a, .slice A ks.length cap])
theorem lies_three_up {k : Int} {s u : ByteArray} {n a : Int} {A A2 : Option Addr} {cap cap2 : Nat} {ks : List Nd} {W W' : World} (h : Three k s u n a A A2 cap cap2 ks W) (hb : Below W.heap.size W W') : Three k s u n a A A2 cap cap2 ks W' :=
  ⟨h.1.up hb, h.2.1.up hb, h.2.2.up hb⟩
theorem more_lies {k : Int} {s : ByteArray} {n a : Int} {A A2 : Option Addr} {cap cap2 B : Nat} {ks : List Nd} {c : Int} {Bi Bm D : Nat} {KV : Value} {w W W0 : World} {cs : List Value} (h : MG k s n a A cap ks c Bi Bm D KV w W)
    (hl : Lies W0 w.heap.size (.mk k s n a ks) (.agg #[.int .i64 k, .string s, .int .i64 n, .int .i64 a, .slice A ks.length cap]))
    (ho : W.ownsRow B 24 5 (.slice A2 (ks.length + 1) cap2) (ks.length + 1) (cs ++ leafC)) (hc : LiesC W w.heap.size (ks ++ [.mk 16 ⟨#[]⟩ 0 0 []]) (cs ++ leafC)) (h1 : ks.length + 1 ≤ cap2) (h2 : cap2 ≤ 9223372036854775807) (u : ByteArray) : Three k s u n a A A2 cap cap2 ks W := by
  have hsz := h.mf.size
  refine ⟨h.mf.top, ?_, ?_⟩
  · unfold Lies at hl ⊢
    obtain ⟨_, _, _, i1, i2, i3, i4, _⟩ := hl
    have hlen : (ks ++ [Nd.mk 16 ⟨#[]⟩ 0 0 []]).length = ks.length + 1 := by simp
    refine ⟨A2, cap2, by rw [hlen], i1, i2, i3, i4, by rw [hlen]; exact h1, h2, ?_⟩
    have := row_lies (w := W) (B := B) (C := w.heap.size) (ts := ks ++ [Nd.mk 16 ⟨#[]⟩ 0 0 []]) (A := A2) (cap := cap2) (by rw [hlen]; exact ho) hc
    exact this.imp id (fun ⟨b, o, e1, e2, e3⟩ => ⟨b, o, e1, e2, e3.more (by omega)⟩)
  · have ht := h.mf.top
    unfold Lies at ht
    unfold LiesT
    obtain ⟨A', cap', e, i1, i2, i3, i4, i5, i6, i7⟩ := ht
    simp only [Value.agg.injEq, Array.mk.injEq, List.cons.injEq, Value.slice.injEq, and_true, true_and] at e
    obtain ⟨rfl, rfl⟩ := e
    exact ⟨A, cap, rfl, i1, i2, i3, i5, i6, i7⟩

theorem run_eql_funcNil (f : Fn) (a c : Array Value) (w : World) : (binOp .eql 46 (.func f a c) .nilFunc).run Tryz.prog w = .ok (.bool false) w := by
  have h := Tryz.underlying46
  unfold binOp Op.equal Op.maxDepth Op.equalIn
  simp [Sem.run_bind, run_underlying h]
attribute [local go_sem] run_eql_funcNil

/-- How deep the i-th may be said to be. -/
def deepB (i : Nat) (x : Tl) : Prop := 1 ≤ x.deep ∧ (i = 0 → x.deep = 1) ∧ (0 < i → x.deep ≠ 1)

def MorI (W3 : World) (Bi : Nat) (pre : List Tl) (W : World) : Prop := Foot W3.heap.size (fun j => j = Bi) W3 W ∧ Boxed W Bi 3 (.int .i64 pre.length) ∧ ∀ i x, pre[i]? = some x → deepB i x
def MorX (c : Code) (pre : List Tl) (_ : World) : Prop := c = .ret ∧ ∃ ps x, pre = ps ++ [x] ∧ ¬ deepB ps.length x
theorem MorI.own {W3 : World} {Bi : Nat} (h : Bi < W3.heap.size) : OwnFrom W3.heap.size (MorI W3 Bi) := by
  rintro pre W W' row ⟨h1, h2, h3⟩ hg hr
  exact ⟨h1.grown hg h1.size (fun j e => (hr j e).1), h2.kept hg (fun e => by have := (hr _ e.symm).1; omega), h3⟩
theorem MorX.own {B : Nat} (c : Code) : OwnFrom B (MorX c) := fun _ _ _ _ h _ _ => h

theorem more_bad {H Bi : Nat} {W : World} {pre : List Tl} {x : Tl} (p : Addr) {v : Value} {a : Act} {W3 : World} (h : ¬ deepB pre.length x) :
    ownPostG H (CK fun j => j = Bi) (MorI W3 Bi) MorX (pre ++ [x]) W .ret a (W.setCell p v) :=
  ⟨(KeepsOthers.setCell _ _ _).from _, rfl, pre, x, rfl, h⟩
theorem more_good {H Bi m : Nat} {W : World} {pre : List Tl} {x : Tl} {v : Value} {a : Act} {W3 : World} (hf : Foot W3.heap.size (fun j => j = Bi) W3 W) (hb : Boxed W Bi 3 (.int .i64 m))
    (hp : ∀ i x, pre[i]? = some x → deepB i x) (hm : pre.length = m) (_hBi : Bi < W3.heap.size) (hv : v = .int .i64 (m + 1)) (h : deepB pre.length x) :
    ownPostG H (CK fun j => j = Bi) (MorI W3 Bi) MorX (pre ++ [x]) W .normal a (W.setCell ⟨Bi, 0, none⟩ v) := by
  subst hv hm
  refine ⟨(KeepsOthers.setCell _ _ _).from _, CK.set (g := fun j => j = Bi) (CK.refl _ _) (p := ⟨Bi, 0, none⟩) rfl _, hf.set (p := ⟨Bi, 0, none⟩) (.inr rfl) _, by simpa using hb.set (.int .i64 ((pre.length : Int) + 1)), ?_⟩
  intro i y hi
  by_cases hlt : i < pre.length
  · rw [List.getElem?_append_left hlt] at hi
    exact hp i y hi
  · rw [List.getElem?_append_right (by omega)] at hi
    have h0 : i - pre.length = 0 := by
      have := (List.getElem?_eq_some_iff.1 hi).1; simp at this; omega
    rw [h0] at hi
    simp at hi
    subst hi
    rw [show i = pre.length from by omega]
    exact h

theorem lay_deepB (t : Nd) (i : Nat) (x : Tl) (h : (t.lay 1000000 0 1)[i]? = some x) : deepB i x := by
  obtain ⟨a, b, c⟩ := Nd.lay_deeps t 1 i x h
  exact ⟨a, b, fun e => by have := c e; omega⟩
theorem sizeL_ge : ∀ ts : List Nd, ts.length ≤ sizeL ts
  | [] => by simp
  | t :: ts => by
    have := sizeL_ge ts
    have := Nd.size_pos t
    unfold sizeL
    simp only [List.length_cons]; omega

theorem more_count (k : Int) (s : ByteArray) (n a : Int) (ks : List Nd) (left c : Int) (h0 : 0 ≤ left) (h : (Nd.mk k s n a ks).count left = c) (hc : c < left) : (Nd.mk k s n a (ks ++ [.mk 16 ⟨#[]⟩ 0 0 []])).count left = c + 1 := by
  have h1 := Nd.count_size (Nd.mk k s n a ks) left h0
  have h2 := Nd.count_size (Nd.mk k s n a ks).more left h0
  have h3 := Nd.more_size (Nd.mk k s n a ks)
  simp only [Nd.more] at h2 h3
  omega

theorem more_result (tmps : Array Value) (W : World) (g : Nat) (v : Value) (h8 : tmps.getD 4 undef = .pointer (some ⟨g, 0, none⟩)) (hc : W.cell? ⟨g, 0, none⟩ = some v) :
    (results Tryz.f6 tmps).run Tryz.prog W = .ok v W := by
  have h8' : tmps[4]?.getD undef = .pointer (some ⟨g, 0, none⟩) := by simpa using h8
  simp [results, Tryz.f6, go_sem, h8', hc]

theorem more_leaf {k : Int} {s : ByteArray} {n a : Int} {A : Option Addr} {cap : Nat} {ks : List Nd} {w W : World} (fr : MF k s n a A cap ks w W) (tmps : Array Value) (h4 : tmps.getD 4 undef = .pointer (some ⟨w.heap.size + 1, 0, none⟩)) :
    bodyPostM Fence.wide 6 Tryz.prog Tryz.f6 (fun e w' => e = .returned (.bool true) ∧ Below w.heap.size w w') .ret { tmps := tmps, defers := [] } (W.setCell ⟨w.heap.size + 1, 0, none⟩ (.bool true)) :=
  ⟨_, more_result _ _ _ _ h4 (fr.b1.set (.bool true)).cell, rfl, fr.below.setCell (p := ⟨w.heap.size + 1, 0, none⟩) (by simp) _⟩

theorem more_done {k : Int} {s : ByteArray} {n a : Int} {A : Option Addr} {cap : Nat} {ks : List Nd} {c : Int} {Bi Bm D : Nat} {KV : Value} {w W : World} (h : MG k s n a A cap ks c Bi Bm D KV w W) (tmps : Array Value) (h4 : tmps.getD 4 undef = .pointer (some ⟨w.heap.size + 1, 0, none⟩)) :
    bodyPostM Fence.wide 6 Tryz.prog Tryz.f6 (fun e w' => e = .returned (.bool true) ∧ Below w.heap.size w w') .ret { tmps := tmps, defers := [{ target := .collected D, args := #[] }] } (W.setCell ⟨w.heap.size + 1, 0, none⟩ (.bool true)) := by
  have hK' := (KeepsOthers.setCell W ⟨w.heap.size + 1, 0, none⟩ (.bool true)).same D _ h.d rfl
  have hg := grownBy_putObj' (W.setCell ⟨w.heap.size + 1, 0, none⟩ (.bool true)) D (.deferred none)
  have hD := h.o4
  have hsz := h.mf.size
  refine ⟨by simp, .inl ⟨_, _, rfl, run_takeDeferred hK', ?_⟩⟩
  refine ⟨_, more_result _ _ _ _ h4 ((h.mf.b1.set (.bool true)).kept hg (by simp; omega)).cell, rfl, ?_⟩
  exact (h.mf.below.setCell (p := ⟨w.heap.size + 1, 0, none⟩) (by simp) _).grown hg (by simp; omega) (fun j e => by cases e; omega)

set_option maxRecDepth 100000 in
set_option maxHeartbeats 4000000 in
theorem TreeMore_any (t : Nd) (v : Value) (u : ByteArray) (w : World) (hex : ∀ W, Below w.heap.size w W → Calls Tryz.prog 7 #[] W fun e W' => e = .returned (.bool true) ∧ Below W.heap.size W W') (h : Lies w w.heap.size t v) (hu : u.size ≤ 140737488351232) :
    Calls Tryz.prog 6 #[v, .string u] w fun e w' => e = .returned (.bool true) ∧ Below w.heap.size w w' := by
  obtain ⟨k, s, n, a, ks⟩ := t
  obtain ⟨A, cap, rfl⟩ : ∃ (A : Option Addr) (cap : Nat), v = .agg #[.int .i64 k, .string s, .int .i64 n, .int .i64 a, .slice A ks.length cap] := by
    unfold Lies at h; obtain ⟨A, cap, rfl, -⟩ := h; exact ⟨A, cap, rfl⟩
  have hss : s.size ≤ 140737488351232 := by unfold Lies at h; obtain ⟨_, _, _, _, _, _, h, _⟩ := h; exact h
  obtain ⟨c, HC⟩ : ∃ c, Hid ((Nd.mk k s n a ks).count 1000000 = c) := ⟨_, rfl⟩
  have HM := Lib.hid (MF.init h)
  have HEX := Lib.hid (hex _ HM.out.below)
  obtain ⟨f1, f2, f3, f4, f5, f6, f7⟩ := HM.out.cells
  have hcb := (Nd.mk k s n a ks).count_bd 1000000 (by omega)
  rw [HC.out] at hcb
  clear hex h
  refine (callsIn_wide (n := 6)).1 ?_
  refine callsIn_of_wp_marks Tryz.func6 rfl trivial ?_ rfl
  simp only [Tryz.ntmps6, List.size_toArray, List.length_cons, List.length_nil, Nat.reduceAdd, Nat.reduceSub, Array.replicate_succ, Array.replicate_zero, List.push_toArray, List.append_toArray, List.nil_append, List.cons_append]
  gi_wp2_with (first
    | (refine ⟨trivial, ?_⟩; gi_at_call 7; refine (callsIn_wide.2 HEX.out).mono ?_; clear HEX; rintro e w1 ⟨rfl, hb⟩
       have HM := Lib.hid (HM.out.after hb)
       clear f1 f2 f3 f4 f5 f6 f7 hb
       obtain ⟨f1, f2, f3, f4, f5, f6, f7⟩ := HM.out.cells)
    | (refine ⟨trivial, ?_⟩; gi_at_call 10; refine (callsIn_wide.2 (Count_any (.mk k s n a ks) _ _ HM.out.top)).mono ?_; rintro e w2 ⟨rfl, hb⟩
       rw [HC.out]
       have HM := Lib.hid (HM.out.after hb)
       clear f1 f2 f3 f4 f5 f6 f7 hb
       have h2s := HM.out.size
       obtain ⟨f1, f2, f3, f4, f5, f6, f7⟩ := HM.out.cells
       obtain ⟨g1, g2, g3, g4, g5, g6, g7⟩ := (HM.out.alloc (.cells #[.int .i64 0] 3)).cells)
    | (refine ⟨trivial, ?_⟩; gi_at_call 20; refine (callsIn_wide.2 (All_any _ _ _ _ _ _ _ _)).mono ?_; rintro e w4 ⟨rfl, hw4⟩
       have hbi : Boxed w4 w2.heap.size 3 (.int .i64 0) := by rw [hw4]; exact (Boxed.new w2 _ _).alloc _
       have hnb : w4.heap[w2.heap.size + 1]? = some (.cells #[.int .i64 k, .string s, .int .i64 n, .int .i64 a, .slice A ks.length cap] 24 (0, 0)) := by
         rw [hw4]; simpa using heap_alloc_new (w2.alloc (.cells #[.int .i64 0] 3)) (.cells #[.int .i64 k, .string s, .int .i64 n, .int .i64 a, .slice A ks.length cap] 24)
       have HM := Lib.hid (show MF k s n a A cap ks w w4 by rw [hw4]; exact (HM.out.alloc _).alloc _)
       have HBI := Lib.hid hbi
       have HNB := Lib.hid hnb
       have h4s : w4.heap.size = w2.heap.size + 2 := by rw [hw4]; simp
       clear f1 f2 f3 f4 f5 f6 f7 g1 g2 g3 g4 g5 g6 g7 hbi hnb hw4
       obtain ⟨f1, f2, f3, f4, f5, f6, f7⟩ := HM.out.cells
       have hic := HBI.out.cell
       have hif := HBI.out.frozen
       try simp only [World.size_alloc]))
  · exact more_leaf HM.out _ rfl
  have h5 := cell_of_row w4 _ 0 _ _ _ HNB.out
  have h6 := cell_of_row w4 _ 1 _ _ _ HNB.out
  have h7 := cell_of_row w4 _ 2 _ _ _ HNB.out
  have h8 := cell_of_row w4 _ 3 _ _ _ HNB.out
  have h9 := cell_of_row w4 _ 4 _ _ _ HNB.out
  refine rangeFunc_found (F := Fence.wide) (n := 6) rfl (by omega) (gf := 34) (lb := #[.pointer (some ⟨w2.heap.size + 1, 0, none⟩)]) rfl trivial (enters_of Tryz.func34 (by kernel_rfl) rfl)
    (all_stops _ (by omega) (w2.heap.size + 1) (fun j => j = w2.heap.size) k s n a A cap ks w4 (fun j e => by omega) h5 h6 h7 h8 h9 HM.out.top)
    (fun h h' => h.trans h') CK.putObj (Below.refl _ _) (fun _ => rfl)
    (MorI w4 w2.heap.size) MorX (MorI.own (by omega)) (fun c => MorX.own c) ⟨Foot.refl _ _ _, HBI.out, fun i x e => by simp at e⟩ ?ab ?done ?stop
  case ab =>
    apply Exists.intro
    refine And.intro ?_ ?_
    · intro l x W K hK
      unfold Tl.encs
      gi_wp2
      exact hK.out
    · rintro l pre x W ⟨hf, hbx, hp⟩ hlt
      obtain ⟨m, HMM⟩ : ∃ m, Hid (pre.length = m) := ⟨_, rfl⟩
      rw [HMM.out] at hbx hlt
      have hic := hbx.cell
      have hif := hbx.frozen
      have hrc : W.cell? ⟨w.heap.size + 1, 0, none⟩ = some (.bool false) := (hf.cell (p := ⟨w.heap.size + 1, 0, none⟩) (show w.heap.size + 1 < w4.heap.size by omega) (show ¬ w.heap.size + 1 = w2.heap.size by omega)).trans f6
      have hrf : W.frozen? ⟨w.heap.size + 1, 0, none⟩ = false := (World.frozen?_of_block (w := w4) (a := ⟨w.heap.size + 1, 0, none⟩) (hf.block (w.heap.size + 1) (by omega) (show ¬ w.heap.size + 1 = w2.heap.size by omega))).trans f7
      have HBX := Lib.hid hbx
      have HF := Lib.hid hf
      have HP := Lib.hid hp
      clear f1 f2 f3 f4 f5 f6 f7 h5 h6 h7 h8 h9 hbx hf hp
      have hcs : (x.deep < 1) ∨ (1 ≤ x.deep ∧ m = 0 ∧ x.deep ≠ 1) ∨ (1 ≤ x.deep ∧ m = 0 ∧ x.deep = 1) ∨ (1 ≤ x.deep ∧ 0 < m ∧ x.deep = 1) ∨ (1 ≤ x.deep ∧ 0 < m ∧ x.deep ≠ 1) := by omega
      obtain ⟨d, s1, k1, n1, a1⟩ := x
      dsimp only at hcs
      rcases hcs with h1 | ⟨h1, rfl, h2⟩ | ⟨h1, rfl, rfl⟩ | ⟨h1, h2, rfl⟩ | ⟨h1, h2, h3⟩
      · gi_wp2
        exact more_bad _ (fun e => by have := e.1; dsimp only at this; omega)
      · gi_wp2
        exact more_bad _ (fun e => h2 (e.2.1 HMM.out))
      · gi_wp2
        exact more_good HF.out HBX.out HP.out HMM.out (by omega) rfl ⟨h1, fun _ => rfl, fun e => by have := HMM.out; omega⟩
      · gi_wp2
        exact more_bad _ (fun e => e.2.2 (by have := HMM.out; omega) rfl)
      · have h3' : (d == 1) = false := by simp [h3]
        gi_wp2
        refine more_good (x := ⟨d, s1, k1, n1, a1⟩) HF.out HBX.out HP.out HMM.out (by omega) rfl ?_
        exact ⟨h1, fun e => by have := HMM.out; omega, fun _ => (by exact h3)⟩
  case done =>
    rintro D ys W hD hys ⟨hf, hbx, hp⟩ hK
    subst hys
    have hlen : ((Nd.mk k s n a ks).lay 1000000 0 1).length = c ∧ (ks.length : Int) < c := by
      have h1 := Nd.lay_length (most := 1000000) (Nd.mk k s n a ks) 0 1 (by omega)
      have h2 := Nd.count_size (Nd.mk k s n a ks) 1000000 (by omega)
      have h3 := sizeL_ge ks
      rw [HC.out] at h2
      have h4 : (Nd.mk k s n a ks).size = 1 + sizeL ks := by unfold Nd.size; rfl
      omega
    rw [hlen.1] at hbx
    have hlk := hlen.2
    have HM := Lib.hid (MF.step HM.out (hf.to (C := w2.heap.size) (by omega) (fun j (e : j = w2.heap.size) => Nat.le_of_eq e.symm)) h2s)
    have hic := hbx.cell
    have hif := hbx.frozen
    have HBX := Lib.hid hbx
    have HK := Lib.hid hK
    clear f1 f2 f3 f4 f5 f6 f7 h5 h6 h7 h8 h9 hp hlen hf hbx hK HNB HBI
    obtain ⟨f1, f2, f3, f4, f5, f6, f7⟩ := HM.out.cells
    have HCM : Hid ((Nd.mk k s n a (ks ++ [.mk 16 ⟨#[]⟩ 0 0 []])).count 1000000 = c + 1) := more_count k s n a ks 1000000 c (by omega) HC.out (by omega)
    have HSM : Hid ((Nd.mk k s n a ks).Same (.mk k s n a (ks ++ [.mk 16 ⟨#[]⟩ 0 0 []])) = false) := by
      unfold Hid Nd.Same
      rw [HC.out, HCM.out]
      have : (c == c + 1) = false := by simp; omega
      simp [this]
    have HSO : Hid ((Nd.mk k s n a ks).Same (.mk k (s ++ u) n a ks) = (u.toList == [])) := by
      have h1 := Nd.texted_count (Nd.mk k s n a ks) u 1000000
      have h2 := Nd.texted_same (Nd.mk k s n a ks) u
      unfold Nd.texted at h1 h2
      unfold Hid Nd.Same
      rw [h1, h2, HC.out]
      have : decide (c ≤ 1000000) = true := by simp; omega
      simp [this]
    have HLI := Lib.hid HM.out.lies
    have HKID := Lib.hid (show ks = [] ∨ ∃ b o, A = some ⟨b, o, none⟩ ∧ b < w.heap.size ∧ LiesL W w.heap.size ks b o from by
      have h := HM.out.lies
      unfold Lies at h
      obtain ⟨A', cap', e, _, _, _, _, _, _, h⟩ := h
      simp only [Value.agg.injEq, Array.mk.injEq, List.cons.injEq, Value.slice.injEq, and_true, true_and] at e
      obtain ⟨rfl, rfl⟩ := e
      exact h)
    have hDW := (Array.getElem?_eq_some_iff.1 HK.out).1
    have hw4 := HM.out.size
    have hG : MG k s n a A cap ks c w2.heap.size W.heap.size D (.slice A ks.length cap) w (W.alloc (.cells #[.int .i64 k, .string s, .int .i64 n, .int .i64 a, .slice A ks.length cap] 24)) :=
      ⟨HM.out.alloc _, HBX.out.alloc _, heap_alloc_new W _, (heap_alloc_old W _ D hDW).trans HK.out, h2s, HBX.out.lt, hDW, by omega⟩
    have HG := Lib.hid hG
    obtain ⟨f1, f2, f3, f4, f5, f6, f7⟩ := hG.mf.cells
    obtain ⟨e1, e2, e3, e4, e5, e6, e7⟩ := hG.cells
    have HKID := Lib.hid (show ks = [] ∨ ∃ b o, A = some ⟨b, o, none⟩ ∧ b < w.heap.size ∧ LiesL (W.alloc (.cells #[.int .i64 k, .string s, .int .i64 n, .int .i64 a, .slice A ks.length cap] 24)) w.heap.size ks b o from
      HKID.out.imp id (fun ⟨b, o, h1, h2, h3⟩ => ⟨b, o, h1, h2, h3.below ((Below.refl _ _).alloc (by omega) _) h2⟩))
    clear hG hic hif HBX HK
    obtain ⟨i0, hi, hz0, hz1, hz2⟩ := info_parts info24
    gi_wp2_with (first
      | (gi_at_builtin; refine wpListIn_append_kids rfl (.tmp 52) rfl rfl (W.heap.size + 1) w.heap.size A cap ks rfl (by simp) HKID.out (by omega) ?_; intro v1 w1 cs ho1 hcs hg1
         have HG1 := Lib.hid (HG.out.grown hg1 (fun _ e => by cases e))
         have HC1 := Lib.hid (hcs.below (show Below w.heap.size _ w1 from ⟨hg1.os, hg1.tape, hg1.output, hg1.size, fun j hj => hg1.block j (by simp; omega) (by simp)⟩) (Nat.le_refl _))
         obtain ⟨A1, cap1, rfl, hc1, hc2⟩ := row_form ho1
         have HO1 := Lib.hid ho1
         clear HKID HG ho1 hcs hg1 f1 f2 f3 f4 f5 f6 f7 e1 e2 e3 e4 e5 e6 e7
         obtain ⟨f1, f2, f3, f4, f5, f6, f7⟩ := HG1.out.mf.cells
         obtain ⟨e1, e2, e3, e4, e5, e6, e7⟩ := HG1.out.cells)
      | (gi_at_builtin; refine wpListIn_append_own _ rfl (.tmp 53) (.tmp 55) 22 rfl (W.heap.size + 1) 24 i0 _ 5 64 Tryz.underlying22 hi hz0 hz1 hz2 rfl (by decide) _ _ _ rfl (HO1.out.alloc _) ⟨w1.heap.size, 0, none⟩ 1 1 leafC rfl rfl (leaf_news w1) leaf_one (by unfold maxLen; omega) (by omega) (by have := HG1.out.lt; simp; omega) ?_; intro v2 w6 ho2 hg2 _
         have HG2 := Lib.hid ((HG1.out.alloc _).grown hg2 (fun j e => by have := (HO1.out.lt j e).1; omega))
         have HC2 := Lib.hid ((HC1.out.append (leaf_lies w1 w.heap.size)).below (show Below w.heap.size w1 w6 from ((Below.refl _ _).alloc (by have := HG1.out.lt; omega) _).trans ⟨hg2.os, hg2.tape, hg2.output, hg2.size, fun j hj => hg2.block j (by have := HG1.out.lt; simp; omega) (fun e => by have := (HO1.out.lt j e.symm).1; omega)⟩) (Nat.le_refl _))
         obtain ⟨A2, cap2, rfl, hd1, hd2⟩ := row_form ho2
         have HO2 := Lib.hid ho2
         clear HO1 HC1 HG1 ho2 hg2 f1 f2 f3 f4 f5 f6 f7 e1 e2 e3 e4 e5 e6 e7
         obtain ⟨f1, f2, f3, f4, f5, f6, f7⟩ := HG2.out.mf.cells
         obtain ⟨e1, e2, e3, e4, e5, e6, e7⟩ := HG2.out.cells
         have HG3 := Lib.hid (HG2.out.set (.slice A2 (ks.length + 1) cap2))
         obtain ⟨g1, g2, g3, g4, g5, g6, g7⟩ := HG3.out.mf.cells
         obtain ⟨k1, k2, k3, k4, k5, k6, k7⟩ := HG3.out.cells
         have HG9 := Lib.hid (HG3.out.alloc (.cells #[.int .i64 k, .string (s ++ u), .int .i64 n, .int .i64 a, .slice A ks.length cap] 24))
         obtain ⟨r1, r2, r3, r4, r5, r6, r7⟩ := HG9.out.mf.cells
         obtain ⟨s1, s2, s3, s4, s5, s6, s7⟩ := HG9.out.cells
         have HOT := Lib.hid (show ((w6.setCell ⟨W.heap.size, 4, none⟩ (.slice A2 (ks.length + 1) cap2)).alloc (.cells #[.int .i64 k, .string (s ++ u), .int .i64 n, .int .i64 a, .slice A ks.length cap] 24)).heap[w6.heap.size]? = some (.cells #[.int .i64 k, .string (s ++ u), .int .i64 n, .int .i64 a, .slice A ks.length cap] 24 (0, 0)) by
           have := heap_alloc_new (w6.setCell ⟨W.heap.size, 4, none⟩ (.slice A2 (ks.length + 1) cap2)) (.cells #[.int .i64 k, .string (s ++ u), .int .i64 n, .int .i64 a, .slice A ks.length cap] 24)
           simpa using this)
         have HL9 := Lib.hid (more_lies HG9.out HLI.out (row_set_alloc HO2.out W.heap.size 4 (.slice A2 (ks.length + 1) cap2) (by omega) _) (more_C HC2.out HG2.out.mf.size HG2.out.lt (by omega) (.slice A2 (ks.length + 1) cap2) _) hd1 hd2 u)
         have HG4 := Lib.hid (HG3.out.alloc (.cells #[.int .i64 k, .string s, .int .i64 n, .int .i64 a, .slice A ks.length cap] 24))
         obtain ⟨p1, p2, p3, p4, p5, p6, p7⟩ := HG4.out.mf.cells
         obtain ⟨q1, q2, q3, q4, q5, q6, q7⟩ := HG4.out.cells)
      | (refine ⟨trivial, ?_⟩; gi_at_call 10; refine (callsIn_wide.2 (Count_any _ _ _ HL9.out.2.1)).mono ?_; rintro e w10 ⟨rfl, hb⟩
         rw [HCM.out]
         have HG10 := Lib.hid (HG9.out.after hb)
         have HL10 := Lib.hid (lies_three_up HL9.out hb)
         have HOT := Lib.hid ((hb.block _ (Array.getElem?_eq_some_iff.1 HOT.out).1).trans HOT.out)
         clear HL9 hb r1 r2 r3 r4 r5 r6 r7 s1 s2 s3 s4 s5 s6 s7 p1 p2 p3 p4 p5 p6 p7 q1 q2 q3 q4 q5 q6 q7 k1 k2 k3 k4 k5 k6 k7 g1 g2 g3 g4 g5 g6 g7 f1 f2 f3 f4 f5 f6 f7 e1 e2 e3 e4 e5 e6 e7
         obtain ⟨r1, r2, r3, r4, r5, r6, r7⟩ := HG10.out.mf.cells
         obtain ⟨s1, s2, s3, s4, s5, s6, s7⟩ := HG10.out.cells)
      | (refine ⟨trivial, ?_⟩; gi_at_call 9; have lx := Same_any _ _ _ _ _ HL10.out.1 HL10.out.2.1; (with_reducible refine (callsIn_wide.2 lx).mono ?_); clear lx; rintro e w11 ⟨rfl, hb⟩
         rw [HSM.out]
         have HG11 := Lib.hid (HG10.out.after hb)
         have HL11 := Lib.hid (lies_three_up HL10.out hb)
         have HOT := Lib.hid ((hb.block _ (Array.getElem?_eq_some_iff.1 HOT.out).1).trans HOT.out)
         have t1 : w11.cell? ⟨w6.heap.size, 0, none⟩ = some (.int .i64 k) := cell_of_row w11 _ 0 _ _ _ HOT.out
         have t2 : w11.cell? ⟨w6.heap.size, 1, none⟩ = some (.string (s ++ u)) := cell_of_row w11 _ 1 _ _ _ HOT.out
         have t3 : w11.cell? ⟨w6.heap.size, 2, none⟩ = some (.int .i64 n) := cell_of_row w11 _ 2 _ _ _ HOT.out
         have t4 : w11.cell? ⟨w6.heap.size, 3, none⟩ = some (.int .i64 a) := cell_of_row w11 _ 3 _ _ _ HOT.out
         have t5 : w11.cell? ⟨w6.heap.size, 4, none⟩ = some (.slice A ks.length cap) := cell_of_row w11 _ 4 _ _ _ HOT.out
         clear HL10 hb r1 r2 r3 r4 r5 r6 r7 s1 s2 s3 s4 s5 s6 s7
         obtain ⟨r1, r2, r3, r4, r5, r6, r7⟩ := HG11.out.mf.cells
         obtain ⟨s1, s2, s3, s4, s5, s6, s7⟩ := HG11.out.cells)
      | (refine ⟨trivial, ?_⟩; gi_at_call 9; have lx := Same_top _ _ _ _ _ HL11.out.1 HL11.out.2.2; (with_reducible refine (callsIn_wide.2 lx).mono ?_); clear lx; rintro e w12 ⟨rfl, hb⟩
         rw [HSO.out]
         have HG12 := Lib.hid (HG11.out.after hb)
         clear HL11 hb r1 r2 r3 r4 r5 r6 r7 s1 s2 s3 s4 s5 s6 s7 t1 t2 t3 t4 t5
         obtain ⟨r1, r2, r3, r4, r5, r6, r7⟩ := HG12.out.mf.cells
         obtain ⟨s1, s2, s3, s4, s5, s6, s7⟩ := HG12.out.cells))
    exact more_done HG12.out _ rfl
  case stop =>
    rintro D c' pre W hD ⟨j, hj⟩ ⟨rfl, ps, x, hx, hnd⟩ hK
    exfalso
    refine hnd (lay_deepB (.mk k s n a ks) ps.length x ?_)
    have h1 : (((Nd.mk k s n a ks).lay 1000000 0 1).take j)[ps.length]? = some x := by rw [← hj, hx]; simp
    rw [List.getElem?_take] at h1
    split at h1
    · exact h1
    · cases h1
end Go.Proofs.YtjpmghgmmeemkaaGreatDoor
