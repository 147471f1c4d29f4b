/- guiselaw2.TreeAll: the walk of a tree that has not very many nodes: its first part. -/
import Derived.Test.YtjpmghgmmeemkaaGreatDoorT4
import Derived.LoopIn
import Derived.LoopNIn
namespace Go.Proofs.YtjpmghgmmeemkaaGreatDoor
open Go.RowKit Go.Shelf
attribute [local go_sem] Oper.semAt_some run_eql_funcNil

mutual
theorem Nd.lay_all {M M' : Nat} : ∀ (t : Nd) (len : Nat) (deep : Int), len + t.size ≤ M → len + t.size ≤ M' → t.lay M len deep = t.lay M' len deep
  | .mk k s n a ks, len, deep, h, h' => by
    unfold Nd.size at h h'
    unfold Nd.lay
    rw [if_neg (by omega), if_neg (by omega), layL_all (M := M) (M' := M') ks (len + 1) (deep + 1) (by omega) (by omega)]
theorem layL_all {M M' : Nat} : ∀ (ts : List Nd) (len : Nat) (deep : Int), len + sizeL ts ≤ M → len + sizeL ts ≤ M' → layL M ts len deep = layL M' ts len deep
  | [], _, _, _, _ => by unfold layL; rfl
  | t :: ts, len, deep, h, h' => by
    unfold sizeL at h h'
    unfold layL
    have h1 := Nd.lay_all (M := M) (M' := M') t len deep (by omega) (by omega)
    have h2 := Nd.lay_length (most := M') t len deep (by omega)
    rw [h1, layL_all (M := M) (M' := M') ts _ deep (by omega) (by omega)]
end

/-- The frame: the tree of its own, the list of what is wanted. -/
structure AF (k : Int) (s : ByteArray) (n a : Int) (ks : List Nd) (g xcap : Nat) (WA : Option Addr) (wcap : Nat) (L : List Tl) (C Cx Bx Bw : Nat) (w W : World) : Prop where
  size : w.heap.size + 2 ≤ C
  below : Below w.heap.size w W
  b1 : Boxed W (w.heap.size + 1) 4 (.bool false)
  lies : LiesA W C Cx (.mk k s n a ks) (.agg #[.int .i64 k, .string s, .int .i64 n, .int .i64 a, .slice (some ⟨g, 0, none⟩) ks.length xcap])
  gC : C ≤ g
  gx : g < Cx
  xb : Cx ≤ Bx
  bw : Bx < Bw
  lt : Bw < W.heap.size
  row : ∃ cur, W.heap[g]? = some (.cells cur 24 (0, 0)) ∧ cur.size = (ks.length + 2) * 5
  bx : W.heap[Bx]? = some (.cells #[.int .i64 k, .string s, .int .i64 n, .int .i64 a, .slice (some ⟨g, 0, none⟩) ks.length xcap] 24 (0, 0))
  bwant : Boxed W Bw 42 (.slice WA L.length wcap)
  want : RowAt W WA L
  wrow : ∀ g2, WA = some ⟨g2, 0, none⟩ → L ≠ [] → Cx ≤ g2 ∧ g2 < Bw

section
variable {k : Int} {s : ByteArray} {n a : Int} {ks : List Nd} {g xcap : Nat} {WA : Option Addr} {wcap : Nat} {L : List Tl} {C Cx Bx Bw : Nat} {w W W' : World}
theorem AF.after (h : AF k s n a ks g xcap WA wcap L C Cx Bx Bw w W) (hb : Below W.heap.size W W') : AF k s n a ks g xcap WA wcap L C Cx Bx Bw w W' := by
  have h1 := h.size
  have h2 := h.gC
  have h3 := h.gx
  have h4 := h.xb
  have h5 := h.bw
  have h6 := h.lt
  have e : ∀ b, b ≤ Bw → W'.heap[b]? = W.heap[b]? := fun b hb' => hb.block b (by omega)
  obtain ⟨cur, hr, hc⟩ := h.row
  exact ⟨h1, h.below.trans (hb.mono h.below.size), (e _ (by omega)).trans h.b1, h.lies.keep (fun b _ hb' => e b (by omega)) (Nat.le_refl _) (Nat.le_refl _), h2, h3, h4, h5, Nat.lt_of_lt_of_le h6 hb.size, ⟨cur, (e _ (by omega)).trans hr, hc⟩, (e _ (by omega)).trans h.bx, (e _ (by omega)).trans h.bwant, h.want.up hb, h.wrow⟩
theorem AF.alloc (h : AF k s n a ks g xcap WA wcap L C Cx Bx Bw w W) (o : Obj) : AF k s n a ks g xcap WA wcap L C Cx Bx Bw w (W.alloc o) := h.after ((Below.refl _ _).alloc (Nat.le_refl _) _)
theorem AF.top (h : AF k s n a ks g xcap WA wcap L C Cx Bx Bw w W) : Lies W W.heap.size (.mk k s n a ks) (.agg #[.int .i64 k, .string s, .int .i64 n, .int .i64 a, .slice (some ⟨g, 0, none⟩) ks.length xcap]) := by
  have h4 := h.xb
  have h5 := h.bw
  have h6 := h.lt
  exact h.lies.lies.more (by omega)
theorem AF.cells (h : AF k s n a ks g xcap WA wcap L C Cx Bx Bw w W) : W.cell? ⟨Bx, 0, none⟩ = some (.int .i64 k) ∧ W.cell? ⟨Bx, 1, none⟩ = some (.string s) ∧ W.cell? ⟨Bx, 2, none⟩ = some (.int .i64 n) ∧ W.cell? ⟨Bx, 3, none⟩ = some (.int .i64 a) ∧
    W.cell? ⟨Bx, 4, none⟩ = some (.slice (some ⟨g, 0, none⟩) ks.length xcap) ∧ W.cell? ⟨Bw, 0, none⟩ = some (.slice WA L.length wcap) ∧ W.cell? ⟨w.heap.size + 1, 0, none⟩ = some (.bool false) ∧ W.frozen? ⟨w.heap.size + 1, 0, none⟩ = false := by
  refine ⟨?_, ?_, ?_, ?_, ?_, h.bwant.cell, h.b1.cell, h.b1.frozen⟩ <;> exact cell_of_row W _ _ _ _ _ h.bx
end

theorem AF.init {k : Int} {s : ByteArray} {n a : Int} {A : Option Addr} {cap : Nat} {ks : List Nd} {w w2 w5 w6 : World} {g xcap : Nat} {cur : Array Value} {WA : Option Addr} {wcap B : Nat} {L : List Tl} (h2 : w.heap.size + 2 ≤ w2.heap.size) (h5 : MF k s n a A cap ks w w5) (hA : LiesA w5 w2.heap.size w5.heap.size (.mk k s n a ks) (.agg #[.int .i64 k, .string s, .int .i64 n, .int .i64 a, .slice (some ⟨g, 0, none⟩) ks.length xcap]))
    (hg1 : w2.heap.size ≤ g) (hg2 : w5.heap[g]? = some (.cells cur 24 (0, 0))) (hg3 : cur.size = (ks.length + 2) * 5)
    (hb : Below (w5.alloc (.cells #[.int .i64 k, .string s, .int .i64 n, .int .i64 a, .slice (some ⟨g, 0, none⟩) ks.length xcap] 24)).heap.size (w5.alloc (.cells #[.int .i64 k, .string s, .int .i64 n, .int .i64 a, .slice (some ⟨g, 0, none⟩) ks.length xcap] 24)) w6)
    (hB : w5.heap.size ≤ B) (ho : w6.ownsRow B 49 6 (.slice WA L.length wcap) L.length (tlCells L)) :
    AF k s n a ks g xcap WA wcap L w2.heap.size w5.heap.size w5.heap.size w6.heap.size w (w6.alloc (.cells #[.slice WA L.length wcap] 42)) := by
  have hsz := hb.size
  simp only [World.size_alloc] at hsz hb
  have hgl := (Array.getElem?_eq_some_iff.1 hg2).1
  have h55 := h5.size
  have e : ∀ b, b < w5.heap.size → (w6.alloc (.cells #[.slice WA L.length wcap] 42)).heap[b]? = w5.heap[b]? := fun b hb' =>
    ((heap_alloc_old w6 _ _ (by omega)).trans (hb.block b (by omega))).trans (heap_alloc_old w5 _ _ (by omega))
  have hbw : Below w.heap.size w w6 := (h5.below.alloc (by omega) _).trans (hb.mono (by omega))
  refine ⟨h2, hbw.alloc (by omega) _, (e _ (by omega)).trans h5.b1, hA.keep (fun b _ hb' => e b hb') (Nat.le_refl _) (Nat.le_refl _), hg1, hgl, Nat.le_refl _, by omega, by simp, ⟨cur, (e _ hgl).trans hg2, hg3⟩, ?_, Boxed.new w6 _ _, (RowAt.of ho).up ((Below.refl _ _).alloc (Nat.le_refl _) _), ?_⟩
  · exact ((heap_alloc_old w6 _ _ (by omega)).trans (hb.block _ (by omega))).trans (heap_alloc_new w5 _)
  · intro g2 e2 hne
    obtain ⟨b, e3, hb1, hb2⟩ := row_some ho (by cases L <;> simp_all)
    rw [e2] at e3
    cases e3
    exact ⟨by omega, hb2⟩

theorem AF.foot {k : Int} {s : ByteArray} {n a : Int} {ks : List Nd} {g xcap : Nat} {WA : Option Addr} {wcap : Nat} {L : List Tl} {C Cx Bx Bw Bi : Nat} {w W W' : World} (h : AF k s n a ks g xcap WA wcap L C Cx Bx Bw w W) (hf : Foot W.heap.size (fun b => b = Bi ∨ b = g) W W') (hBi : Bw < Bi) (hg : W'.heap[g]? = W.heap[g]?) : AF k s n a ks g xcap WA wcap L C Cx Bx Bw w W' := by
  have h1 := h.size
  have h2 := h.gC
  have h3 := h.gx
  have h4 := h.xb
  have h5 := h.bw
  have h6 := h.lt
  have e : ∀ b, b ≤ Bw → W'.heap[b]? = W.heap[b]? := fun b hb' => by
    by_cases hbg : b = g
    · rw [hbg]; exact hg
    · exact hf.block b (by omega) (fun e => e.elim (by omega) hbg)
  obtain ⟨cur, hr, hc⟩ := h.row
  refine ⟨h1, h.below.trans (hf.to (by omega) (fun b e => e.elim (by omega) (by omega))), (e _ (by omega)).trans h.b1, h.lies.keep (fun b _ hb' => e b (by omega)) (Nat.le_refl _) (Nat.le_refl _), h2, h3, h4, h5, Nat.lt_of_lt_of_le h6 hf.size, ⟨cur, (e _ (by omega)).trans hr, hc⟩, (e _ (by omega)).trans h.bx, (e _ (by omega)).trans h.bwant, ?_, h.wrow⟩
  by_cases hne : L = []
  · exact .inl hne
  · rcases h.want with h7 | ⟨g2, e2, h8, h9⟩
    · exact absurd h7 hne
    · obtain ⟨_, h11⟩ := h.wrow g2 e2 hne
      exact .inr ⟨g2, e2, Nat.lt_of_lt_of_le h8 hf.size, fun j u hj => (World.cell?_of_block (w := W) (e g2 (by omega))).trans (h9 j u hj)⟩

/-- What the loop's body reads, though the tree may be written over already. -/
theorem AF.reads {k : Int} {s : ByteArray} {n a : Int} {ks : List Nd} {g xcap : Nat} {WA : Option Addr} {wcap : Nat} {L : List Tl} {C Cx Bx Bw Bi : Nat} {w W W' : World} (h : AF k s n a ks g xcap WA wcap L C Cx Bx Bw w W) (hf : Foot W.heap.size (fun b => b = Bi ∨ b = g) W W') (hBi : Bw < Bi) :
    W'.cell? ⟨Bx, 4, none⟩ = some (.slice (some ⟨g, 0, none⟩) ks.length xcap) ∧ Boxed W' Bw 42 (.slice WA L.length wcap) ∧ Boxed W' (w.heap.size + 1) 4 (.bool false) ∧ RowAt W' WA L ∧ Below w.heap.size w W' := by
  have h1 := h.size
  have h2 := h.gC
  have h3 := h.gx
  have h4 := h.xb
  have h5 := h.bw
  have h6 := h.lt
  have e : ∀ b, b ≤ Bw → b ≠ g → W'.heap[b]? = W.heap[b]? := fun b hb' hbg => hf.block b (by omega) (fun e => e.elim (by omega) hbg)
  refine ⟨cell_of_row W' _ 4 _ _ _ ((e _ (by omega) (by omega)).trans h.bx), (e _ (by omega) (by omega)).trans h.bwant, (e _ (by omega) (by omega)).trans h.b1, ?_, h.below.trans (hf.to (by omega) (fun b e => e.elim (by omega) (by omega)))⟩
  by_cases hne : L = []
  · exact .inl hne
  · rcases h.want with h7 | ⟨g2, e2, h8, h9⟩
    · exact absurd h7 hne
    · obtain ⟨h10, h11⟩ := h.wrow g2 e2 hne
      exact .inr ⟨g2, e2, Nat.lt_of_lt_of_le h8 hf.size, fun j u hj => (World.cell?_of_block (w := W) (e g2 (by omega) (by omega))).trans (h9 j u hj)⟩

def AlI (W0 : World) (Bi g m : Nat) (kk : Int) (L : List Tl) (pre : List Tl) (W : World) : Prop :=
  Foot W0.heap.size (fun b => b = Bi ∨ b = g) W0 W ∧ Boxed W Bi 3 (.int .i64 pre.length) ∧ (∀ (i : Nat) (x : Tl), pre[i]? = some x → L[i]? = some x) ∧
  (∃ cur, W.heap[g]? = some (.cells cur 24 (0, 0)) ∧ cur.size = (m + 2) * 5) ∧ ((pre.length : Int) ≤ kk → W.heap[g]? = W0.heap[g]?)
def AlX (L : List Tl) (c : Code) (pre : List Tl) (_ : World) : Prop := c = .ret ∧ ∃ ps x, pre = ps ++ [x] ∧ ¬ L[ps.length]? = some x
theorem AlI.own {W0 : World} {Bi g m : Nat} {kk : Int} {L : List Tl} (h : Bi < W0.heap.size) (h' : g < W0.heap.size) : OwnFrom W0.heap.size (AlI W0 Bi g m kk L) := by
  rintro pre W W' row ⟨h1, h2, h3, ⟨cur, h4, h5⟩, h6⟩ hg hr
  have e : W'.heap[g]? = W.heap[g]? := hg.block g (Array.getElem?_eq_some_iff.1 h4).1 (fun e => by have := (hr _ e.symm).1; omega)
  exact ⟨h1.grown hg h1.size (fun j e => (hr j e).1), h2.kept hg (fun e => by have := (hr _ e.symm).1; omega), h3, ⟨cur, e.trans h4, h5⟩, fun hk => e.trans (h6 hk)⟩
theorem AlX.own {B : Nat} {L : List Tl} (c : Code) : OwnFrom B (AlX L c) := fun _ _ _ _ h _ _ => h
theorem AlI.alloc {W0 W : World} {Bi g m : Nat} {kk : Int} {L pre : List Tl} (h : AlI W0 Bi g m kk L pre W) (o : Obj) : AlI W0 Bi g m kk L pre (W.alloc o) := by
  obtain ⟨h1, h2, h3, ⟨cur, h4, h5⟩, h6⟩ := h
  have e : (W.alloc o).heap[g]? = W.heap[g]? := heap_alloc_old W _ _ (Array.getElem?_eq_some_iff.1 h4).1
  exact ⟨h1.alloc h1.size _, h2.alloc _, h3, ⟨cur, e.trans h4, h5⟩, fun hk => e.trans (h6 hk)⟩
theorem CK.ofFoot {g : Nat → Prop} {a b : World} (h : Foot a.heap.size g a b) : CK g a b :=
  ⟨h.os, h.tape, h.output, h.size, fun k _o hk _ hg => (h.block k (Array.getElem?_eq_some_iff.1 hk).1 hg).trans hk⟩
theorem all_end {w W : World} {D : Nat} (hb : Below w.heap.size w W) (h3 : Boxed W (w.heap.size + 1) 4 (.bool false)) (hK : W.heap[D]? = some (.deferred (some []))) (hD : w.heap.size + 2 ≤ D) (tmps : Array Value) (h8 : tmps.getD 6 undef = .pointer (some ⟨w.heap.size + 1, 0, none⟩)) :
    bodyPostM Fence.wide 6 Tryz.prog Tryz.f5 (fun e w' => e = .returned (.bool true) ∧ Below w.heap.size w w') .ret { tmps := tmps, defers := [{ target := .collected D, args := #[] }] } (W.setCell ⟨w.heap.size + 1, 0, none⟩ (.bool true)) := by
  have hK' := (KeepsOthers.setCell W ⟨w.heap.size + 1, 0, none⟩ (.bool true)).same D _ hK rfl
  have hg := grownBy_putObj' (W.setCell ⟨w.heap.size + 1, 0, none⟩ (.bool true)) D (.deferred none)
  have hDW := (Array.getElem?_eq_some_iff.1 hK).1
  refine ⟨by simp, .inl ⟨_, _, rfl, run_takeDeferred hK', ?_⟩⟩
  exact ⟨_, all_result _ _ _ _ h8 ((h3.set (.bool true)).kept hg (by simp; omega)).cell, rfl, (hb.setCell (p := ⟨w.heap.size + 1, 0, none⟩) (by simp) _).grown hg (by simp; omega) (fun j e => by cases e; omega)⟩
theorem all_bad {W W' W0 : World} {Bi H g m : Nat} {kk : Int} {L pre : List Tl} {x : Tl} {a : Act} (hk : KeepsOthers W W') (h : ¬ L[pre.length]? = some x) :
    ownPostG H (CK fun j => j = Bi ∨ j = g) (AlI W0 Bi g m kk L) (AlX L) (pre ++ [x]) W .ret a W' := ⟨hk.from _, rfl, pre, x, rfl, h⟩
theorem all_good {W X W0 : World} {Bi H g m q : Nat} {kk : Int} {L pre : List Tl} {x : Tl} {a : Act} (hi : AlI W0 Bi g m kk L pre W) (hX : Foot W.heap.size (fun b => b = g) W X) (hrow : ∃ cur, X.heap[g]? = some (.cells cur 24 (0, 0)) ∧ cur.size = (m + 2) * 5)
    (hq : pre.length = q) (hg : (q : Int) + 1 ≤ kk → X.heap[g]? = W.heap[g]?) (hx : L[q]? = some x) (hBi : Bi < W0.heap.size) (hBg : Bi ≠ g) :
    ownPostG H (CK fun j => j = Bi ∨ j = g) (AlI W0 Bi g m kk L) (AlX L) (pre ++ [x]) W .normal a (X.setCell ⟨Bi, 0, none⟩ (.int .i64 ((q : Int) + 1))) := by
  subst hq
  obtain ⟨h1, h2, h3, ⟨cur, h4, h5⟩, h6⟩ := hi
  obtain ⟨cur', h7, h8⟩ := hrow
  have hsz := h1.size
  have hb2 : Boxed X Bi 3 (.int .i64 pre.length) := (hX.block Bi (by omega) hBg).trans h2
  have hkX : KeepsOthers W X := hX.keeps (fun j o e ho => by subst e; rw [h4] at ho; cases ho; rfl)
  have eg : (X.setCell ⟨Bi, 0, none⟩ (.int .i64 ((pre.length : Int) + 1))).heap[g]? = X.heap[g]? := Below.heap_setCell _ _ _ _ (fun e => hBg e.symm)
  refine ⟨(hkX.trans (KeepsOthers.setCell _ _ _)).from _, CK.set (g := fun j => j = Bi ∨ j = g) (CK.ofFoot (hX.mono (Nat.le_refl _) (fun k _ e => .inr e))) (p := ⟨Bi, 0, none⟩) (.inl rfl) _,
    (h1.trans (hX.mono hsz (fun k _ e => .inr e))).set (p := ⟨Bi, 0, none⟩) (.inr (.inl rfl)) _, by simpa using hb2.set (.int .i64 ((pre.length : Int) + 1)), ?_, ⟨cur', eg.trans h7, h8⟩, ?_⟩
  · intro i y hi
    by_cases hlt : i < pre.length
    · rw [List.getElem?_append_left hlt] at hi
      exact h3 i y hi
    · rw [List.getElem?_append_right (by omega)] at hi
      have h0 : i - pre.length = 0 := by
        have := (List.getElem?_eq_some_iff.1 hi).1; simp at this; omega
      rw [h0] at hi
      simp at hi
      subst hi
      rw [show i = pre.length from by omega]
      exact hx
  · intro hk
    simp at hk
    exact eg.trans ((hg (by omega)).trans (h6 (by omega)))

set_option maxRecDepth 100000 in
set_option maxHeartbeats 4000000 in
theorem TreeAll_small (t : Nd) (v : Value) (m at_ : Int) (w : World) (hex : ∀ W, Below w.heap.size w W → Calls Tryz.prog 7 #[] W fun e W' => e = .returned (.bool true) ∧ Below W.heap.size W W') (h : Lies w w.heap.size t v) (hm : okI m) (hat : okI at_) (hsm : t.count 1000000 ≤ 3000) :
    Calls Tryz.prog 5 #[v, .int .i64 m, .int .i64 at_] w fun e w' => e = .returned (.bool true) ∧ Below w.heap.size w w' := by
  obtain ⟨k, s, n, a, ks⟩ := t
  obtain ⟨A, cap, rfl⟩ : ∃ (A : Option Addr) (cap : Nat), v = .agg #[.int .i64 k, .string s, .int .i64 n, .int .i64 a, .slice A ks.length cap] := by
    unfold Lies at h; obtain ⟨A, cap, rfl, -⟩ := h; exact ⟨A, cap, rfl⟩
  obtain ⟨c, HC⟩ : ∃ c, Hid ((Nd.mk k s n a ks).count 1000000 = c) := ⟨_, rfl⟩
  have HSZ := Lib.hid (show (Nd.mk k s n a ks).size ≤ 3000 by have := Nd.count_size (Nd.mk k s n a ks) 1000000 (by omega); omega)
  rw [HC.out] at hsm
  obtain ⟨L, HLE⟩ : ∃ L, Hid ((Nd.mk k s n a ks).lay 3001 0 1 = L) := ⟨_, rfl⟩
  have HPE := Lib.hid (show L = (Nd.mk k s n a ks).lay 1000000 0 1 by rw [← HLE.out]; exact Nd.lay_all _ _ _ (by have := HSZ.out; omega) (by have := HSZ.out; omega))
  have HPL := Lib.hid (show ∃ j, L = ((Nd.mk k s n a ks).lay 1000000 0 1).take j from ⟨L.length, by rw [← HPE.out, List.take_length]⟩)
  have HLL := Lib.hid (show 1 ≤ L.length ∧ L.length ≤ 3000 by
    have h1 := Nd.lay_length (most := 1000000) (Nd.mk k s n a ks) 0 1 (by omega)
    have h2 := Nd.size_pos (Nd.mk k s n a ks)
    have h3 := HSZ.out
    rw [← HPE.out] at h1
    omega)
  have hl1 := HLL.out.1
  have hl2 := HLL.out.2
  have HM := Lib.hid (MF.init h)
  have HEX := Lib.hid (hex _ HM.out.below)
  obtain ⟨f1, f2, f3, f4, f5, f6, f7⟩ := HM.out.cells
  have HI := Lib.hid hm
  have HAT := Lib.hid hat
  have HKL := Lib.hid (show (ks.length : Int) ≤ 3000 by have := sizeL_ge ks; have := HSZ.out; unfold Nd.size at this; omega)
  clear hex h hm hat
  refine (callsIn_wide (n := 6)).1 ?_
  refine callsIn_of_wp_marks Tryz.func5 rfl trivial ?_ rfl
  simp only [Tryz.ntmps5, List.size_toArray, List.length_cons, List.length_nil, Nat.reduceAdd, Nat.reduceSub, Array.replicate_succ, Array.replicate_zero, List.push_toArray, List.append_toArray, List.nil_append, List.cons_append]
  gi_wp2_with (first
    | (refine ⟨trivial, ?_⟩; gi_at_call 7; refine (callsIn_wide.2 HEX.out).mono ?_; clear HEX; rintro e w1 ⟨rfl, hb⟩
       have HM := Lib.hid (HM.out.after hb)
       clear f1 f2 f3 f4 f5 f6 f7 hb
       obtain ⟨f1, f2, f3, f4, f5, f6, f7⟩ := HM.out.cells)
    | (refine ⟨trivial, ?_⟩; gi_at_call 16; refine (callsIn_wide.2 (pick_any m 200 _ HI.out (by omega) (by omega))).mono ?_; rintro e w3 ⟨r, rfl, hr0, hr1, rfl⟩; clear HI)
    | (refine ⟨trivial, ?_⟩; gi_at_call 11; refine (callsIn_wide.2 (rCount_any (.mk k s n a ks) _ _ HM.out.top)).mono ?_; rintro e w2 ⟨rfl, hb⟩
       rw [HC.out]
       have HM := Lib.hid (HM.out.after hb)
       clear f1 f2 f3 f4 f5 f6 f7 hb
       obtain ⟨f1, f2, f3, f4, f5, f6, f7⟩ := HM.out.cells)
    | (refine ⟨trivial, ?_⟩; gi_at_call 19; refine (callsIn_wide.2 (twin_any (.mk k s n a ks) _ _ HM.out.top (by have := HSZ.out; omega))).mono ?_; rintro e w5 ⟨v5, g, xcap, cur, rfl, hA, rfl, hg1, hg2, hg3, hb⟩
       have HM5 := Lib.hid (HM.out.after hb)
       have h2s := HM.out.size
       simp only [Nd.kind, Nd.text, Nd.num, Nd.at_, Nd.kids] at hA hg3 ⊢
       have HA := Lib.hid hA
       have HG2 := Lib.hid hg2
       have HG3 := Lib.hid hg3
       clear f1 f2 f3 f4 f5 f6 f7 hb hA hg2 hg3
       have HM6 := Lib.hid (HM5.out.alloc (.cells #[.int .i64 k, .string s, .int .i64 n, .int .i64 a, .slice (some ⟨g, 0, none⟩) ks.length xcap] 24))
       obtain ⟨f1, f2, f3, f4, f5, f6, f7⟩ := HM5.out.cells
       obtain ⟨g1, g2, g3, g4, g5, g6, g7⟩ := HM6.out.cells)
    | (refine ⟨trivial, ?_⟩; gi_at_call 18; refine (callsIn_wide.2 (Order_any 3001 (by omega) (.mk k s n a ks) _ _ HM6.out.top)).mono ?_; rintro e w6 ⟨v6, rfl, ho, hb⟩
       rw [HLE.out] at ho
       obtain ⟨WA, wcap, rfl, hwc1, hwc2⟩ := row_form ho
       have HF := Lib.hid (AF.init h2s HM5.out HA.out hg1 HG2.out HG3.out hb (by simp) ho)
       clear f1 f2 f3 f4 f5 f6 f7 g1 g2 g3 g4 g5 g6 g7 ho hb HM6
       obtain ⟨f1, f2, f3, f4, f5, f6, f7, f8⟩ := HF.out.cells)
    | (refine ⟨trivial, ?_⟩; gi_at_call 17; have lx := goes_any (.mk k s n a ks) _ WA wcap L (1 + r) _ HF.out.top HF.out.want (by unfold okI; omega) HPL.out (.inl HPE.out); (with_reducible refine (callsIn_wide.2 lx).mono ?_); clear lx; rintro e w7 ⟨rfl, hb⟩
       have HF := Lib.hid (HF.out.after hb)
       clear f1 f2 f3 f4 f5 f6 f7 f8 hb
       obtain ⟨f1, f2, f3, f4, f5, f6, f7, f8⟩ := HF.out.cells)
    | (refine ⟨trivial, ?_⟩; gi_at_call 17; have lx := goes_any (.mk k s n a ks) _ WA wcap L 0 _ HF.out.top HF.out.want (by unfold okI; omega) HPL.out (.inl HPE.out); (with_reducible refine (callsIn_wide.2 lx).mono ?_); clear lx; rintro e w8 ⟨rfl, hb⟩
       have HF := Lib.hid (HF.out.after hb)
       clear f1 f2 f3 f4 f5 f6 f7 f8 hb
       obtain ⟨f1, f2, f3, f4, f5, f6, f7, f8⟩ := HF.out.cells)
    | (refine ⟨trivial, ?_⟩; gi_at_call 20; refine (callsIn_wide.2 (All_any _ _ _ _ _ _ _ _)).mono ?_; rintro e w9 ⟨rfl, hw9⟩
       have hba : w9.heap[w8.heap.size]? = some (.cells #[.int .i64 k, .string s, .int .i64 n, .int .i64 a, .slice (some ⟨g, 0, none⟩) ks.length xcap] 24 (0, 0)) := by rw [hw9]; exact heap_alloc_new w8 _
       have hz9 : w8.heap.size < w9.heap.size := by rw [hw9]; simp
       have HF := Lib.hid (show AF k s n a ks g xcap WA wcap L w2.heap.size w5.heap.size w5.heap.size w6.heap.size w w9 by rw [hw9]; exact HF.out.alloc _)
       have HBA := Lib.hid hba
       clear f1 f2 f3 f4 f5 f6 f7 f8 hw9 hba
       obtain ⟨f1, f2, f3, f4, f5, f6, f7, f8⟩ := HF.out.cells
       have HFI := Lib.hid (HF.out.alloc (.cells #[.int .i64 0] 3))
       obtain ⟨g1, g2, g3, g4, g5, g6, g7, g8⟩ := HFI.out.cells)
    | (refine ⟨trivial, ?_⟩; gi_at_call 16; have lx := fun W => pick_any at_ L.length W HAT.out (by omega) (by omega); (with_reducible refine (callsIn_wide.2 (lx _)).mono ?_); clear lx; rintro e w10 ⟨kk, rfl, hk0, hk1, rfl⟩))
  obtain ⟨W0, hW0⟩ : ∃ W0, (w9.alloc (.cells #[.int .i64 0] 3)).alloc (.cells #[.int .i64 kk] 3) = W0 := ⟨_, rfl⟩
  have hF0 : AF k s n a ks g xcap WA wcap L w2.heap.size w5.heap.size w5.heap.size w6.heap.size w W0 := by rw [← hW0]; exact (HF.out.alloc _).alloc _
  have hbi : Boxed W0 w9.heap.size 3 (.int .i64 0) := by rw [← hW0]; exact (Boxed.new w9 _ _).alloc _
  have hbk : Boxed W0 (w9.heap.size + 1) 3 (.int .i64 kk) := by rw [← hW0]; simpa using Boxed.new (w9.alloc (.cells #[.int .i64 0] 3)) 3 (.int .i64 kk)
  have hz0 : w9.heap.size + 1 < W0.heap.size := by rw [← hW0]; simp
  have hba : W0.heap[w8.heap.size]? = some (.cells #[.int .i64 k, .string s, .int .i64 n, .int .i64 a, .slice (some ⟨g, 0, none⟩) ks.length xcap] 24 (0, 0)) := by
    rw [← hW0]; exact (heap_alloc_old _ _ _ (by simp; omega)).trans ((heap_alloc_old _ _ _ (by omega)).trans HBA.out)
  have hlt6 : w6.heap.size < w9.heap.size := HF.out.lt
  have hgx := hF0.gx
  have hgC := hF0.gC
  have hBxw := hF0.bw
  rw [hW0]
  have HF0 := Lib.hid hF0
  have HBI := Lib.hid hbi
  have HBK := Lib.hid hbk
  have h5 := cell_of_row W0 _ 0 _ _ _ hba
  have h6 := cell_of_row W0 _ 1 _ _ _ hba
  have h7 := cell_of_row W0 _ 2 _ _ _ hba
  have h8 := cell_of_row W0 _ 3 _ _ _ hba
  have h9 := cell_of_row W0 _ 4 _ _ _ hba
  obtain ⟨cur0, hr0', hc0'⟩ := hF0.row
  have HI0 := Lib.hid (show AlI W0 w9.heap.size g ks.length kk L [] W0 from ⟨Foot.refl _ _ _, hbi, (fun i x e => by simp at e), ⟨cur0, hr0', hc0'⟩, fun _ => rfl⟩)
  clear hF0 hbi hbk hba hW0 f1 f2 f3 f4 f5 f6 f7 f8 g1 g2 g3 g4 g5 g6 g7 g8 HF HFI HBA hr0' hc0'
  refine rangeFuncH_found (F := Fence.wide) (n := 6) rfl (by omega) (gf := 34) (lb := #[.pointer (some ⟨w8.heap.size, 0, none⟩)]) rfl trivial (enters_of Tryz.func34 (by kernel_rfl) rfl)
    (all_stops _ (by omega) w8.heap.size (fun j => j = w9.heap.size ∨ j = g) k s n a (some ⟨g, 0, none⟩) xcap ks W0 (fun j e => by omega) h5 h6 h7 h8 h9 HF0.out.top)
    (fun h h' => h.trans h') CK.putObj (Below.refl _ _) (fun _ => rfl)
    (AlI W0 w9.heap.size g ks.length kk L) (AlX L) (AlI.own (by omega) (by omega)) (fun c => AlX.own c) HI0.out (BxN W0.heap.size) BxN.own ?ab ?done ?stop
  case ab =>
    apply Exists.intro
    refine And.intro ?_ ?_
    · intro l pre x W K hi hK
      obtain ⟨B, hB⟩ : ∃ B, B = W.heap.size := ⟨_, rfl⟩
      unfold Tl.encs
      gi_wp2
      have e : W.heap.size = B := hB.symm
      rw [e]
      exact hK.out B _ ((KeepsOthers.alloc W _).from _) ((CK.refl _ _).alloc _) (hi.alloc _) ⟨by rw [hB]; exact hi.1.size, by rw [hB]; exact heap_alloc_new W _⟩
    · rintro l pre x B W hI ⟨hBH, hBx⟩ hlt
      obtain ⟨q, HQ⟩ : ∃ q, Hid (pre.length = q) := ⟨_, rfl⟩
      obtain ⟨hx4, hwb, hrb, hrow, hbw⟩ := HF0.out.reads hI.1 hlt6
      have hkb : Boxed W (w9.heap.size + 1) 3 (.int .i64 kk) := (hI.1.block _ (by omega) (by omega)).trans HBK.out
      have hib := hI.2.1
      rw [HQ.out] at hib hlt
      have c1 := hwb.cell
      have c2 := hkb.cell
      have c3 := hrb.cell
      have c4 := hrb.frozen
      have c5 := hib.cell
      have c6 := hib.frozen
      have d0 : W.cell? ⟨B, 0, none⟩ = some (.int .i64 x.k) := cell_of_row W _ 0 _ _ _ hBx
      have d1 : W.cell? ⟨B, 1, none⟩ = some (.string x.s) := cell_of_row W _ 1 _ _ _ hBx
      have d2 : W.cell? ⟨B, 2, none⟩ = some (.int .i64 x.n) := cell_of_row W _ 2 _ _ _ hBx
      have d3 : W.cell? ⟨B, 3, none⟩ = some (.int .i64 x.a) := cell_of_row W _ 3 _ _ _ hBx
      have d4 : W.cell? ⟨B, 4, none⟩ = some (.slice none 0 0) := cell_of_row W _ 4 _ _ _ hBx
      have hWs : W0.heap.size ≤ W.heap.size := hI.1.size
      have HII := Lib.hid hI
      have HX4 := Lib.hid hx4
      have HROW := Lib.hid hrow
      have HRB := Lib.hid hrb
      clear hx4 hwb hrb hrow hbw hkb hib hI h5 h6 h7 h8 h9 hBx
      by_cases hq : q < L.length
      · obtain ⟨y, hy⟩ : ∃ y, L[q]? = some y := ⟨L[q], List.getElem?_eq_getElem hq⟩
        obtain ⟨gw, rfl, hgw, e0, e1, e2, e3, e4, e5⟩ := HROW.out.get hy
        have HY := Lib.hid hy
        clear hy
        obtain ⟨xd, xk, xs, xn, xa⟩ := x
        obtain ⟨yd, yk, ys, yn, ya⟩ := y
        dsimp only at d0 d1 d2 d3 d4 e0 e1 e2 e3 e4 e5
        have hg2 : (xk == yk && (xs.toList == ys.toList && (xn == yn && xa == ya))) = true → (xk = yk ∧ xs = ys ∧ xn = yn ∧ xa = ya) := by
          intro h
          simp only [Bool.and_eq_true, beq_iff_eq] at h
          exact ⟨h.1, toList_inj h.2.1, h.2.2.1, h.2.2.2⟩
        obtain ⟨b, HB⟩ : ∃ b, Hid ((xk == yk && (xs.toList == ys.toList && (xn == yn && xa == ya))) = b) := ⟨_, rfl⟩
        have HG2' := Lib.hid hg2
        have hl3 := HRB.out.lt
        clear hg2
        gi_wp2
        gi_cut [17] from 74 (fun v X => v = .bool b ∧ Below W.heap.size W X)
        case first =>
          gi_region_with (refine ⟨trivial, ?_⟩; gi_at_call 21; refine (CallsIn.inRound l (callsIn_wide.2 (nodeAlike_any _ _ _ _ _ _ _ _ _))).mono ?_; rintro e w91 ⟨rfl, hb9⟩; rw [HB.out])
          all_goals
            rename_i J K' hJ hK
            refine hK _ _ (Met.intro (hJ _ _ ?_))
            (repeat apply Exists.intro)
            exact ⟨⟨rfl, of_drew hb9⟩, rfl⟩
        case rest =>
          obtain ⟨rfl, hbc⟩ := hcut
          have hc1 := (hbc.cell (p := ⟨w6.heap.size, 0, none⟩) (show w6.heap.size < W.heap.size by omega)).trans c1
          have hc2 := (hbc.cell (p := ⟨w9.heap.size + 1, 0, none⟩) (show w9.heap.size + 1 < W.heap.size by omega)).trans c2
          have hc3 := (hbc.cell (p := ⟨w.heap.size + 1, 0, none⟩) hl3).trans c3
          have hc4 := (hbc.frozen (p := ⟨w.heap.size + 1, 0, none⟩) hl3).trans c4
          have hc5 := (hbc.cell (p := ⟨w9.heap.size, 0, none⟩) (show w9.heap.size < W.heap.size by omega)).trans c5
          have hc6 := (hbc.frozen (p := ⟨w9.heap.size, 0, none⟩) (show w9.heap.size < W.heap.size by omega)).trans c6
          have hy0 := (hbc.cell (p := ⟨gw, q * 6, none⟩) hgw).trans e0
          have HBC := Lib.hid hbc
          clear hbc c1 c2 c3 c4 c5 c6 d0 d1 d2 d3 d4 e0 e1 e2 e3 e4 e5
          cases b
          · gi_wp2
            refine all_bad ((keeps_below HBC.out).trans (KeepsOthers.setCell _ _ _)) ?_
            rw [HQ.out, HY.out]
            intro e
            injection e with e
            injection e with e1 e2 e3 e4 e5
            have := HB.out
            rw [e2, e3, e4, e5] at this
            simp at this
          · obtain ⟨e2, e3, e4, e5⟩ := HG2'.out HB.out
            by_cases hdd : xd = yd
            · have HYX := Lib.hid (show L[q]? = some ⟨xd, xk, xs, xn, xa⟩ by rw [HY.out, hdd, e2, e3, e4, e5])
              clear e2 e3 e4 e5
              subst hdd
              by_cases hqm : (q : Int) = kk
              · subst hqm
                have hFW := HF0.out.foot HII.out.1 hlt6 (HII.out.2.2.2.2 (by rw [HQ.out]; exact Int.le_refl _))
                have HFC := Lib.hid (hFW.after HBC.out)
                obtain ⟨f1, f2, f3, f4, f5, f6, f7, f8⟩ := HFC.out.cells
                clear hFW
                gi_wp2_with (refine ⟨trivial, ?_⟩; gi_at_call 17; have lx := goes_any (.mk k s n a ks) _ (some ⟨gw, 0, none⟩) wcap L 0 _ HFC.out.top HFC.out.want (by unfold okI; omega) HPL.out (.inl HPE.out); (with_reducible refine (CallsIn.inRound l (callsIn_wide.2 lx)).mono ?_); clear lx; rintro e w11 ⟨rfl, hb⟩
                             have HF11 := Lib.hid (HFC.out.after hb)
                             have HB11 := Lib.hid (HBC.out.trans (hb.mono HBC.out.size))
                             have hwc := HBC.out.size
                             have hw11 := hb.size
                             clear f1 f2 f3 f4 f5 f6 f7 f8 hc1 hc2 hc3 hc4 hc5 hc6 hy0 hb)
                obtain ⟨cur1, hr1', hc1'⟩ := HF11.out.row
                have hkl := HKL.out
                gi_loopw [19] (fun i wr => ∃ (j : Nat) (cur : Array Value), j ≤ ks.length ∧ i = .int .i64 j ∧ Hid (wr.heap[g]? = some (.cells cur 24 (0, 0))) ∧ Hid (cur.size = (ks.length + 2) * 5) ∧ Foot w11.heap.size (fun b => b = g) w11 wr) (fun i _ => ks.length - (intOf i).toNat)
                case atStart => exact ⟨0, cur1, by omega, rfl, Lib.hid hr1', Lib.hid hc1', Foot.refl _ _ _⟩
                case round =>
                  obtain ⟨j, cur, hj, rfl, hgc, hcs, hft⟩ := hrel
                  have hbx : wr.cell? ⟨w5.heap.size, 4, none⟩ = some (.slice (some ⟨g, 0, none⟩) ks.length xcap) := cell_of_row wr _ 4 _ _ _ ((hft.block _ (by omega) (by omega)).trans HF11.out.bx)
                  have hwrs := hft.size
                  by_cases hlt2 : j < ks.length
                  · have hcs' := hcs.out
                    obtain ⟨⟨u0, e0⟩, z0⟩ := block_cell hgc.out (i := j * 5) (by omega)
                    obtain ⟨⟨u1, e1⟩, z1⟩ := block_cell hgc.out (i := j * 5 + 1) (by omega)
                    obtain ⟨⟨u2, e2⟩, z2⟩ := block_cell hgc.out (i := j * 5 + 2) (by omega)
                    obtain ⟨⟨u3, e3⟩, z3⟩ := block_cell hgc.out (i := j * 5 + 3) (by omega)
                    obtain ⟨⟨u4, e4⟩, z4⟩ := block_cell hgc.out (i := j * 5 + 4) (by omega)
                    have HR := Lib.hid (set5_same hgc.out (j * 5) (.int .i64 79) (.string ⟨#[]⟩) (.int .i64 0) (.int .i64 0) (.slice none 0 0) (by omega))
                    have HFN := Lib.hid (set5_foot hft (j * 5) (.int .i64 79) (.string ⟨#[]⟩) (.int .i64 0) (.int .i64 0) (.slice none 0 0))
                    clear hft hcs'
                    gi_wp2
                    obtain ⟨cur2, r1, r2, -⟩ := HR.out
                    go_roundw
                    case rel => exact ⟨j + 1, cur2, by omega, by go_num, Lib.hid r1, Lib.hid (r2.trans hcs.out), HFN.out⟩
                    case measure => simp [intOf]; omega
                  · obtain rfl : j = ks.length := by omega
                    have hib2 : Boxed wr w9.heap.size 3 (.int .i64 q) := (hft.block w9.heap.size (by omega) (by omega)).trans ((HB11.out.block w9.heap.size (by omega)).trans (by have := HII.out.2.1; rw [HQ.out] at this; exact this))
                    have c5 := hib2.cell
                    have c6 := hib2.frozen
                    have HFT := Lib.hid hft
                    clear hib2 hft
                    gi_wp2
                    exact all_good HII.out ((Foot.of HB11.out).trans (HFT.out.mono (by omega) (fun _ _ e => e))) ⟨cur, hgc.out, hcs.out⟩ HQ.out (fun e => absurd e (by omega)) HYX.out (by omega) (by omega)
              · have hqm' : ((q : Int) == kk) = false := by simp [hqm]
                gi_wp2
                obtain ⟨-, -, -, hr4, -⟩ := HII.out
                obtain ⟨cur, hr5, hr6⟩ := hr4
                have hgl := (Array.getElem?_eq_some_iff.1 hr5).1
                exact all_good HII.out (Foot.of HBC.out) ⟨cur, (HBC.out.block g hgl).trans hr5, hr6⟩ HQ.out (fun _ => HBC.out.block g hgl) HYX.out (by omega) (by omega)
            · have hdd' : (xd != yd) = true := by simp [hdd]
              clear e2 e3 e4 e5
              gi_wp2
              refine all_bad ((keeps_below HBC.out).trans (KeepsOthers.setCell _ _ _)) ?_
              rw [HQ.out, HY.out]
              intro e
              injection e with e
              injection e with e1 e2 e3 e4 e5
              exact hdd e1.symm
      · have hq' : (L.length : Int) ≤ q := by omega
        gi_wp2
        refine all_bad (KeepsOthers.setCell _ _ _) ?_
        rw [HQ.out, List.getElem?_eq_none (by omega)]
        intro e
        cases e
  case done =>
    rintro D ys W hD hys hI hK
    rw [← HPE.out] at hys
    subst hys
    obtain ⟨hx4, hwb, hrb, hrow, hbw⟩ := HF0.out.reads hI.1 hlt6
    have hib := hI.2.1
    have c1 := hwb.cell
    have c3 := hrb.cell
    have c4 := hrb.frozen
    have c5 := hib.cell
    have HRB := Lib.hid hrb
    have HBW := Lib.hid hbw
    have HKD := Lib.hid hK
    clear hx4 hwb hrb hrow hbw hib hI hK h5 h6 h7 h8 h9
    gi_wp2
    exact all_end HBW.out HRB.out HKD.out (by omega) _ rfl
  case stop =>
    rintro D c' pre W hD ⟨j, hj⟩ ⟨rfl, ps, x, hx, hnx⟩ hK
    exfalso
    have h1 : (((Nd.mk k s n a ks).lay 1000000 0 1).take j)[ps.length]? = some x := by rw [← hj, hx]; simp
    rw [List.getElem?_take] at h1
    split at h1
    · rw [← HPE.out] at h1; exact hnx h1
    · cases h1
end Go.Proofs.YtjpmghgmmeemkaaGreatDoor
