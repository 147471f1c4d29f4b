/- guiselaw2.pick, guiselaw2.alike, guiselaw2.goes. -/
import Derived.Test.YtjpmghgmmeemkaaGreatDoorAll
import Derived.Test.YtjpmghgmmeemkaaGreatDoorMore
import Derived.Test.YtjpmghgmmeemkaaGreatDoorOrd
import Derived.Stop.RegionWithIn
import Derived.Sort.CutIn
namespace Go.Proofs.YtjpmghgmmeemkaaGreatDoor
open Go.RowKit Go.Shelf
attribute [local go_sem] Oper.semAt_some run_eql_funcNil

set_option maxHeartbeats 1000000 in
theorem pick_any (c n : Int) (w : World) (hc : okI c) (h0 : 0 < n) (h1 : n ≤ 9223372036854775807) : Calls Tryz.prog 16 #[.int .i64 c, .int .i64 n] w fun e w' => ∃ r, e = .returned (.int .i64 r) ∧ 0 ≤ r ∧ r < n ∧ w' = w := by
  unfold okI at hc
  by_cases hneg : c < 0
  · have HP := Lib.hid (show 0 ≤ (-(c + 1)).tmod n ∧ (-(c + 1)).tmod n < n from ⟨Int.tmod_nonneg n (by omega), Int.tmod_lt_of_pos _ h0⟩)
    go_enter Tryz.func16, Tryz.ntmps16
    go_wp2_with fail
    go_ret
    refine ⟨_, rfl, ?_, ?_, rfl⟩
    · have := HP.out.1
      rw [Int.neg_tmod] at this
      exact this
    · have := HP.out.2
      rw [Int.neg_tmod] at this
      exact this
  · have hc' : 0 ≤ c := by omega
    go_enter Tryz.func16, Tryz.ntmps16
    go_wp2_with fail
    go_ret
    exact ⟨_, rfl, Int.emod_nonneg _ (by omega), Int.emod_lt_of_pos _ h0, rfl⟩

set_option maxRecDepth 100000 in
set_option maxHeartbeats 1000000 in
theorem nodeAlike_any (k : Int) (s : ByteArray) (n a : Int) (k' : Int) (s' : ByteArray) (n' a' : Int) (w : World) :
    Calls Tryz.prog 21 #[.agg #[.int .i64 k, .string s, .int .i64 n, .int .i64 a, .slice none 0 0], .agg #[.int .i64 k', .string s', .int .i64 n', .int .i64 a', .slice none 0 0]] w fun e w' =>
      e = .returned (.bool (k == k' && (s.toList == s'.toList && (n == n' && a == a')))) ∧ Below w.heap.size w w' := by
  go_enter Tryz.func21, Tryz.ntmps21
  go_wp2_with fail
  all_goals
    go_ret
    refine ⟨ret_bool ?_, ((Below.refl _ _).alloc (Nat.le_refl _) _).alloc (by simp) _⟩
    simp_all
/-- wpIn_rangeFunc_ownH, where the assignment to the loop's variables lays one box, the activation behind it left to be found. -/
theorem rangeFuncH_found {F : Fence} {n : Nat} {P : Program} {α : Type} {g : Operand} {ps : Array Tmp} {assign body : Code} {Q : Exit → Act → World → Prop} {a : Act} {w : World}
    (hro : F.round = none) (h1 : 1 ≤ n) {gf : Nat} {lb : Array Value} (hg : a.eval g = .func (.func gf) #[] lb) (hFg : F.fn gf) (eg : ∀ args w, (callFunc gf args).run P w = .ok (.enter gf args) w)
    {encs : α → Array Value} {Kp : World → World → Prop} {S Sp : List α → Prop} {N : Nat} {w0 : World} (hseq : SeqStopsK F (n - 1) P gf lb encs Kp S Sp N w0)
    (hKt : ∀ {A B C : World}, Kp A B → Kp B C → Kp A C) (hKb : ∀ (W : World) (l : Nat) (o o' : Obj), w.heap.size ≤ l → W.heap[l]? = some o → o.isCells = false → o.isWalk = false → Kp W (W.putObj l o')) (hb0 : Below w0.heap.size w0 w) (hps : ∀ x, (encs x).size = ps.size)
    (I : List α → World → Prop) (Ix : Code → List α → World → Prop) (hI : OwnFrom w.heap.size I) (hIx : ∀ c, OwnFrom w.heap.size (Ix c)) (h0 : I [] w) (Bx : α → Nat → World → Prop) (hBx : ∀ x B, OwnFrom w.heap.size (fun (_ : Unit) W => Bx x B W))
    (hab : ∃ a₁ : α → Nat → Act, (∀ (l : Nat) (pre : List α) (x : α) (W : World) (K : Act → World → Prop), I pre W → Hid (∀ B W', KeepsFrom w.heap.size W W' → Kp W W' → I pre W' → Bx x B W' → K (a₁ x B) W') →
      assign.wpIn (F.inRound l) (n - 1 - 1) P (Exit.then K (fun _ _ _ => False)) { tmps := (ps.zip (encs x)).foldl (fun t (p, v) => t.setIfInBounds p v) a.tmps, defers := [] } W) ∧
      (∀ (l : Nat) (pre : List α) (x : α) (B : Nat) (W : World), I pre W → Bx x B W → pre.length < N → body.wpIn (F.inRound l) (n - 1 - 1) P (ownPostG w.heap.size Kp I Ix (pre ++ [x]) W) (a₁ x B) W))
    (hdone : ∀ (D : Nat) (xs : List α) (W : World), w.heap.size ≤ D → S xs → I xs W → W.heap[D]? = some (.deferred (some [])) → Q .normal { a with defers := { target := .collected D, args := #[] } :: a.defers } W)
    (hstop : ∀ (D : Nat) (c : Code) (pre : List α) (W : World), w.heap.size ≤ D → Sp pre → Ix c pre W → W.heap[D]? = some (.deferred (some [])) → c.wpIn F n P Q { a with defers := { target := .collected D, args := #[] } :: a.defers } W) :
    (Code.rangeFunc g ps assign body).wpIn F n P Q a w := by
  obtain ⟨a₁, ha, hb⟩ := hab
  exact wpIn_rangeFunc_ownH hro h1 hg hFg eg hseq hKt hKb hb0 hps I Ix hI hIx h0 (fun x a' W => ∃ B, a' = a₁ x B ∧ Bx x B W) (fun x a' _ W W' row ⟨B, e, h⟩ hg hr => ⟨B, e, hBx x B () W W' row h hg hr⟩)
    (fun l pre x W K hi hK => ha l pre x W K hi (Lib.hid fun B W' h1 h2 h3 h4 => hK _ _ h1 h2 h3 ⟨B, rfl, h4⟩)) (fun l pre x a' W _ _ hi ⟨B, e, h⟩ => by subst e; exact hb l pre x B W hi h) hdone hstop

/-- The loop's node lies in a box of its own. -/
def BxN (H : Nat) (x : Tl) (B : Nat) (W : World) : Prop := H ≤ B ∧ W.heap[B]? = some (.cells #[.int .i64 x.k, .string x.s, .int .i64 x.n, .int .i64 x.a, .slice none 0 0] 24 (0, 0))
theorem BxN.own {H : Nat} (x : Tl) (B : Nat) : OwnFrom H (fun (_ : Unit) W => BxN H x B W) := by
  rintro _ W W' row ⟨h1, h2⟩ hg hr
  refine ⟨h1, (hg.block B (Array.getElem?_eq_some_iff.1 h2).1 (fun e => ?_)).trans h2⟩
  obtain ⟨_, o, ho, hc⟩ := hr B e.symm
  rw [h2] at ho; cases ho; cases hc

/-- The nodes L lie in w as a list of guiseref2.Told. -/
def RowAt (w : World) (A : Option Addr) (L : List Tl) : Prop := L = [] ∨ ∃ g, A = some ⟨g, 0, none⟩ ∧ g < w.heap.size ∧ ∀ j u, (tlCells L)[j]? = some u → w.cell? ⟨g, j, none⟩ = some u
theorem RowAt.up {w W : World} {A : Option Addr} {L : List Tl} (h : RowAt w A L) (hb : Below w.heap.size w W) : RowAt W A L :=
  h.imp id (fun ⟨g, h1, h2, h3⟩ => ⟨g, h1, Nat.lt_of_lt_of_le h2 hb.size, fun j u hj => (hb.cell (p := ⟨g, j, none⟩) h2).trans (h3 j u hj)⟩)
theorem RowAt.of {w : World} {B e cap : Nat} {A : Option Addr} {L : List Tl} (h : w.ownsRow B e 6 (.slice A L.length cap) L.length (tlCells L)) : RowAt w A L := by
  by_cases h0 : L.length = 0
  · exact .inl (List.eq_nil_of_length_eq_zero h0)
  · obtain ⟨g, rfl, _, h2⟩ := row_some h (by omega)
    refine .inr ⟨g, rfl, h2, fun j u hj => ?_⟩
    have := h.cells (g := g) rfl j u hj
    have e : (⟨g, 0, none⟩ : Addr).add j = ⟨g, j, none⟩ := by unfold Addr.add; split <;> simp_all
    rw [e] at this; exact this
theorem RowAt.get {w : World} {A : Option Addr} {L : List Tl} (h : RowAt w A L) {j : Nat} {x : Tl} (hx : L[j]? = some x) : ∃ g, A = some ⟨g, 0, none⟩ ∧ g < w.heap.size ∧
    w.cell? ⟨g, j * 6, none⟩ = some (.int .i64 x.deep) ∧ w.cell? ⟨g, j * 6 + 1, none⟩ = some (.int .i64 x.k) ∧ w.cell? ⟨g, j * 6 + 2, none⟩ = some (.string x.s) ∧ w.cell? ⟨g, j * 6 + 3, none⟩ = some (.int .i64 x.n) ∧
    w.cell? ⟨g, j * 6 + 4, none⟩ = some (.int .i64 x.a) ∧ w.cell? ⟨g, j * 6 + 5, none⟩ = some (.slice none 0 0) := by
  rcases h with rfl | ⟨g, rfl, h2, h3⟩
  · simp at hx
  · have e : ∀ i v, x.cells[i]? = some v → w.cell? ⟨g, j * 6 + i, none⟩ = some v := fun i v hi => by
      have hi6 : i < 6 := by have := (List.getElem?_eq_some_iff.1 hi).1; simpa [Tl.cells] using this
      exact h3 (j * 6 + i) v (by rw [tlCells_get L j i x hx hi6]; exact hi)
    exact ⟨g, rfl, h2, e 0 _ rfl, e 1 _ rfl, e 2 _ rfl, e 3 _ rfl, e 4 _ rfl, e 5 _ rfl⟩

/-- The frame of goes: the boxes of n, want, most, and the result. -/
structure GF (NC : Array Value) (WV : Value) (m : Int) (w W : World) : Prop where
  size : w.heap.size + 4 ≤ W.heap.size
  below : Below w.heap.size w W
  b0 : W.heap[w.heap.size]? = some (.cells NC 24 (0, 0))
  b1 : Boxed W (w.heap.size + 1) 42 WV
  b2 : Boxed W (w.heap.size + 1 + 1) 3 (.int .i64 m)
  b3 : Boxed W (w.heap.size + 1 + 1 + 1) 4 (.bool false)

theorem GF.step {NC : Array Value} {WV : Value} {m : Int} {w W W' : World} (h : GF NC WV m w W) {C : Nat} (hb : Below C W W') (hC : w.heap.size + 4 ≤ C) : GF NC WV m w W' :=
  ⟨Nat.le_trans h.size hb.size, h.below.trans (hb.mono (by omega)), (hb.block _ (by omega)).trans h.b0, (hb.block _ (by omega)).trans h.b1, (hb.block _ (by omega)).trans h.b2, (hb.block _ (by omega)).trans h.b3⟩
theorem GF.init (NC : Array Value) (WV : Value) (m : Int) (w : World) : GF NC WV m w ((((w.alloc (.cells NC 24)).alloc (.cells #[WV] 42)).alloc (.cells #[.int .i64 m] 3)).alloc (.cells #[.bool false] 4)) := by
  refine ⟨by simp, (((Below.refl _ _).alloc (Nat.le_refl _) _).alloc (by simp) _ |>.alloc (by simp; omega) _).alloc (by simp; omega) _, ?_, ?_, ?_, ?_⟩
  · rw [heap_alloc_old _ _ _ (by simp; omega), heap_alloc_old _ _ _ (by simp; omega), heap_alloc_old _ _ _ (by simp)]; exact heap_alloc_new w _
  · have := heap_alloc_new (w.alloc (.cells NC 24)) (.cells #[WV] 42)
    unfold Boxed
    rw [heap_alloc_old _ _ _ (by simp), heap_alloc_old _ _ _ (by simp)]
    simpa using this
  · have := heap_alloc_new ((w.alloc (.cells NC 24)).alloc (.cells #[WV] 42)) (.cells #[.int .i64 m] 3)
    unfold Boxed
    rw [heap_alloc_old _ _ _ (by simp)]
    simpa using this
  · have := heap_alloc_new (((w.alloc (.cells NC 24)).alloc (.cells #[WV] 42)).alloc (.cells #[.int .i64 m] 3)) (.cells #[.bool false] 4)
    simpa [Boxed] using this

def GoI (W3 : World) (Bi : Nat) (Wt : List Tl) (m : Int) (pre : List Tl) (W : World) : Prop :=
  Foot W3.heap.size (fun j => j = Bi) W3 W ∧ Boxed W Bi 3 (.int .i64 pre.length) ∧ (∀ (i : Nat) (x : Tl), pre[i]? = some x → Wt[i]? = some x) ∧ ∀ i : Nat, 1 ≤ i → i ≤ pre.length → (i : Int) ≠ m
def GoX (w : World) (Wt : List Tl) (m : Int) (c : Code) (pre : List Tl) (W : World) : Prop :=
  c = .ret ∧ ((∃ ps x, pre = ps ++ [x] ∧ ¬ Wt[ps.length]? = some x ∧ ∀ i : Nat, 1 ≤ i → i ≤ ps.length → (i : Int) ≠ m) ∨
    (Below w.heap.size w W ∧ Boxed W (w.heap.size + 1 + 1 + 1) 4 (.bool true) ∧ w.heap.size + 6 ≤ W.heap.size))
theorem GoI.own {W3 : World} {Bi : Nat} {Wt : List Tl} {m : Int} (h : Bi < W3.heap.size) : OwnFrom W3.heap.size (GoI W3 Bi Wt m) := by
  rintro pre W W' row ⟨h1, h2, h3⟩ hg hr
  exact ⟨h1.grown hg h1.size (fun j e => (hr j e).1), h2.kept hg (fun e => by have := (hr _ e.symm).1; omega), h3⟩
theorem GoX.own {w : World} {B : Nat} {Wt : List Tl} {m : Int} (h : w.heap.size + 6 ≤ B) (c : Code) : OwnFrom B (GoX w Wt m c) := by
  rintro pre W W' row ⟨h1, h2⟩ hg hr
  refine ⟨h1, h2.imp id (fun ⟨a, b, c⟩ => ⟨a.grown hg (by omega) (fun j e => by have := (hr j e).1; omega), b.kept hg (fun e => by have := (hr _ e.symm).1; omega), Nat.le_trans c hg.size⟩)⟩
theorem goes_bad {w W W' W3 : World} {Bi H : Nat} {Wt : List Tl} {m : Int} {pre : List Tl} {x : Tl} {a : Act} (hk : KeepsOthers W W') (hm : ∀ i : Nat, 1 ≤ i → i ≤ pre.length → (i : Int) ≠ m) (h : ¬ Wt[pre.length]? = some x) :
    ownPostG H (CK fun j => j = Bi) (GoI W3 Bi Wt m) (GoX w Wt m) (pre ++ [x]) W .ret a W' := ⟨hk.from _, rfl, .inl ⟨pre, x, rfl, h, hm⟩⟩

theorem keeps_below {W W' : World} (h : Below W.heap.size W W') : KeepsOthers W W' := ⟨h.size, fun k _ hk _ => (h.block k (Array.getElem?_eq_some_iff.1 hk).1).trans hk⟩
theorem goes_early {w W W' W3 : World} {Bi H : Nat} {Wt : List Tl} {m : Int} {pre : List Tl} {a : Act} {v : Value} (hb : Below W.heap.size W W') (hw : Below w.heap.size w W) (h3 : Boxed W (w.heap.size + 1 + 1 + 1) 4 (.bool false)) (hBi : w.heap.size + 6 ≤ W.heap.size) :
    ownPostG H (CK fun j => j = Bi) (GoI W3 Bi Wt m) (GoX w Wt m) pre W .ret a ((W'.setCell ⟨w.heap.size + 1 + 1 + 1 + 1, 0, none⟩ v).setCell ⟨w.heap.size + 1 + 1 + 1, 0, none⟩ (.bool true)) := by
  have h3' : Boxed W' (w.heap.size + 1 + 1 + 1) 4 (.bool false) := (hb.block _ (by omega)).trans h3
  have hsz := hb.size
  refine ⟨(((keeps_below hb).trans (KeepsOthers.setCell _ _ _)).trans (KeepsOthers.setCell _ _ _)).from _, rfl, .inr ⟨?_, ?_, by simp; omega⟩⟩
  · exact ((hw.trans (hb.mono hw.size)).setCell (p := ⟨w.heap.size + 1 + 1 + 1 + 1, 0, none⟩) (by simp; omega) v).setCell (p := ⟨w.heap.size + 1 + 1 + 1, 0, none⟩) (by simp; omega) _
  · exact (h3'.other (by omega) v).set (.bool true)
theorem goes_good {W W' W3 : World} {Bi H q : Nat} {Wt : List Tl} {m : Int} {pre : List Tl} {x : Tl} {a : Act} {w : World} (hf : Foot W3.heap.size (fun j => j = Bi) W3 W) (hbx : Boxed W Bi 3 (.int .i64 q)) (hb : Below W.heap.size W W')
    (hp : ∀ (i : Nat) (x : Tl), pre[i]? = some x → Wt[i]? = some x) (hm1 : ∀ i : Nat, 1 ≤ i → i ≤ pre.length → (i : Int) ≠ m) (hq : pre.length = q) (_hBi : Bi < W3.heap.size) (hx : Wt[q]? = some x) (hqm : ¬ (q : Int) + 1 = m) :
    ownPostG H (CK fun j => j = Bi) (GoI W3 Bi Wt m) (GoX w Wt m) (pre ++ [x]) W .normal a (W'.setCell ⟨Bi, 0, none⟩ (.int .i64 ((q : Int) + 1))) := by
  subst hq
  have h1 := hf.size
  have hbx' : Boxed W' Bi 3 (.int .i64 pre.length) := (hb.block _ hbx.lt).trans hbx
  refine ⟨((keeps_below hb).trans (KeepsOthers.setCell _ _ _)).from _, CK.set (g := fun j => j = Bi) (CK.of hb) (p := ⟨Bi, 0, none⟩) rfl _, (hf.trans (Foot.of (hb.mono h1))).set (p := ⟨Bi, 0, none⟩) (.inr rfl) _, by simpa using hbx'.set (.int .i64 ((pre.length : Int) + 1)), ?_, ?_⟩
  · intro i y hi
    by_cases hlt : i < pre.length
    · rw [List.getElem?_append_left hlt] at hi
      exact hp i y hi
    · rw [List.getElem?_append_right (by omega)] at hi
      have h0 : i - pre.length = 0 := by
        have := (List.getElem?_eq_some_iff.1 hi).1; simp at this; omega
      rw [h0] at hi
      simp at hi
      subst hi
      rw [show i = pre.length from by omega]
      exact hx
  · intro i h1 h2
    simp at h2
    by_cases h : i ≤ pre.length
    · exact hm1 i h1 h
    · intro e; exact hqm (by omega)

theorem goes_result (tmps : Array Value) (W : World) (g : Nat) (v : Value) (h8 : tmps.getD 6 undef = .pointer (some ⟨g, 0, none⟩)) (hc : W.cell? ⟨g, 0, none⟩ = some v) :
    (results Tryz.f17 tmps).run Tryz.prog W = .ok v W := by
  have h8' : tmps[6]?.getD undef = .pointer (some ⟨g, 0, none⟩) := by simpa using h8
  simp [results, Tryz.f17, go_sem, h8', hc]
theorem goes_stop {w W : World} {D : Nat} (hb : Below w.heap.size w W) (h3 : Boxed W (w.heap.size + 1 + 1 + 1) 4 (.bool true)) (hK : W.heap[D]? = some (.deferred (some []))) (hD : w.heap.size + 6 ≤ D) (tmps : Array Value) (h8 : tmps.getD 6 undef = .pointer (some ⟨w.heap.size + 1 + 1 + 1, 0, none⟩)) :
    bodyPostM Fence.wide 6 Tryz.prog Tryz.f17 (fun e w' => e = .returned (.bool true) ∧ Below w.heap.size w w') .ret { tmps := tmps, defers := [{ target := .collected D, args := #[] }] } W := by
  have hg := grownBy_putObj' W D (.deferred none)
  have hDW := (Array.getElem?_eq_some_iff.1 hK).1
  refine ⟨by simp, .inl ⟨_, _, rfl, run_takeDeferred hK, ?_⟩⟩
  exact ⟨_, goes_result _ _ _ _ h8 (h3.kept hg (by simp; omega)).cell, rfl, hb.grown hg (by omega) (fun j e => by cases e; omega)⟩
theorem goes_end {w W : World} {D : Nat} (hb : Below w.heap.size w W) (h3 : Boxed W (w.heap.size + 1 + 1 + 1) 4 (.bool false)) (hK : W.heap[D]? = some (.deferred (some []))) (hD : w.heap.size + 6 ≤ D) (tmps : Array Value) (h8 : tmps.getD 6 undef = .pointer (some ⟨w.heap.size + 1 + 1 + 1, 0, none⟩)) :
    bodyPostM Fence.wide 6 Tryz.prog Tryz.f17 (fun e w' => e = .returned (.bool true) ∧ Below w.heap.size w w') .ret { tmps := tmps, defers := [{ target := .collected D, args := #[] }] } (W.setCell ⟨w.heap.size + 1 + 1 + 1, 0, none⟩ (.bool true)) :=
  goes_stop (hb.setCell (p := ⟨w.heap.size + 1 + 1 + 1, 0, none⟩) (by simp; omega) _) (h3.set _) ((KeepsOthers.setCell W ⟨w.heap.size + 1 + 1 + 1, 0, none⟩ (.bool true)).same D _ hK rfl) hD tmps h8

set_option maxRecDepth 100000 in
set_option maxHeartbeats 4000000 in
theorem goes_any (t : Nd) (v : Value) (WA : Option Addr) (wcap : Nat) (Wt : List Tl) (m : Int) (w : World) (h : Lies w w.heap.size t v) (hrow : RowAt w WA Wt) (hm : okI m) (hpre : ∃ j, Wt = (t.lay 1000000 0 1).take j) (hend : Wt = t.lay 1000000 0 1 ∨ (1 ≤ m ∧ m ≤ Wt.length)) :
    Calls Tryz.prog 17 #[v, .slice WA Wt.length wcap, .int .i64 m] w fun e w' => e = .returned (.bool true) ∧ Below w.heap.size w w' := by
  have HX := Lib.hid h
  obtain ⟨k, s, n, a, ks⟩ := t
  obtain ⟨A, cap, rfl⟩ : ∃ (A : Option Addr) (cap : Nat), v = .agg #[.int .i64 k, .string s, .int .i64 n, .int .i64 a, .slice A ks.length cap] := by
    unfold Lies at h; obtain ⟨A, cap, rfl, -⟩ := h; exact ⟨A, cap, rfl⟩
  have hG := GF.init #[.int .i64 k, .string s, .int .i64 n, .int .i64 a, .slice A ks.length cap] (.slice WA Wt.length wcap) m w
  have HG := Lib.hid (hG.step ((Below.refl _ _).alloc (Nat.le_refl _) (.cells #[.int .i64 0] 3)) hG.size)
  have HP := Lib.hid hpre
  have HE := Lib.hid hend
  have HR := Lib.hid hrow
  have g0 := cell_of_row _ _ 0 _ _ _ HG.out.b0
  have g1 := cell_of_row _ _ 1 _ _ _ HG.out.b0
  have g2 := cell_of_row _ _ 2 _ _ _ HG.out.b0
  have g3 := cell_of_row _ _ 3 _ _ _ HG.out.b0
  have g4 := cell_of_row _ _ 4 _ _ _ HG.out.b0
  clear hpre hend hrow h hG
  refine (callsIn_wide (n := 6)).1 ?_
  refine callsIn_of_wp_marks Tryz.func17 rfl trivial ?_ rfl
  simp only [Tryz.ntmps17, List.size_toArray, List.length_cons, List.length_nil, Nat.reduceAdd, Nat.reduceSub, Array.replicate_succ, Array.replicate_zero, List.push_toArray, List.append_toArray, List.nil_append, List.cons_append]
  gi_wp2_with (refine ⟨trivial, ?_⟩; gi_at_call 20; refine (callsIn_wide.2 (All_any _ _ _ _ _ _ _ _)).mono ?_; rintro e w4 ⟨rfl, hw4⟩
               have hbi : Boxed w4 (w.heap.size + 1 + 1 + 1 + 1) 3 (.int .i64 0) := by
                 rw [hw4]
                 have := (Boxed.new ((((w.alloc (.cells #[.int .i64 k, .string s, .int .i64 n, .int .i64 a, .slice A ks.length cap] 24)).alloc (.cells #[.slice WA Wt.length wcap] 42)).alloc (.cells #[.int .i64 m] 3)).alloc (.cells #[.bool false] 4)) 3 (.int .i64 0)).alloc (.cells #[.int .i64 k, .string s, .int .i64 n, .int .i64 a, .slice A ks.length cap] 24)
                 simpa using this
               have hnb : w4.heap[w.heap.size + 5]? = some (.cells #[.int .i64 k, .string s, .int .i64 n, .int .i64 a, .slice A ks.length cap] 24 (0, 0)) := by
                 rw [hw4]; simpa using heap_alloc_new (((((w.alloc (.cells #[.int .i64 k, .string s, .int .i64 n, .int .i64 a, .slice A ks.length cap] 24)).alloc (.cells #[.slice WA Wt.length wcap] 42)).alloc (.cells #[.int .i64 m] 3)).alloc (.cells #[.bool false] 4)).alloc (.cells #[.int .i64 0] 3)) (.cells #[.int .i64 k, .string s, .int .i64 n, .int .i64 a, .slice A ks.length cap] 24)
               have hG4 := HG.out.step (hw4 ▸ (Below.refl _ _).alloc (Nat.le_refl _) _) HG.out.size
               have h4s : w4.heap.size = w.heap.size + 6 := by rw [hw4]; simp
               have HG4 := Lib.hid hG4
               have HBI := Lib.hid hbi
               have HNB := Lib.hid hnb
               clear hw4 hG4 hbi hnb g0 g1 g2 g3 g4 HG
               try simp only [World.size_alloc])
  have h5 := cell_of_row w4 _ 0 _ _ _ HNB.out
  have h6 := cell_of_row w4 _ 1 _ _ _ HNB.out
  have h7 := cell_of_row w4 _ 2 _ _ _ HNB.out
  have h8 := cell_of_row w4 _ 3 _ _ _ HNB.out
  have h9 := cell_of_row w4 _ 4 _ _ _ HNB.out
  have HR4 := Lib.hid (HR.out.up HG4.out.below)
  have HX4 := Lib.hid (HX.out.up HG4.out.below)
  refine rangeFuncH_found (F := Fence.wide) (n := 6) rfl (by omega) (gf := 34) (lb := #[.pointer (some ⟨w.heap.size + 5, 0, none⟩)]) rfl trivial (enters_of Tryz.func34 (by kernel_rfl) rfl)
    (all_stops _ (by omega) (w.heap.size + 5) (fun j => j = w.heap.size + 1 + 1 + 1 + 1) k s n a A cap ks w4 (fun j e => by omega) h5 h6 h7 h8 h9 HX4.out)
    (fun h h' => h.trans h') CK.putObj (Below.refl _ _) (fun _ => rfl)
    (GoI w4 (w.heap.size + 1 + 1 + 1 + 1) Wt m) (GoX w Wt m) (GoI.own (by omega)) (fun c => GoX.own (by omega) c) ⟨Foot.refl _ _ _, HBI.out, (fun i x e => by simp at e), (fun i e e' => by simp at e'; omega)⟩ (BxN w4.heap.size) BxN.own ?ab ?done ?stop
  case ab =>
    apply Exists.intro
    refine And.intro ?_ ?_
    · intro l pre x W K hi hK
      obtain ⟨B, hB⟩ : ∃ B, B = W.heap.size := ⟨_, rfl⟩
      unfold Tl.encs
      gi_wp2
      have e : W.heap.size = B := hB.symm
      rw [e]
      exact hK.out B _ ((KeepsOthers.alloc W _).from _) ((CK.refl _ _).alloc _) ⟨hi.1.alloc hi.1.size _, hi.2.1.alloc _, hi.2.2⟩ ⟨by rw [hB]; exact hi.1.size, by rw [hB]; exact heap_alloc_new W _⟩
    · rintro l pre x B W ⟨hf, hbx, hp, hm1⟩ ⟨hBH, hBx⟩ hlt
      obtain ⟨q, HQ⟩ : ∃ q, Hid (pre.length = q) := ⟨_, rfl⟩
      rw [HQ.out] at hbx hlt hm1
      have hbw : Below w.heap.size w W := HG4.out.below.trans (hf.to (C := w.heap.size) (by omega) (fun j (e : j = _) => by omega))
      have hb : ∀ j, j < w4.heap.size → j ≠ w.heap.size + 1 + 1 + 1 + 1 → W.heap[j]? = w4.heap[j]? := fun j h1 h2 => hf.block j h1 h2
      have k1 : Boxed W (w.heap.size + 1) 42 (.slice WA Wt.length wcap) := (hb _ (by omega) (by omega)).trans HG4.out.b1
      have k2 : Boxed W (w.heap.size + 1 + 1) 3 (.int .i64 m) := (hb _ (by omega) (by omega)).trans HG4.out.b2
      have k3 : Boxed W (w.heap.size + 1 + 1 + 1) 4 (.bool false) := (hb _ (by omega) (by omega)).trans HG4.out.b3
      have c1 := k1.cell
      have c2 := k2.cell
      have c3 := k3.cell
      have c4 := k3.frozen
      have c5 := hbx.cell
      have c6 := hbx.frozen
      have d0 : W.cell? ⟨B, 0, none⟩ = some (.int .i64 x.k) := cell_of_row W _ 0 _ _ _ hBx
      have d1 : W.cell? ⟨B, 1, none⟩ = some (.string x.s) := cell_of_row W _ 1 _ _ _ hBx
      have d2 : W.cell? ⟨B, 2, none⟩ = some (.int .i64 x.n) := cell_of_row W _ 2 _ _ _ hBx
      have d3 : W.cell? ⟨B, 3, none⟩ = some (.int .i64 x.a) := cell_of_row W _ 3 _ _ _ hBx
      have d4 : W.cell? ⟨B, 4, none⟩ = some (.slice none 0 0) := cell_of_row W _ 4 _ _ _ hBx
      have HBW := Lib.hid hbw
      have HF := Lib.hid hf
      have HBX := Lib.hid hbx
      have HPP := Lib.hid hp
      have HM1 := Lib.hid hm1
      have HK3 := Lib.hid k3
      clear hbw hb k1 k2 k3 hf hbx hp hm1 h5 h6 h7 h8 h9 hBx
      by_cases hq : q < Wt.length
      · obtain ⟨y, hy⟩ : ∃ y, Wt[q]? = some y := ⟨Wt[q], List.getElem?_eq_getElem hq⟩
        obtain ⟨g, rfl, hg, e0, e1, e2, e3, e4, e5⟩ := (HR.out.up HBW.out).get hy
        have HY := Lib.hid hy
        clear hy
        obtain ⟨xd, xk, xs, xn, xa⟩ := x
        obtain ⟨yd, yk, ys, yn, ya⟩ := y
        dsimp only at d0 d1 d2 d3 d4 e0 e1 e2 e3 e4 e5
        have hg2 : (xk == yk && (xs.toList == ys.toList && (xn == yn && xa == ya))) = true → (xk = yk ∧ xs = ys ∧ xn = yn ∧ xa = ya) := by
          intro h
          simp only [Bool.and_eq_true, beq_iff_eq] at h
          exact ⟨h.1, toList_inj h.2.1, h.2.2.1, h.2.2.2⟩
        obtain ⟨b, HB⟩ : ∃ b, Hid ((xk == yk && (xs.toList == ys.toList && (xn == yn && xa == ya))) = b) := ⟨_, rfl⟩
        have HG2 := Lib.hid hg2
        clear hg2
        have hlB := HBX.out.lt
        have hl3 := HK3.out.lt
        have hWs : w4.heap.size ≤ W.heap.size := HF.out.size
        have hgW : g < W.heap.size := hg
        gi_wp2
        gi_cut [11] from 22 (fun v X => v = .bool b ∧ Below W.heap.size W X)
        case first =>
          gi_region_with (refine ⟨trivial, ?_⟩; gi_at_call 21; refine (CallsIn.inRound l (callsIn_wide.2 (nodeAlike_any _ _ _ _ _ _ _ _ _))).mono ?_; rintro e w9 ⟨rfl, hb9⟩; rw [HB.out])
          all_goals
            rename_i J K' hJ hK
            refine hK _ _ (Met.intro (hJ _ _ ?_))
            (repeat apply Exists.intro)
            exact ⟨⟨rfl, of_drew hb9⟩, rfl⟩
        case rest =>
          obtain ⟨rfl, hbc⟩ := hcut
          have hc1 := (hbc.cell (p := ⟨w.heap.size + 1, 0, none⟩) (show w.heap.size + 1 < W.heap.size by omega)).trans c1
          have hc2 := (hbc.cell (p := ⟨w.heap.size + 1 + 1, 0, none⟩) (show w.heap.size + 1 + 1 < W.heap.size by omega)).trans c2
          have hc3 := (hbc.cell (p := ⟨w.heap.size + 1 + 1 + 1, 0, none⟩) (show w.heap.size + 1 + 1 + 1 < W.heap.size by omega)).trans c3
          have hc4 := (hbc.frozen (p := ⟨w.heap.size + 1 + 1 + 1, 0, none⟩) (show w.heap.size + 1 + 1 + 1 < W.heap.size by omega)).trans c4
          have hc5 := (hbc.cell (p := ⟨w.heap.size + 1 + 1 + 1 + 1, 0, none⟩) hlB).trans c5
          have hc6 := (hbc.frozen (p := ⟨w.heap.size + 1 + 1 + 1 + 1, 0, none⟩) hlB).trans c6
          have hy0 := (hbc.cell (p := ⟨g, q * 6, none⟩) hgW).trans e0
          have HBC := Lib.hid hbc
          clear hbc c1 c2 c3 c4 c5 c6 d0 d1 d2 d3 d4 e0 e1 e2 e3 e4 e5
          cases b
          · gi_wp2
            refine goes_bad ((keeps_below HBC.out).trans (KeepsOthers.setCell _ _ _)) (by rw [HQ.out]; exact HM1.out) ?_
            rw [HQ.out, HY.out]
            intro e
            injection e with e
            injection e with e1 e2 e3 e4 e5
            have := HB.out
            rw [e2, e3, e4, e5] at this
            simp at this
          · obtain ⟨e2, e3, e4, e5⟩ := HG2.out HB.out
            by_cases hdd : xd = yd
            · have HYX := Lib.hid (show Wt[q]? = some ⟨xd, xk, xs, xn, xa⟩ by rw [HY.out, hdd, e2, e3, e4, e5])
              clear e2 e3 e4 e5
              subst hdd
              by_cases hqm : (q : Int) + 1 = m
              · subst hqm
                gi_wp2
                exact goes_early HBC.out HBW.out HK3.out (by omega)
              · have hqm' : ((q : Int) + 1 == m) = false := by simp [hqm]
                gi_wp2
                exact goes_good HF.out HBX.out HBC.out HPP.out (by rw [HQ.out]; exact HM1.out) HQ.out (by omega) HYX.out hqm
            · have hdd' : (xd != yd) = true := by simp [hdd]
              clear e2 e3 e4 e5
              gi_wp2
              refine goes_bad ((keeps_below HBC.out).trans (KeepsOthers.setCell _ _ _)) (by rw [HQ.out]; exact HM1.out) ?_
              rw [HQ.out, HY.out]
              intro e
              injection e with e
              injection e with e1 e2 e3 e4 e5
              exact hdd e1.symm
      · have hq' : (Wt.length : Int) ≤ q := by omega
        gi_wp2
        refine goes_bad (KeepsOthers.setCell _ _ _) (by rw [HQ.out]; exact HM1.out) ?_
        rw [HQ.out, List.getElem?_eq_none (by omega)]
        intro e
        cases e
  case done =>
    rintro D ys W hD hys ⟨hf, hbx, hp, hm1⟩ hK
    subst hys
    have hlen : ((Nd.mk k s n a ks).lay 1000000 0 1).length = Wt.length := by
      obtain ⟨j, hj⟩ := HP.out
      rcases HE.out with h | ⟨h1, h2⟩
      · rw [h]
      · exfalso
        have h3 : Wt.length ≤ ((Nd.mk k s n a ks).lay 1000000 0 1).length := by rw [hj, List.length_take]; omega
        exact hm1 m.toNat (by omega) (by omega) (by omega)
    rw [hlen] at hbx
    have hb : ∀ j, j < w4.heap.size → j ≠ w.heap.size + 1 + 1 + 1 + 1 → W.heap[j]? = w4.heap[j]? := fun j h1 h2 => hf.block j h1 h2
    have k1 : Boxed W (w.heap.size + 1) 42 (.slice WA Wt.length wcap) := (hb _ (by omega) (by omega)).trans HG4.out.b1
    have k3 : Boxed W (w.heap.size + 1 + 1 + 1) 4 (.bool false) := (hb _ (by omega) (by omega)).trans HG4.out.b3
    have hbw : Below w.heap.size w W := HG4.out.below.trans (hf.to (C := w.heap.size) (by omega) (fun j (e : j = _) => by omega))
    have c1 := k1.cell
    have c3 := k3.cell
    have c4 := k3.frozen
    have c5 := hbx.cell
    have HBW := Lib.hid hbw
    have HK3 := Lib.hid k3
    have HKD := Lib.hid hK
    have hl3 := k3.lt
    clear hlen hb k1 k3 hbw hf hbx hp hm1 hK h5 h6 h7 h8 h9
    gi_wp2
    exact goes_end HBW.out HK3.out HKD.out (by omega) _ rfl
  case stop =>
    rintro D c' pre W hD ⟨j, hj⟩ ⟨rfl, hx⟩ hK
    rcases hx with ⟨ps, x, hx, hnx, hm1⟩ | ⟨hb, h3, hs⟩
    · exfalso
      have h1 : (((Nd.mk k s n a ks).lay 1000000 0 1).take j)[ps.length]? = some x := by rw [← hj, hx]; simp
      have h2 : ((Nd.mk k s n a ks).lay 1000000 0 1)[ps.length]? = some x := by
        rw [List.getElem?_take] at h1
        split at h1
        · exact h1
        · cases h1
      obtain ⟨i, hi⟩ := HP.out
      rcases HE.out with h | ⟨e1, e2⟩
      · rw [h] at hnx; exact hnx h2
      · have h3 : ps.length < Wt.length := by
          by_cases hlt : ps.length < Wt.length
          · exact hlt
          · exact absurd (by omega) (hm1 m.toNat (by omega) (by omega))
        refine hnx ?_
        have h4 : ps.length < i := by rw [hi, List.length_take] at h3; omega
        rw [hi, List.getElem?_take, if_pos h4]
        exact h2
    · have HB := Lib.hid hb
      have H3 := Lib.hid h3
      have HKD := Lib.hid hK
      clear hb h3 hK hj h5 h6 h7 h8 h9
      gi_wp2
      exact goes_stop HB.out H3.out HKD.out (by omega) _ rfl
end Go.Proofs.YtjpmghgmmeemkaaGreatDoor
