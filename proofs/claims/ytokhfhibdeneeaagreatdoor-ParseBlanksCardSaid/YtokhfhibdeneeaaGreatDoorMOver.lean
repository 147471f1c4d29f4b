/- (shape).over and the iterator that it hands back: where each kid of a node stands. Trees that lie in blocks of their own. -/
import Derived.RangeFuncNested
import Derived.RangeFuncBound
import Derived.RangeFuncCalls
import Derived.RangeFuncLeaves
import Derived.RangeFuncBox
import Derived.Shelf.Abstract
import Derived.OwnWalkIn
import Derived.TacticsInMore
import Derived.LoopNIn
import Derived.LoopIn
import Derived.Test.YtokhfhibdeneeaaGreatDoorRight3
namespace Go.Proofs.YtokhfhibdeneeaaGreatDoor
open Go.RowKit Go.Shelf
attribute [local go_sem] Oper.semAt_some

/-- Every block below B that is not one of g's lies as it lay. -/
structure Foot (B : Nat) (g : Nat → Prop) (w w' : World) : Prop where
  os : w'.os = w.os
  tape : w'.tape = w.tape
  output : w'.output = w.output
  size : w.heap.size ≤ w'.heap.size
  block : ∀ k, k < B → ¬ g k → w'.heap[k]? = w.heap[k]?

theorem Foot.refl (B : Nat) (g : Nat → Prop) (w : World) : Foot B g w w := ⟨rfl, rfl, rfl, Nat.le_refl _, fun _ _ _ => rfl⟩
theorem Foot.trans {B : Nat} {g : Nat → Prop} {a b c : World} (h : Foot B g a b) (k : Foot B g b c) : Foot B g a c :=
  ⟨k.os.trans h.os, k.tape.trans h.tape, k.output.trans h.output, Nat.le_trans h.size k.size, fun i hi hg => (k.block i hi hg).trans (h.block i hi hg)⟩
theorem Foot.mono {B B' : Nat} {g g' : Nat → Prop} {a b : World} (h : Foot B g a b) (hB : B' ≤ B) (hg : ∀ k, k < B' → g k → g' k) : Foot B' g' a b := ⟨h.os, h.tape, h.output, h.size, fun i hi hn => h.block i (by omega) (fun e => hn (hg i hi e))⟩
theorem Foot.of {B : Nat} {g : Nat → Prop} {a b : World} (h : Below B a b) : Foot B g a b := ⟨h.os, h.tape, h.output, h.size, fun i hi _ => h.block i hi⟩
theorem Foot.to {B C : Nat} {g : Nat → Prop} {a b : World} (h : Foot B g a b) (hC : C ≤ B) (hg : ∀ k, g k → C ≤ k) : Below C a b := ⟨h.os, h.tape, h.output, h.size, fun i hi => h.block i (by omega) (fun e => by have := hg i e; omega)⟩
theorem Foot.set {B : Nat} {g : Nat → Prop} {a b : World} (h : Foot B g a b) {p : Addr} (hp : B ≤ p.block ∨ g p.block) (v : Value) : Foot B g a (b.setCell p v) :=
  ⟨h.os, h.tape, h.output, by simpa using h.size, fun k hk hg => (Below.heap_setCell b p v k (fun e => by subst e; exact hp.elim (fun h => by omega) hg)).trans (h.block k hk hg)⟩
theorem Foot.alloc {B : Nat} {g : Nat → Prop} {a b : World} (h : Foot B g a b) (hB : B ≤ b.heap.size) (o : Obj) : Foot B g a (b.alloc o) :=
  ⟨h.os, h.tape, h.output, by have := h.size; simp; omega, fun k hk hg => (Below.heap_alloc b o k (by omega)).trans (h.block k hk hg)⟩
theorem Foot.grown {B : Nat} {g : Nat → Prop} {a b c : World} {row : Option Nat} (h : Foot B g a b) (hg : b.grownBy c row) (hB : B ≤ b.heap.size) (hr : ∀ k, row = some k → B ≤ k) : Foot B g a c :=
  ⟨hg.os.trans h.os, hg.tape.trans h.tape, hg.output.trans h.output, Nat.le_trans h.size hg.size, fun k hk hne => (hg.block k (by omega) (fun e => by have := hr k e.symm; omega)).trans (h.block k hk hne)⟩
theorem Foot.cell {B : Nat} {g : Nat → Prop} {w w' : World} (h : Foot B g w w') {p : Addr} (hp : p.block < B) (hne : ¬ g p.block) : w'.cell? p = w.cell? p := World.cell?_of_block (w := w) (h.block p.block hp hne)
theorem footK_b {B : Nat} {g : Nat → Prop} {w : World} (hn : B ≤ w.heap.size) (W : World) (l : Nat) (o o' : Obj) (hl : w.heap.size ≤ l) (h : W.heap[l]? = some o) (_ : o.isCells = false) (_ : o.isWalk = false) : Foot B g W (W.putObj l o') :=
  (Foot.refl B g W).grown (grownBy_putObj' W l o') (by have := (Array.getElem?_eq_some_iff.1 h).1; omega) (fun k e => by cases e; omega)
theorem Foot.keeps {g : Nat → Prop} {W W' : World} (h : Foot W.heap.size g W W') (hg : ∀ k o, g k → W.heap[k]? = some o → o.isCells = true) : KeepsOthers W W' :=
  ⟨h.size, fun k o hk ho => by
    have hlt := (Array.getElem?_eq_some_iff.1 hk).1
    rw [h.block k hlt (fun e => by have := hg k o e hk; rw [ho] at this; cases this)]
    exact hk⟩
theorem CellsAt.foot {w w' : World} {b B : Nat} {g : Nat → Prop} (hb : Foot B g w w') (hlt : b < B) (hne : ¬ g b) : ∀ {l : List Int} {j : Nat}, CellsAt w b l j → CellsAt w' b l j
  | [], _, _ => trivial
  | y :: l, j, h => ⟨by rw [hb.cell (p := ⟨b, j, none⟩) hlt hne]; exact h.1, CellsAt.foot hb hlt hne h.2⟩

abbrev Ix (m : Nat) := { i : Nat // i < m }

set_option maxRecDepth 100000 in
set_option maxHeartbeats 1000000 in
theorem over_any (A : Option Addr) (len cap m : Nat) (x1 x2 x3 x4 : Int) (w : World) :
    Calls Tryz.prog 70 #[.agg #[.slice A len cap, .int .i64 x1, .int .i64 x2, .int .i64 x3, .int .i64 x4], .int .i64 m] w fun e w' =>
      e = .returned (.func (.func 121) #[] #[.pointer (some ⟨w.heap.size + 1, 0, none⟩), .pointer (some ⟨w.heap.size, 0, none⟩)]) ∧
      w' = (w.alloc (.cells #[.slice A len cap, .int .i64 x1, .int .i64 x2, .int .i64 x3, .int .i64 x4] 99)).alloc (.cells #[.int .i64 m] 3) := by
  go_enter Tryz.func70, Tryz.ntmps70
  go_wp2
  go_ret
  exact ⟨rfl, rfl⟩

set_option maxRecDepth 100000 in
set_option maxHeartbeats 2000000 in
theorem over1_in (F : Fence) (n : Nat) (h8 : F.fn 121) (hro : F.round = none) (hn : 1 ≤ n) (l Bm Bs B m : Nat) (g : Nat → Prop) (sh : Shp) (A : Option Addr) (cap : Nat) (hm : m ≤ 9223372036854775807) (J Jx : List (Ix m) → World → Prop)
    (hY : ∀ pre x W, J pre W → pre.length < m → YieldAt F (n - 1) Tryz.prog l #[.int .i64 (x.1 : Int), .int .i64 (sh.at_ x.1)] W fun e W' =>
      (e = .returned (.bool true) ∧ J (pre ++ [x]) W' ∧ Foot B g W W') ∨ (e = .returned (.bool false) ∧ Jx (pre ++ [x]) W'))
    (W : World) (hBm : W.cell? ⟨Bm, 0, none⟩ = some (.int .i64 m)) (hBs : Bs < B) (hBg : ¬ g Bs)
    (hs0 : W.cell? ⟨Bs, 0, none⟩ = some (.slice A sh.first.length cap)) (hs1 : W.cell? ⟨Bs, 1, none⟩ = some (.int .i64 sh.rest))
    (_hl4 : sh.first.length ≤ 4) (hfirst : sh.first = [] ∨ ∃ b, A = some ⟨b, 0, none⟩ ∧ b < B ∧ ¬ g b ∧ CellsAt W b sh.first 0) (h0 : J [] W) :
    CallsIn F n Tryz.prog 121 #[.func (.yield l) #[] #[], .pointer (some ⟨Bm, 0, none⟩), .pointer (some ⟨Bs, 0, none⟩)] W fun e W' => (∃ v, e = .returned v) ∧
      ((∃ ys, ys.map Subtype.val = List.range m ∧ J ys W') ∨ (∃ pre, (∃ k, k ≤ m ∧ pre.map Subtype.val = List.range k) ∧ Jx pre W')) := by
  refine callsIn_of_wp Tryz.func121 rfl h8 ?_ hro
  simp only [Tryz.ntmps121, List.size_toArray, List.length_cons, List.length_nil, Nat.reduceAdd, Nat.reduceSub, Array.replicate_succ, Array.replicate_zero, List.push_toArray, List.append_toArray, List.nil_append, List.cons_append]
  gi_wp2
  gi_loopw [7] (fun i wr => ∃ (pre : List (Ix m)) (k : Nat), k ≤ m ∧ pre.map Subtype.val = List.range k ∧ i = .int .i64 k ∧ J pre wr ∧ Foot B g W wr)
    (fun i _ => m - (intOf i).toNat)
  case atStart => exact ⟨[], 0, Nat.zero_le _, rfl, rfl, h0, Foot.refl _ _ _⟩
  case round =>
    obtain ⟨pre, k, hk, hpre, rfl, hJs, hnx⟩ := hrel
    have hlen : pre.length = k := by have := congrArg List.length hpre; simpa using this
    have d0 : wr.cell? ⟨Bs, 0, none⟩ = some (.slice A sh.first.length cap) := (hnx.cell (p := ⟨Bs, 0, none⟩) hBs hBg).trans hs0
    have d1 : wr.cell? ⟨Bs, 1, none⟩ = some (.int .i64 sh.rest) := (hnx.cell (p := ⟨Bs, 1, none⟩) hBs hBg).trans hs1
    by_cases hlt : k < m
    · have hyx := hY pre ⟨k, hlt⟩ wr hJs (by omega)
      dsimp only at hyx
      by_cases hf : k < sh.first.length
      · obtain ⟨b, hA, hb1, hb2, hcs⟩ : ∃ b, A = some ⟨b, 0, none⟩ ∧ b < B ∧ ¬ g b ∧ CellsAt W b sh.first 0 := by
          rcases hfirst with h | h
          · simp [h] at hf
          · exact h
        subst hA
        have hat : sh.at_ k = sh.first[k] := by simp [Shp.at_, hf]
        have hck : wr.cell? ⟨b, k, none⟩ = some (.int .i64 (sh.first[k])) := by
          have := (CellsAt.foot hnx hb1 hb2 hcs).get k _ (List.getElem?_eq_getElem hf)
          simpa using this
        rw [hat] at hyx
        obtain ⟨x, hx⟩ : ∃ x, sh.first[k] = x := ⟨_, rfl⟩
        rw [hx] at hyx hck
        obtain ⟨fn, tmps, assign, body, hy, hR⟩ := hyx
        clear hat hx hfirst hcs
        gi_wp2
        refine hR.mono ?_
        rintro e W3 (⟨rfl, hJ3, hk3⟩ | ⟨rfl, hJx3⟩)
        · gi_wp2
          go_roundw
          case rel => exact ⟨pre ++ [⟨k, hlt⟩], k + 1, by omega, by simp [hpre, List.range_succ], by simp, hJ3, hnx.trans hk3⟩
          case measure => simp [intOf]; omega
        · gi_wp2
          refine bodyPost_ret (results_none rfl _ _ _) rfl ?_
          exact ⟨⟨_, rfl⟩, .inr ⟨_, ⟨k + 1, by omega, by simp [hpre, List.range_succ]⟩, hJx3⟩⟩
      · have hat : sh.at_ k = sh.rest := by simp [Shp.at_, List.getElem?_eq_none (Nat.le_of_not_lt hf)]
        rw [hat] at hyx
        obtain ⟨fn, tmps, assign, body, hy, hR⟩ := hyx
        clear hat hfirst
        gi_wp2
        refine hR.mono ?_
        rintro e W3 (⟨rfl, hJ3, hk3⟩ | ⟨rfl, hJx3⟩)
        · gi_wp2
          go_roundw
          case rel => exact ⟨pre ++ [⟨k, hlt⟩], k + 1, by omega, by simp [hpre, List.range_succ], by simp, hJ3, hnx.trans hk3⟩
          case measure => simp [intOf]; omega
        · gi_wp2
          refine bodyPost_ret (results_none rfl _ _ _) rfl ?_
          exact ⟨⟨_, rfl⟩, .inr ⟨_, ⟨k + 1, by omega, by simp [hpre, List.range_succ]⟩, hJx3⟩⟩
    · obtain rfl : k = m := by omega
      gi_wp2
      go_end0
      exact ⟨⟨_, rfl⟩, .inl ⟨pre, hpre, hJs⟩⟩

/-- THE ITERATOR: (0, at 0), (1, at 1), ..: all; or the first k of them. -/
theorem over_stops (F : Fence) (n : Nat) (h8 : F.fn 121) (hro : F.round = none) (hn : 1 ≤ n) (Bm Bs B m : Nat) (g : Nat → Prop) (sh : Shp) (A : Option Addr) (cap : Nat) (hm : m ≤ 9223372036854775807) (w : World)
    (hBm : w.cell? ⟨Bm, 0, none⟩ = some (.int .i64 m)) (hBml : Bm < w.heap.size) (hBs : Bs < B) (hBg : ¬ g Bs) (hB : B ≤ w.heap.size)
    (hs0 : w.cell? ⟨Bs, 0, none⟩ = some (.slice A sh.first.length cap)) (hs1 : w.cell? ⟨Bs, 1, none⟩ = some (.int .i64 sh.rest))
    (hl4 : sh.first.length ≤ 4) (hfirst : sh.first = [] ∨ ∃ b, A = some ⟨b, 0, none⟩ ∧ b < B ∧ ¬ g b ∧ CellsAt w b sh.first 0) :
    SeqStopsK F n Tryz.prog 121 #[.pointer (some ⟨Bm, 0, none⟩), .pointer (some ⟨Bs, 0, none⟩)] (fun x : Ix m => #[Value.int .i64 (x.1 : Int), Value.int .i64 (sh.at_ x.1)]) (Foot B g)
      (fun ys => ys.map Subtype.val = List.range m) (fun pre => ∃ k, k ≤ m ∧ pre.map Subtype.val = List.range k) m w := fun l J Jx W hW _ _ hY h0 => by
  have e : ∀ (b i : Nat), b < w.heap.size → W.cell? ⟨b, i, none⟩ = w.cell? ⟨b, i, none⟩ := fun b i hb => hW.cell (p := ⟨b, i, none⟩) hb
  refine over1_in F n h8 hro hn l Bm Bs B m g sh A cap hm J Jx hY W ((e _ _ hBml).trans hBm) hBs hBg ((e _ _ (by omega)).trans hs0) ((e _ _ (by omega)).trans hs1) hl4 ?_ h0
  rcases hfirst with h | ⟨b, h1, h2, h3, h4⟩
  · exact .inl h
  · exact .inr ⟨b, h1, h2, h3, h4.below hW (by omega)⟩

/-- wpIn_rangeFunc_ownG, the activation behind the assignment to the loop's variables left to be found. -/
theorem rangeFunc_found {F : Fence} {n : Nat} {P : Program} {α : Type} {g : Operand} {ps : Array Tmp} {assign body : Code} {Q : Exit → Act → World → Prop} {a : Act} {w : World}
    (hro : F.round = none) (h1 : 1 ≤ n) {gf : Nat} {lb : Array Value} (hg : a.eval g = .func (.func gf) #[] lb) (hFg : F.fn gf) (eg : ∀ args w, (callFunc gf args).run P w = .ok (.enter gf args) w)
    {encs : α → Array Value} {Kp : World → World → Prop} {S Sp : List α → Prop} {N : Nat} {w0 : World} (hseq : SeqStopsK F (n - 1) P gf lb encs Kp S Sp N w0)
    (hKt : ∀ {A B C : World}, Kp A B → Kp B C → Kp A C) (hKb : ∀ (W : World) (l : Nat) (o o' : Obj), w.heap.size ≤ l → W.heap[l]? = some o → o.isCells = false → o.isWalk = false → Kp W (W.putObj l o')) (hb0 : Below w0.heap.size w0 w) (hps : ∀ x, (encs x).size = ps.size)
    (I : List α → World → Prop) (Ix : Code → List α → World → Prop) (hI : OwnFrom w.heap.size I) (hIx : ∀ c, OwnFrom w.heap.size (Ix c)) (h0 : I [] w)
    (hab : ∃ a₁ : α → Act, (∀ (l : Nat) (x : α) (W : World) (K : Act → World → Prop), Hid (K (a₁ x) W) →
      assign.wpIn (F.inRound l) (n - 1 - 1) P (Exit.then K (fun _ _ _ => False)) { tmps := (ps.zip (encs x)).foldl (fun t (p, v) => t.setIfInBounds p v) a.tmps, defers := [] } W) ∧
      (∀ (l : Nat) (pre : List α) (x : α) (W : World), I pre W → pre.length < N → body.wpIn (F.inRound l) (n - 1 - 1) P (ownPostG w.heap.size Kp I Ix (pre ++ [x]) W) (a₁ x) W))
    (hdone : ∀ (D : Nat) (xs : List α) (W : World), w.heap.size ≤ D → S xs → I xs W → W.heap[D]? = some (.deferred (some [])) → Q .normal { a with defers := { target := .collected D, args := #[] } :: a.defers } W)
    (hstop : ∀ (D : Nat) (c : Code) (pre : List α) (W : World), w.heap.size ≤ D → Sp pre → Ix c pre W → W.heap[D]? = some (.deferred (some [])) → c.wpIn F n P Q { a with defers := { target := .collected D, args := #[] } :: a.defers } W) :
    (Code.rangeFunc g ps assign body).wpIn F n P Q a w := by
  obtain ⟨a₁, ha, hb⟩ := hab
  exact wpIn_rangeFunc_ownG hro h1 hg hFg eg hseq hKt hKb hb0 hps I Ix hI hIx h0 a₁ (fun l x W K hK => ha l x W K (Lib.hid hK)) hb hdone hstop

end Go.Proofs.YtokhfhibdeneeaaGreatDoor

namespace Go.Proofs.YtokhfhibdeneeaaGreatDoor
open Go.RowKit

mutual
/-- As Lies: all lists lie at block C or above. -/
def LiesA (w : World) (C B : Nat) : Nd → Value → Prop
  | .mk k s n a ks, v => ∃ (A : Option Addr) (cap : Nat), v = .agg #[.int .i64 k, .string s, .int .i64 n, .int .i64 a, .slice A ks.length cap] ∧
      okI k ∧ okI n ∧ okI a ∧ s.size ≤ 140737488351232 ∧ ks.length ≤ cap ∧ cap ≤ 9223372036854775807 ∧
      (ks = [] ∨ ∃ b o, A = some ⟨b, o, none⟩ ∧ C ≤ b ∧ b < B ∧ LiesAL w C B ks b o)
def LiesAL (w : World) (C B : Nat) : List Nd → Nat → Nat → Prop
  | [], _, _ => True
  | t :: ts, b, o => (∃ c0 c1 c2 c3 c4 : Value, w.cell? ⟨b, o, none⟩ = some c0 ∧ w.cell? ⟨b, o + 1, none⟩ = some c1 ∧ w.cell? ⟨b, o + 2, none⟩ = some c2 ∧
      w.cell? ⟨b, o + 3, none⟩ = some c3 ∧ w.cell? ⟨b, o + 4, none⟩ = some c4 ∧ LiesA w C B t (.agg #[c0, c1, c2, c3, c4])) ∧ LiesAL w C B ts b (o + 5)
end

mutual
theorem LiesA.lies {w : World} {C B : Nat} : ∀ {t : Nd} {v : Value}, LiesA w C B t v → Lies w B t v
  | .mk k s n a ks, v, h => by
    unfold LiesA at h
    unfold Lies
    obtain ⟨A, cap, h1, h2, h3, h4, h5, h6, h7, h8⟩ := h
    refine ⟨A, cap, h1, h2, h3, h4, h5, h6, h7, ?_⟩
    rcases h8 with h8 | ⟨b, o, hA, _, hlt, hl⟩
    · exact .inl h8
    · exact .inr ⟨b, o, hA, hlt, LiesAL.lies hl⟩
theorem LiesAL.lies {w : World} {C B : Nat} : ∀ {ts : List Nd} {b o : Nat}, LiesAL w C B ts b o → LiesL w B ts b o
  | [], _, _, _ => by unfold LiesL; trivial
  | t :: ts, b, o, h => by
    unfold LiesAL at h
    unfold LiesL
    obtain ⟨⟨c0, c1, c2, c3, c4, h0, h1, h2, h3, h4, ht⟩, hl⟩ := h
    exact ⟨⟨c0, c1, c2, c3, c4, h0, h1, h2, h3, h4, ht.lies⟩, LiesAL.lies hl⟩
end

mutual
theorem LiesA.keep {w w' : World} {C B C' B' : Nat} (hk : ∀ b, C ≤ b → b < B → w'.heap[b]? = w.heap[b]?) (hC : C' ≤ C) (hB : B ≤ B') : ∀ {t : Nd} {v : Value}, LiesA w C B t v → LiesA w' C' B' t v
  | .mk k s n a ks, v, h => by
    unfold LiesA at h ⊢
    obtain ⟨A, cap, h1, h2, h3, h4, h5, h6, h7, h8⟩ := h
    refine ⟨A, cap, h1, h2, h3, h4, h5, h6, h7, ?_⟩
    rcases h8 with h8 | ⟨b, o, hA, hc, hlt, hl⟩
    · exact .inl h8
    · exact .inr ⟨b, o, hA, by omega, by omega, LiesAL.keep hk hC hB hc hlt hl⟩
theorem LiesAL.keep {w w' : World} {C B C' B' : Nat} (hk : ∀ b, C ≤ b → b < B → w'.heap[b]? = w.heap[b]?) (hC : C' ≤ C) (hB : B ≤ B') : ∀ {ts : List Nd} {b o : Nat}, C ≤ b → b < B → LiesAL w C B ts b o → LiesAL w' C' B' ts b o
  | [], _, _, _, _, _ => by unfold LiesAL; trivial
  | t :: ts, b, o, hc, hlt, h => by
    unfold LiesAL at h ⊢
    obtain ⟨⟨c0, c1, c2, c3, c4, h0, h1, h2, h3, h4, ht⟩, hl⟩ := h
    have e : ∀ i, w'.cell? ⟨b, i, none⟩ = w.cell? ⟨b, i, none⟩ := fun i => World.cell?_of_block (w := w) (hk b hc hlt)
    exact ⟨⟨c0, c1, c2, c3, c4, (e _).trans h0, (e _).trans h1, (e _).trans h2, (e _).trans h3, (e _).trans h4, ht.keep hk hC hB⟩, LiesAL.keep hk hC hB hc hlt hl⟩
end

end Go.Proofs.YtokhfhibdeneeaaGreatDoor
