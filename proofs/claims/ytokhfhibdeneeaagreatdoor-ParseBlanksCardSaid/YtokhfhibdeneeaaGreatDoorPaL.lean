/- Appends step by step; the closures of make, of a map's literal, of index. -/
import Derived.Test.YtokhfhibdeneeaaGreatDoorPaK
import Derived.Test.YtokhfhibdeneeaaGreatDoorMLiesP
namespace Go.Proofs.YtokhfhibdeneeaaGreatDoor
open Go.RowKit
/-- Within what an append and the stores behind it leave. -/
structure AppSt (w1 W3 : World) (lo b nb m cap : Nat) (ys : List Value) (k : Int) (s : ByteArray) (n a : Int) (v : Value) : Prop where
 os : W3.os = w1.os
 tape : W3.tape = w1.tape
 output : W3.output = w1.output
 size : W3.heap.size = w1.heap.size
 block : ∀ i, i ≠ b → i ≠ nb → W3.heap[i]? = w1.heap[i]?
 own : W3.ownsRow lo 25 5 (.slice (some ⟨b, 0, none⟩) m cap) m ys
 box : W3.heap[nb]? = some (.cells #[.int .i64 k, .string s, .int .i64 n, .int .i64 a, v] 25 (0, 0))
section
variable {w1 W3 : World} {lo b nb m cap : Nat} {ys : List Value} {k : Int} {s : ByteArray} {n a : Int} {v : Value}
theorem AppSt.init (ho : w1.ownsRow lo 25 5 (.slice (some ⟨b, 0, none⟩) m cap) m ys) (hbox : w1.heap[nb]? = some (.cells #[.int .i64 k, .string s, .int .i64 n, .int .i64 a, v] 25 (0, 0))) : AppSt w1 w1 lo b nb m cap ys k s n a v :=
 ⟨rfl, rfl, rfl, rfl, fun _ _ _ => rfl, ho, hbox⟩
theorem AppSt.box_ (h : AppSt w1 W3 lo b nb m cap ys k s n a v) (hne : nb ≠ b) (u : Value) : AppSt w1 (W3.setCell ⟨nb, 4, none⟩ u) lo b nb m cap ys k s n a u :=
 ⟨h.os, h.tape, h.output, by simpa using h.size, fun i h1 h2 => (Below.heap_setCell _ _ _ _ h2).trans (h.block i h1 h2), own_other h.own hne _ _, heap_setCell_same _ nb 4 _ _ _ h.box⟩
theorem AppSt.one (h : AppSt w1 W3 lo b nb m cap ys k s n a v) (hne : nb ≠ b) (o : Nat) (c : Value) : AppSt w1 (W3.setCell ⟨b, o, none⟩ c) lo b nb m cap (ys.set o c) k s n a v :=
 ⟨h.os, h.tape, h.output, by simpa using h.size, fun i h1 h2 => (Below.heap_setCell _ _ _ _ h1).trans (h.block i h1 h2), own_set h.own o c, (Below.heap_setCell _ _ _ _ hne).trans h.box⟩
theorem AppSt.elem (h : AppSt w1 W3 lo b nb m cap ys k s n a v) (hne : nb ≠ b) (o : Nat) (c0 c1 c2 c3 c4 : Value) :
 AppSt w1 (((((W3.setCell ⟨b, o, none⟩ c0).setCell ⟨b, o + 1, none⟩ c1).setCell ⟨b, o + 2, none⟩ c2).setCell ⟨b, o + 3, none⟩ c3).setCell ⟨b, o + 4, none⟩ c4) lo b nb m cap (((((ys.set o c0).set (o + 1) c1).set (o + 2) c2).set (o + 3) c3).set (o + 4) c4) k s n a v :=
 ((((h.one hne o c0).one hne (o + 1) c1).one hne (o + 2) c2).one hne (o + 3) c3).one hne (o + 4) c4
theorem AppSt.fin {ys' : List Value} (h : AppSt w1 W3 lo b nb m cap ys k s n a (.slice (some ⟨b, 0, none⟩) m cap)) (hy : ys = ys') : AppTo w1 W3 lo b nb m cap ys' k s n a := by
 subst hy
 exact ⟨h.os, h.tape, h.output, h.size, h.block, h.own, h.box⟩
end
theorem set10_list (l : List Value) (z0 z1 z2 z3 z4 y0 y1 y2 y3 y4 c0 c1 c2 c3 c4 d0 d1 d2 d3 d4 : Value) {m : Nat} (hm : l.length = m) :
 ((((((((((l ++ [z0, z1, z2, z3, z4, y0, y1, y2, y3, y4]).set m c0).set (m + 1) c1).set (m + 2) c2).set (m + 3) c3).set (m + 4) c4).set (m + 5) d0).set (m + 5 + 1) d1).set (m + 5 + 2) d2).set (m + 5 + 3) d3).set (m + 5 + 4) d4 = l ++ [c0, c1, c2, c3, c4, d0, d1, d2, d3, d4] := by
 subst hm
 have e : ∀ (r : List Value) (j : Nat) (c : Value), (l ++ r).set (l.length + j) c = l ++ r.set j c := fun r j c => by
  rw [List.set_append_right _ _ (Nat.le_add_right _ _), Nat.add_sub_cancel_left]
 have h0 : ∀ (r : List Value) (c : Value), (l ++ r).set l.length c = l ++ r.set 0 c := fun r c => e r 0 c
 simp only [Nat.add_assoc, h0, e]
 rfl
section
variable {E : Env} {M : Rm} {w0 W w1 W' : World} {rows : List Rw} {gs : Option Gv} {ts : List (Nd × Value)} {st s s' : Rs} {K : Kn} {g : Gv}
theorem St.newElem2 (h : St E M w0 rows (some g) ts st W) {b cap : Nat} {z0 z1 z2 z3 z4 y0 y1 y2 y3 y4 : Value} {m : Nat} (hm : g.xs.length = m) (ho1 : w1.ownsRow w0.heap.size 25 5 (.slice (some ⟨b, 0, none⟩) (m + 2) cap) (m + 2) (treeCells g.xs ++ [z0, z1, z2, z3, z4, y0, y1, y2, y3, y4])) (hg : W.grownBy w1 g.v.ownBlock) (hb : g.v.ownBlock = some b ∨ b = W.heap.size) :
 (w1.cell? ⟨b, m * 5, none⟩ = some z0 ∧ w1.cell? ⟨b, m * 5 + 1, none⟩ = some z1 ∧ w1.cell? ⟨b, m * 5 + 2, none⟩ = some z2 ∧ w1.cell? ⟨b, m * 5 + 3, none⟩ = some z3 ∧ w1.cell? ⟨b, m * 5 + 4, none⟩ = some z4 ∧
  w1.cell? ⟨b, m * 5 + 5, none⟩ = some y0 ∧ w1.cell? ⟨b, m * 5 + 5 + 1, none⟩ = some y1 ∧ w1.cell? ⟨b, m * 5 + 5 + 2, none⟩ = some y2 ∧ w1.cell? ⟨b, m * 5 + 5 + 3, none⟩ = some y3 ∧ w1.cell? ⟨b, m * 5 + 5 + 4, none⟩ = some y4) ∧ (∀ j, w1.frozen? ⟨b, j, none⟩ = false) ∧ w1.cell? ⟨g.nb, 4, none⟩ = some g.v ∧ (∀ j, w1.frozen? ⟨g.nb, j, none⟩ = false) ∧ b ≠ g.nb ∧
 w1.heap[g.nb]? = some (.cells #[.int .i64 g.k, .string g.s, .int .i64 g.n, .int .i64 g.a, g.v] 25 (0, 0)) ∧ (treeCells g.xs).length = m * 5 := by
 obtain ⟨h1, h2, h3, h4⟩ := h.bx.gw g rfl
 have hlt := h4.lt
 have hbnb : b ≠ g.nb := fun e => by
  rcases hb with hb | hb
  · exact h3 (by rw [hb, e])
  · omega
 have hbox : w1.heap[g.nb]? = some (.cells #[.int .i64 g.k, .string g.s, .int .i64 g.n, .int .i64 g.a, g.v] 25 (0, 0)) := (hg.block _ hlt.1 (fun e => h3 e.symm)).trans h4.box
 have hl : (treeCells g.xs).length = m * 5 := by rw [← hm]; exact treeCells_length h4.tr
 obtain ⟨cs, hcs⟩ : ∃ cs, w1.heap[b]? = some (.cells cs 25 (0, 0)) := by
  rcases ho1.2 with ⟨e, _⟩ | ⟨g', cap', cur, e, _, hg', _⟩
  · cases e
  · simp only [Value.slice.injEq, Option.some.injEq, Addr.mk.injEq, and_true, true_and] at e
    obtain ⟨rfl, rfl⟩ := e
    exact ⟨_, hg'⟩
 have hc := ho1.cells (g := b) rfl
 have he : ∀ (j : Nat) u, [z0, z1, z2, z3, z4, y0, y1, y2, y3, y4][j]? = some u → w1.cell? ⟨b, m * 5 + j, none⟩ = some u := fun j u hj => by
  have := hc (m * 5 + j) u (by rw [← hl, List.getElem?_append_right (Nat.le_add_right _ _), Nat.add_sub_cancel_left]; exact hj)
  rw [show ((⟨b, 0, none⟩ : Addr).add (m * 5 + j)) = ⟨b, m * 5 + j, none⟩ by simp [Addr.add]; omega] at this
  exact this
 exact ⟨⟨he 0 _ rfl, he 1 _ rfl, he 2 _ rfl, he 3 _ rfl, he 4 _ rfl, he 5 _ rfl, he 6 _ rfl, he 7 _ rfl, he 8 _ rfl, he 9 _ rfl⟩, fun j => by simp [World.frozen?, hcs], cell_of_row w1 _ 4 _ _ _ hbox, fun j => by simp [World.frozen?, hbox], hbnb, hbox, hl⟩
theorem hu_push {o : Obj} {x : Nat} (_h : St E M w0 rows gs ts s (W.alloc o)) (hu : x ≤ W.heap.size) : x ≤ (W.alloc o).heap.size := size_up hu o
theorem hu_drew {x : Nat} (_h : St E M w0 rows gs ts s W.drew) (hu : x ≤ W.heap.size) : x ≤ W.drew.heap.size := hu
theorem St.appendedN (h : St E M w0 rows (some g) ts s W) {b cap m N : Nat} {zs : List Value} (hm : g.xs.length = m) (hz : zs.length = N * 5) (ho1 : w1.ownsRow w0.heap.size 25 5 (.slice (some ⟨b, 0, none⟩) (m + N) cap) (m + N) (treeCells g.xs ++ zs)) (hg : W.grownBy w1 g.v.ownBlock) (hb : g.v.ownBlock = some b ∨ b = W.heap.size)
 {ys : List (Nd × Value)} (hys : ∀ y ∈ ys, y ∈ ts) (hA : AppTo w1 W' w0.heap.size b g.nb (m + N) cap (treeCells g.xs ++ treeCells ys) g.k g.s g.n g.a) (hl : ys.length = N) :
 St E M w0 rows (some ⟨g.nb, g.k, g.s, g.n, g.a, .slice (some ⟨b, 0, none⟩) (m + N) cap, g.xs ++ ys⟩) ts s W' := by
 have e : zs.length / 5 = N := by rw [hz]; omega
 subst hm
 have h' := h.appended (zs := zs) (by rw [e]; exact ho1) hg hb hys (by rw [e]; exact hA) (by rw [e, hl])
 rw [e] at h'
 exact h'
theorem St.appFp (h : St E M w0 rows (some g) ts s W) (hg : W.grownBy w1 g.v.ownBlock) : Fp M.bp w0 w1 := by
 have hl := (h.bx.gw g rfl).2.2.2.lt
 have hsz := h.lo
 exact ⟨hg.os.trans (Foot.os h.fp), hg.tape.trans (Foot.tape h.fp), hg.output.trans (Foot.output h.fp), Nat.le_trans hsz hg.size, fun i hi hn => (hg.block i (by omega) (fun e => by have := (hl.2 i e.symm).1; omega)).trans (h.fp.block hi hn)⟩
/-- The end of a closure that leaves a growing variable. -/
theorem clo_end {R : Rr Nd} {a' : Nd} {Pc : Nd → Prop} {nb : Nat} (hR : R = .ok a' s) (h : St E M w0 rows (some g) ts s W') (hnb : g.nb = nb) (hnd : g.nd = a') (hb : Fp M.bp w0 W) (hu : W.heap.size ≤ W'.heap.size) (hp : Pc a') :
 CloPost E M w0.heap.size (InvG E M w0 rows nb) Pc W R (.returned (.tuple #[])) W' := by
 subst hR hnb hnd
 exact ⟨rfl, h.rd, ⟨g, rfl, rfl, h.bx.sub (fun x hx => by simp at hx), h.tb⟩, foot_of hb h.fp hu, hp⟩
/-- A walk of its own within a walk. -/
theorem St.join {rows' : List Rw} {ts' : List (Nd × Value)} (hO : St E M w0 rows gs ts st W) (hI : St E M W rows' none ts' s W') : St E M w0 (rows' ++ rows) gs (ts' ++ ts) s W' := by
 have hf : Fp M.bp W W' := hI.fp
 have hK := hO.bx.go hf
 have hlt : ∀ r ∈ rows, r.1 < W.heap.size := fun r hr => (Array.getElem?_eq_some_iff.1 (hO.bx.rw r hr).2).1
 have hge : ∀ r ∈ rows', W.heap.size ≤ r.1 := fun r hr => (hI.bx.rw r hr).1
 have hm : ∀ b, Mine w0 W rows gs b → Mine w0 W' (rows' ++ rows) gs b := fun b hb => ⟨hb.1, Nat.lt_of_lt_of_le hb.2.1 (Foot.size hf), fun r hr => by
  rcases List.mem_append.1 hr with hr | hr
  · have := hge r hr; have := hb.2.1; omega
  · exact hb.2.2.1 r hr, hb.2.2.2⟩
 have hkp : ∀ b, Mine w0 W rows gs b → W'.heap[b]? = W.heap[b]? := fun b hb => hf.block hb.2.1 (by have := hO.bx.bp; have := hb.1; omega)
 have hm' : ∀ b, Mine W W' rows' none b → Mine w0 W' (rows' ++ rows) gs b := fun b hb => ⟨Nat.le_trans hO.lo hb.1, hb.2.1, fun r hr => by
  rcases List.mem_append.1 hr with hr | hr
  · exact hb.2.2.1 r hr
  · have := hlt r hr; have := hb.1; omega, fun g hg => by
  have hl := (hO.bx.gw g hg).2.2.2.lt
  have := hb.1
  exact ⟨by omega, fun e => by have := (hl.2 b e).2; omega⟩⟩
 refine ⟨hI.rd, ⟨hK.fp, hK.bp, fun r hr => ?_, List.pairwise_append.2 ⟨hI.bx.nd, hO.bx.nd, fun r hr r' hr' => by have := hge r hr; have := hlt r' hr'; omega⟩, fun g hg => ?_, fun x hx => ?_⟩, hO.tb⟩
 · rcases List.mem_append.1 hr with hr | hr
   · exact ⟨Nat.le_trans hO.lo (hge r hr), (hI.bx.rw r hr).2⟩
   · exact hK.rw r hr
 · obtain ⟨h1, h2, h3, h4⟩ := hO.bx.gw g hg
   have hl := h4.lt
   refine ⟨h1, fun r hr => ?_, h3, h4.keep hf.grownBy (fun e => by simp at e; have := hO.bx.bp; omega) (fun b hb e => by simp at e; have := hO.bx.bp; have := (hl.2 b hb).1; omega) hkp hm⟩
   rcases List.mem_append.1 hr with hr | hr
   · have := hge r hr
     exact ⟨by omega, fun e => by have := (hl.2 _ e).2; omega⟩
   · exact h2 r hr
 · rcases List.mem_append.1 hx with hx | hx
   · exact (hI.bx.tr x hx).keep (fun _ _ => rfl) hm'
   · exact (hO.bx.tr x hx).keep hkp hm
/-- The growing variable's number is set. -/
theorem St.gkind (h : St E M w0 rows (some g) ts s W) {k' : Int} (hk : okI k') : St E M w0 rows (some ⟨g.nb, k', g.s, g.n, g.a, g.v, g.xs⟩) ts s (W.setCell ⟨g.nb, 0, none⟩ (.int .i64 k')) := by
 obtain ⟨h1, h2, h3, h4⟩ := h.bx.gw g rfl
 have hne : ∀ b, b ≠ g.nb → (W.setCell ⟨g.nb, 0, none⟩ (.int .i64 k')).heap[b]? = W.heap[b]? := fun b hb => Below.heap_setCell W _ _ _ hb
 have hm : ∀ b, Mine w0 W rows (some g) b → Mine w0 (W.setCell ⟨g.nb, 0, none⟩ (.int .i64 k')) rows (some ⟨g.nb, k', g.s, g.n, g.a, g.v, g.xs⟩) b := fun b hb => ⟨hb.1, by simpa using hb.2.1, hb.2.2.1, fun g' hg' => by
  injection hg' with hg'
  subst hg'
  exact hb.2.2.2 g rfl⟩
 have hk' : ∀ b, Mine w0 W rows (some g) b → (W.setCell ⟨g.nb, 0, none⟩ (.int .i64 k')).heap[b]? = W.heap[b]? := fun b hb => hne b (fun e => (hb.2.2.2 g rfl).1 e.symm)
 have hw0 : ∀ b, b < w0.heap.size → (W.setCell ⟨g.nb, 0, none⟩ (.int .i64 k')).heap[b]? = W.heap[b]? := fun b hb => hne b (by omega)
 refine ⟨⟨(hw0 _ h.bx.bp).trans h.rd.blk, fun i hi => ?_, h.rd.le⟩, ⟨h.bx.fp.own h1 0 _, h.bx.bp, fun r hr => ⟨(h.bx.rw r hr).1, (hne _ (h2 r hr).1).trans (h.bx.rw r hr).2⟩, h.bx.nd, fun g' hg' => ?_, fun x hx => (h.bx.tr x hx).keep hk' hm⟩, h.tb⟩
 · have hlt : M.tb < w0.heap.size := by
    rcases h.tb with h0 | h0
    · omega
    · exact h0
   have e : ∀ o, (W.setCell ⟨g.nb, 0, none⟩ (.int .i64 k')).cell? ⟨M.tb, o, none⟩ = W.cell? ⟨M.tb, o, none⟩ := fun o => World.cell?_of_block (w := W) (hw0 _ hlt)
   rw [e, e, e]
   exact h.rd.toks i hi
 · injection hg' with hg'
   subst hg'
   refine ⟨h1, h2, h3, ⟨heap_setCell_same W _ 0 _ _ _ h4.box, ?_, fun x hx => (h4.tr x hx).keep hk' hm, ⟨hk, h4.ok.2⟩⟩⟩
   exact h4.own.kept (row := some g.nb) ⟨rfl, rfl, rfl, by simp, fun k _ hk => hne k (fun e => hk (by rw [e]))⟩ (by
    cases hgb : g.v.ownBlock with
    | none => exact .inl rfl
    | some b => exact .inr fun e => h3 (by rw [hgb, e]))
/-- A variable becomes a growing one: its list lies in a block of the walk's own. -/
theorem St.growN {nb lb : Nat} {k n a : Int} {sx : ByteArray} {xs : List (Nd × Value)} {cs : Array Value} {l : Nat} (h : St E M w0 ((lb, cs, 25) :: (nb, #[.int .i64 k, .string sx, .int .i64 n, .int .i64 a, .slice (some ⟨lb, 0, none⟩) l l], 25) :: rows) none ts s W) (hcs : treeCells xs = cs.toList) (hxs : ∀ x ∈ xs, x ∈ ts) (hl : l = xs.length) (hl2 : l ≤ 1000000) (hk : okI k) (hn : okI n) (ha : okI a) (hs : sx.size ≤ 140737488351232) :
 St E M w0 rows (some ⟨nb, k, sx, n, a, .slice (some ⟨lb, 0, none⟩) xs.length l, xs⟩) ts s W := by
 subst hl
 have hrl := h.bx.rw _ M0
 have hrn := h.bx.rw _ M1
 obtain ⟨n1, n2⟩ := List.pairwise_cons.1 h.bx.nd
 obtain ⟨n3, n4⟩ := List.pairwise_cons.1 n2
 have hnl : lb ≠ nb := n1 _ M0
 have hm : ∀ b, Mine w0 W ((lb, cs, 25) :: (nb, #[.int .i64 k, .string sx, .int .i64 n, .int .i64 a, .slice (some ⟨lb, 0, none⟩) xs.length xs.length], 25) :: rows) none b → Mine w0 W rows (some ⟨nb, k, sx, n, a, .slice (some ⟨lb, 0, none⟩) xs.length xs.length, xs⟩) b := fun b hb =>
  ⟨hb.1, hb.2.1, fun r hr => hb.2.2.1 r (U2 hr), fun g hg => by
   injection hg with hg
   subst hg
   exact ⟨hb.2.2.1 _ M1, fun e => hb.2.2.1 _ M0 (by simpa [Value.ownBlock] using e)⟩⟩
 refine ⟨h.rd, ⟨h.bx.fp, h.bx.bp, fun r hr => h.bx.rw r (U2 hr), n4, fun g hg => ?_, fun x hx => (h.bx.tr x hx).keep (fun _ _ => rfl) hm⟩, h.tb⟩
 injection hg with hg
 subst hg
 have hcl : cs.size = xs.length * 5 := by
  have := treeCells_length (xs := xs) (w := W) (P := Mine w0 W rows (some ⟨nb, k, sx, n, a, .slice (some ⟨lb, 0, none⟩) xs.length xs.length, xs⟩)) (fun x hx => (h.bx.tr x (hxs x hx)).keep (fun _ _ => rfl) hm)
  rw [hcs] at this
  simpa using this
 refine ⟨hrn.1, fun r hr => ⟨fun e => n3 r hr e.symm, fun e => n1 r (U1 hr) (by simpa [Value.ownBlock] using e)⟩, fun e => hnl (by simpa [Value.ownBlock] using e), ⟨hrn.2, ⟨?_, .inr ⟨lb, xs.length, cs, rfl, hrl.1, hrl.2, Nat.le_refl _, ?_, ?_, ?_⟩⟩, fun x hx => (h.bx.tr x (hxs x hx)).keep (fun _ _ => rfl) hm, hk, hn, ha, hs⟩⟩
 · rw [hcs]; simpa using hcl
 · unfold maxLen; omega
 · exact hcl
 · rw [hcs, List.take_of_length_le (by simp; omega)]

set_option maxRecDepth 100000 in
set_option maxHeartbeats 4000000 in
theorem make2_clo (hE : EnvOk E M) (hK : KOK E M K) {rb nb C : Nat} (hC : C ≤ 1000000) (hrb : (rb, #[.pointer (some ⟨M.bp, 0, none⟩)], 75) ∈ rows) :
 Clo E M w0.heap.size (InvG E M w0 rows nb) (fun a => a.kids.length) C 1 226 #[.pointer (some ⟨rb, 0, none⟩), .pointer (some ⟨nb, 0, none⟩)] (pairM E K) := by
 refine ⟨fun W => rfl, fun a s W hr hi hc hne => ?_⟩
 obtain ⟨g, hgn, rfl, hbx, htb⟩ := hi
 obtain ⟨nb', k, sx, n, a, v, xs⟩ := g
 obtain rfl : nb' = nb := hgn
 obtain ⟨R, HR⟩ : ∃ R, Hid ((pairM E K) (Gv.nd ⟨nb', k, sx, n, a, v, xs⟩) s = R) := ⟨_, rfl⟩
 have hneR : R ≠ .out := by rw [← HR.out]; exact hne
 rw [HR.out]
 have HNE := Lib.hid hneR
 have HSP0 : Hid (((nameR E s).bind fun x s => (wantR E [58] s).bind fun _ s => (K.expr s).bind fun y s => .ok (Nd.push (Gv.nd ⟨nb', k, sx, n, a, v, xs⟩) (.mk 40 x.text 0 x.at_ [y])) s : Rr Nd) = R) := HR.out
 have hst : St E M w0 rows (some ⟨nb', k, sx, n, a, v, xs⟩) [] s W := ⟨hr, hbx, htb⟩
 obtain ⟨A, cap, hv, hc1, hc2⟩ := row_form hst.gown
 have hv' : v = .slice A xs.length cap := hv
 subst hv'
 have hxc : xs.length ≤ C := by simpa [Gv.nd, Nd.kids] using hc
 have hxl : xs.length ≤ 1000000 := Nat.le_trans hxc hC
 have hc1' : xs.length ≤ cap := hc1
 have hbd : ((xs.length : Int) < (xs.length : Int) + 1) = True := by simp; omega
 have HB0 := Lib.hid hbx.fp
 obtain ⟨i0, hi0, hz0, hz1, hz2⟩ := info_parts infoNd
 clear hneR hne HR hr hbx hv hc htb hc1 hxc
 have a1B := hst.bx.c1 hrb
 have gg1 := hst.gcells
 have HS0 := Lib.hid hst
 clear hst
 go_enter Tryz.func226, Tryz.ntmps226
 go_wp2_with fail
 go_at_call 87
 refine Post.use HSP0.out HNE.out (fun h0 => name_nm hE HS0.rd) (fun i W' hi hf => ⟨rfl, clo_bad hi (foot_of HB0.out (HS0.fp.trans hf) (by have h0 := Foot.size hf; (try simp only [sz] at h0); omega))⟩) ?_
 intro x2 s2 v2 w2 hsp2 hv2 hr2 hf2
 have hu2 : W.heap.size ≤ w2.heap.size := by have h0 := Foot.size hf2; (try simp only [sz] at h0); omega
 obtain ⟨t2, a2, rfl, rfl, ha2, ht2⟩ := hv2
 clear a1B gg1
 have HS3 := Lib.hid (((HS0.go hr2 hf2).tree (t := .mk 14 t2 0 a2 []) (v := .agg #[.int .i64 14, .string t2, .int .i64 0, .int .i64 a2, .slice none 0 0]) (LiesP.leaf ok_lit ok_lit ha2 ht2)).pn 14 t2 0 a2 (.slice none 0 0)); try simp only [sz] at HS3
 have a4 := J2 (F5 HS3 M0) (F1 HS3 (U1 hrb))
 have gg4 := HS3.gcells
 have HSP2 := Lib.hid hsp2
 clear hsp2 hr2 hf2
 go_wp2_with fail
 go_at_call 90
 refine Post.use HSP2.out HNE.out (fun _ => want_any hE HS3.rd ⟨#[58]⟩ [58] rfl) (fun i W' hi hf => ⟨rfl, clo_bad hi (foot_of HB0.out (HS3.fp.trans hf) (by have h0 := Foot.size hf; (try simp only [sz] at h0); omega))⟩) ?_
 intro x5 s5 v5 w5 hsp5 hv5 hr5 hf5
 have hu5 : W.heap.size ≤ w5.heap.size := by have h0 := Foot.size hf5; (try simp only [sz] at h0); omega
 obtain rfl : v5 = _ := hv5
 clear a4 gg4
 have HS6 := Lib.hid (HS3.go hr5 hf5); try simp only [sz] at HS6
 have a7 := J2 (F5 HS6 M0) (F1 HS6 (U1 hrb))
 have gg7 := HS6.gcells
 have HSP5 := Lib.hid hsp5
 clear hsp5 hr5 hf5
 go_wp2_with fail
 clear a7 gg7
 have hs8 := HS6.drew
 refine wp_region_G [12] (fun W => W.cell? ⟨nb', 4, none⟩ = some (.slice A xs.length cap) ∧ W.cell? ⟨w2.heap.size, 1, none⟩ = some (.string t2) ∧ W.cell? ⟨w2.heap.size, 3, none⟩ = some (.int .i64 a2) ∧ W.cell? ⟨rb, 0, none⟩ = some (.pointer (some ⟨M.bp, 0, none⟩))) (by rfl) ?_ (fun hHeld => ?_)
 · exact ⟨hs8.gcells.2.2.2.2.1, hs8.a M0 1, hs8.a M0 3, hs8.a (U1 hrb) 0⟩
 have hu8 := hu_drew hs8 (x := W.heap.size) (by (try simp only [sz]); omega)
 revert hs8 hu8 hHeld
 generalize World.drew _ = wd8
 intro hs8 hu8 hHeld
 refine tk 0 (h := tk 1 (h := tk 2 (h := tk 3 (h := tk 4 (h := tk 5 (h := tk 6 (h := tk 10 (h := ?_))))))))
 try simp only [nm]
 refine wpAnyG_ready (rs := [7, 11]) (by kernel_rfl) (by simp) ?_
 refine AllReadyG.cons rfl (fun KK hKK => ?_) (AllReadyG.cons rfl (fun KK hKK => ?_) AllReadyG.nil)
 ·
  go_simp
  go_at_call 37
  refine Post.use HSP5.out HNE.out (fun h0 => hK.expr _ _ hs8.rd h0) (fun i W' hi hf => ⟨rfl, clo_bad hi (foot_of HB0.out (hs8.fp.trans hf) (by have h0 := Foot.size hf; (try simp only [sz] at h0); omega))⟩) ?_
  intro x9 s9 v9 w9 hsp9 hv9 hr9 hf9
  have hu9 : W.heap.size ≤ w9.heap.size := by have h0 := Foot.size hf9; (try simp only [sz] at h0); omega
  obtain ⟨k9, t9, n9, a9, ks9⟩ := x9
  obtain ⟨A9, cap9, rfl⟩ := VNd.form hv9
  have HSP9 := Lib.hid hsp9
  clear hsp9
  have hs10 := (hs8.read hr9 hf9 hv9); try simp only [sz] at hs10
  refine hKK.out _ _ (⟨hs10.gcells.2.2.2.2.1, hs10.a M0 1, hs10.a M0 3, hs10.a (U1 hrb) 0⟩) (fun hHeld => ?_)
  clear hKK KK
  try simp only [nm]
  refine wpAnyG_ready (rs := [8, 11]) (by kernel_rfl) (by simp) ?_
  refine AllReadyG.cons rfl (fun KK hKK => ?_) (AllReadyG.cons rfl (fun KK hKK => ?_) AllReadyG.nil)
  ·
   go_simp
   have hs11 := (hs10.pn k9 t9 n9 a9 (.slice A9 ks9.length cap9)); try simp only [sz] at hs11
   have hu12 := hu_push hs11 (x := W.heap.size) (by (try simp only [sz]); omega)
   revert hs11 hu12
   generalize World.alloc _ _ = wq12
   intro hs11 hu12
   refine hKK.out _ _ (⟨hs11.gcells.2.2.2.2.1, hs11.a M1 1, hs11.a M1 3, hs11.a (U2 hrb) 0⟩) (fun hHeld => ?_)
   clear hKK KK
   refine tk 9 (h := ?_)
   try simp only [nm]
   refine rd1 11 fun KK hKK => ?_
   go_simp
   have hs13 := (hs11.pz); try simp only [sz] at hs13
   have hu14 := hu_push hs13 (x := W.heap.size) (by (try simp only [sz]); omega)
   revert hs13 hu14
   generalize World.alloc _ _ = wq14
   intro hs13 hu14
   refine hKK.out _ _ (⟨hs13.gcells.2.2.2.2.1, hs13.a M2 1, hs13.a M2 3, hs13.a (U3 hrb) 0⟩) (fun hHeld => ?_)
   clear hKK KK
   try simp only [nm]
   refine rl1 12 fun KK hKK => ?_
   have hs16 := (hs13.swap.node [(.mk k9 t9 n9 a9 ks9, .agg #[.int .i64 k9, .string t9, .int .i64 n9, .int .i64 a9, .slice A9 ks9.length cap9])] rfl (memC M0 (mem0 _)) (k := 40) (sx := t2) (n := 0) (a := a2) ok_lit ok_lit ha2 ht2 (l := 1) rfl (by decide)); try simp only [sz] at hs16
   refine apl 8 18 hs16 M0 xs.length (h := ?_)
   intro b17 capb17 w17 ho17 hg17 hb17 hbl17
   obtain ⟨he17, ef17, n417, nf17, hne17, hbox17, hlen17⟩ := hs16.newElem rfl ho17 hg17 hb17
   obtain ⟨e17_0, e17_1, e17_2, e17_3, e17_4⟩ := he17
   have hnx17 : (nb' = b17) = False := by simpa using fun e => hne17 e.symm
   have hny17 : (b17 = nb') = False := by simpa using hne17
   have HSF17 := Lib.hid (And.intro hs16 (And.intro ho17 (And.intro hg17 (And.intro hb17 (And.intro hbox17 hlen17)))))
   clear hs8 hs10 hs11 hs13 hs16 ho17 hg17 hb17
   refine hKK.out _ _ ?_
   clear hKK KK
   refine tq 13 (h := tq 15 (h := ?_))
   try simp only [nm]
   refine wpAny_ready' (rs := [14, 16]) (by kernel_rfl) (by simp) ?_
   refine allReady_cons rfl (fun KK hKK => ?_) (allReady_cons rfl (fun KK hKK => ?_) allReady_nil)
   ·
    go_simp
    refine hKK.out _ _ ?_
    clear hKK KK
    try simp only [nm]
    refine rp1 16 fun KK hKK => ?_
    go_simp
    refine hKK.out _ _ ?_
    clear hKK KK
    try simp only [nm]
    refine wpAny_done (by kernel_rfl) ?_ _
    go_wp2_with fail
    go_end0
    have hA17 := AppSt.fin (lo := w0.heap.size) (((AppSt.init HSF17.out.2.1 HSF17.out.2.2.2.2.1).elem (fun e => hne17 e.symm) (xs.length * 5) (.int .i64 40) (.string t2) (.int .i64 0) (.int .i64 a2) (.slice (some ⟨w9.heap.size, 0, none⟩) 1 1)).box_ (fun e => hne17 e.symm) (.slice (some ⟨b17, 0, none⟩) (xs.length + 1) capb17)) (set5_list _ _ _ _ _ _ _ _ _ _ _ HSF17.out.2.2.2.2.2)
    have hs18 := (HSF17.out.1.appendedN (m := xs.length) (N := 1) (zs := [.int .i64 0, .string ⟨#[]⟩, .int .i64 0, .int .i64 0, .slice none 0 0]) rfl rfl HSF17.out.2.1 HSF17.out.2.2.1 HSF17.out.2.2.2.1 (ys := [(.mk 40 t2 0 a2 [.mk k9 t9 n9 a9 ks9], .agg #[.int .i64 40, .string t2, .int .i64 0, .int .i64 a2, .slice (some ⟨w9.heap.size, 0, none⟩) 1 1])]) (memC M0 (mem0 _)) hA17 rfl).retire.retire
    refine clo_end (HSP9.out).symm hs18 rfl (by simp [Gv.nd, Nd.push, Nd.text, Nd.at_]) HB0.out ?_ (by simp [Gv.nd, Nd.push, Nd.kids])
    rw [hA17.size]; have h0 := HSF17.out.2.2.1.size; (try simp only [sz] at h0); omega
   ·
    go_simp
    refine hKK.out _ _ ?_
    clear hKK KK
    try simp only [nm]
    refine rp1 14 fun KK hKK => ?_
    go_simp
    refine hKK.out _ _ ?_
    clear hKK KK
    try simp only [nm]
    refine wpAny_done (by kernel_rfl) ?_ _
    go_wp2_with fail
    go_end0
    have hA17 := AppSt.fin (lo := w0.heap.size) (((AppSt.init HSF17.out.2.1 HSF17.out.2.2.2.2.1).box_ (fun e => hne17 e.symm) (.slice (some ⟨b17, 0, none⟩) (xs.length + 1) capb17)).elem (fun e => hne17 e.symm) (xs.length * 5) (.int .i64 40) (.string t2) (.int .i64 0) (.int .i64 a2) (.slice (some ⟨w9.heap.size, 0, none⟩) 1 1)) (set5_list _ _ _ _ _ _ _ _ _ _ _ HSF17.out.2.2.2.2.2)
    have hs18 := (HSF17.out.1.appendedN (m := xs.length) (N := 1) (zs := [.int .i64 0, .string ⟨#[]⟩, .int .i64 0, .int .i64 0, .slice none 0 0]) rfl rfl HSF17.out.2.1 HSF17.out.2.2.1 HSF17.out.2.2.2.1 (ys := [(.mk 40 t2 0 a2 [.mk k9 t9 n9 a9 ks9], .agg #[.int .i64 40, .string t2, .int .i64 0, .int .i64 a2, .slice (some ⟨w9.heap.size, 0, none⟩) 1 1])]) (memC M0 (mem0 _)) hA17 rfl).retire.retire
    refine clo_end (HSP9.out).symm hs18 rfl (by simp [Gv.nd, Nd.push, Nd.text, Nd.at_]) HB0.out ?_ (by simp [Gv.nd, Nd.push, Nd.kids])
    rw [hA17.size]; have h0 := HSF17.out.2.2.1.size; (try simp only [sz] at h0); omega
  ·
   go_simp
   have hs11 := (hs10.pz); try simp only [sz] at hs11
   have hu12 := hu_push hs11 (x := W.heap.size) (by (try simp only [sz]); omega)
   revert hs11 hu12
   generalize World.alloc _ _ = wq12
   intro hs11 hu12
   refine hKK.out _ _ (⟨hs11.gcells.2.2.2.2.1, hs11.a M1 1, hs11.a M1 3, hs11.a (U2 hrb) 0⟩) (fun hHeld => ?_)
   clear hKK KK
   try simp only [nm]
   refine rd1 8 fun KK hKK => ?_
   go_simp
   have hs13 := (hs11.pn k9 t9 n9 a9 (.slice A9 ks9.length cap9)); try simp only [sz] at hs13
   have hu14 := hu_push hs13 (x := W.heap.size) (by (try simp only [sz]); omega)
   revert hs13 hu14
   generalize World.alloc _ _ = wq14
   intro hs13 hu14
   refine hKK.out _ _ (⟨hs13.gcells.2.2.2.2.1, hs13.a M2 1, hs13.a M2 3, hs13.a (U3 hrb) 0⟩) (fun hHeld => ?_)
   clear hKK KK
   refine tk 9 (h := ?_)
   try simp only [nm]
   refine rl1 12 fun KK hKK => ?_
   have hs16 := (hs13.node [(.mk k9 t9 n9 a9 ks9, .agg #[.int .i64 k9, .string t9, .int .i64 n9, .int .i64 a9, .slice A9 ks9.length cap9])] rfl (memC M0 (mem0 _)) (k := 40) (sx := t2) (n := 0) (a := a2) ok_lit ok_lit ha2 ht2 (l := 1) rfl (by decide)); try simp only [sz] at hs16
   refine apl 8 18 hs16 M0 xs.length (h := ?_)
   intro b17 capb17 w17 ho17 hg17 hb17 hbl17
   obtain ⟨he17, ef17, n417, nf17, hne17, hbox17, hlen17⟩ := hs16.newElem rfl ho17 hg17 hb17
   obtain ⟨e17_0, e17_1, e17_2, e17_3, e17_4⟩ := he17
   have hnx17 : (nb' = b17) = False := by simpa using fun e => hne17 e.symm
   have hny17 : (b17 = nb') = False := by simpa using hne17
   have HSF17 := Lib.hid (And.intro hs16 (And.intro ho17 (And.intro hg17 (And.intro hb17 (And.intro hbox17 hlen17)))))
   clear hs8 hs10 hs11 hs13 hs16 ho17 hg17 hb17
   refine hKK.out _ _ ?_
   clear hKK KK
   refine tq 13 (h := tq 15 (h := ?_))
   try simp only [nm]
   refine wpAny_ready' (rs := [14, 16]) (by kernel_rfl) (by simp) ?_
   refine allReady_cons rfl (fun KK hKK => ?_) (allReady_cons rfl (fun KK hKK => ?_) allReady_nil)
   ·
    go_simp
    refine hKK.out _ _ ?_
    clear hKK KK
    try simp only [nm]
    refine rp1 16 fun KK hKK => ?_
    go_simp
    refine hKK.out _ _ ?_
    clear hKK KK
    try simp only [nm]
    refine wpAny_done (by kernel_rfl) ?_ _
    go_wp2_with fail
    go_end0
    have hA17 := AppSt.fin (lo := w0.heap.size) (((AppSt.init HSF17.out.2.1 HSF17.out.2.2.2.2.1).elem (fun e => hne17 e.symm) (xs.length * 5) (.int .i64 40) (.string t2) (.int .i64 0) (.int .i64 a2) (.slice (some ⟨wq12.heap.size, 0, none⟩) 1 1)).box_ (fun e => hne17 e.symm) (.slice (some ⟨b17, 0, none⟩) (xs.length + 1) capb17)) (set5_list _ _ _ _ _ _ _ _ _ _ _ HSF17.out.2.2.2.2.2)
    have hs18 := (HSF17.out.1.appendedN (m := xs.length) (N := 1) (zs := [.int .i64 0, .string ⟨#[]⟩, .int .i64 0, .int .i64 0, .slice none 0 0]) rfl rfl HSF17.out.2.1 HSF17.out.2.2.1 HSF17.out.2.2.2.1 (ys := [(.mk 40 t2 0 a2 [.mk k9 t9 n9 a9 ks9], .agg #[.int .i64 40, .string t2, .int .i64 0, .int .i64 a2, .slice (some ⟨wq12.heap.size, 0, none⟩) 1 1])]) (memC M0 (mem0 _)) hA17 rfl).retire.retire
    refine clo_end (HSP9.out).symm hs18 rfl (by simp [Gv.nd, Nd.push, Nd.text, Nd.at_]) HB0.out ?_ (by simp [Gv.nd, Nd.push, Nd.kids])
    rw [hA17.size]; have h0 := HSF17.out.2.2.1.size; (try simp only [sz] at h0); omega
   ·
    go_simp
    refine hKK.out _ _ ?_
    clear hKK KK
    try simp only [nm]
    refine rp1 14 fun KK hKK => ?_
    go_simp
    refine hKK.out _ _ ?_
    clear hKK KK
    try simp only [nm]
    refine wpAny_done (by kernel_rfl) ?_ _
    go_wp2_with fail
    go_end0
    have hA17 := AppSt.fin (lo := w0.heap.size) (((AppSt.init HSF17.out.2.1 HSF17.out.2.2.2.2.1).box_ (fun e => hne17 e.symm) (.slice (some ⟨b17, 0, none⟩) (xs.length + 1) capb17)).elem (fun e => hne17 e.symm) (xs.length * 5) (.int .i64 40) (.string t2) (.int .i64 0) (.int .i64 a2) (.slice (some ⟨wq12.heap.size, 0, none⟩) 1 1)) (set5_list _ _ _ _ _ _ _ _ _ _ _ HSF17.out.2.2.2.2.2)
    have hs18 := (HSF17.out.1.appendedN (m := xs.length) (N := 1) (zs := [.int .i64 0, .string ⟨#[]⟩, .int .i64 0, .int .i64 0, .slice none 0 0]) rfl rfl HSF17.out.2.1 HSF17.out.2.2.1 HSF17.out.2.2.2.1 (ys := [(.mk 40 t2 0 a2 [.mk k9 t9 n9 a9 ks9], .agg #[.int .i64 40, .string t2, .int .i64 0, .int .i64 a2, .slice (some ⟨wq12.heap.size, 0, none⟩) 1 1])]) (memC M0 (mem0 _)) hA17 rfl).retire.retire
    refine clo_end (HSP9.out).symm hs18 rfl (by simp [Gv.nd, Nd.push, Nd.text, Nd.at_]) HB0.out ?_ (by simp [Gv.nd, Nd.push, Nd.kids])
    rw [hA17.size]; have h0 := HSF17.out.2.2.1.size; (try simp only [sz] at h0); omega
 ·
  go_simp
  have hs9 := (hs8.pz); try simp only [sz] at hs9
  have hu10 := hu_push hs9 (x := W.heap.size) (by (try simp only [sz]); omega)
  revert hs9 hu10
  generalize World.alloc _ _ = wq10
  intro hs9 hu10
  refine hKK.out _ _ (⟨hs9.gcells.2.2.2.2.1, hs9.a M1 1, hs9.a M1 3, hs9.a (U2 hrb) 0⟩) (fun hHeld => ?_)
  clear hKK KK
  try simp only [nm]
  refine rd1 7 fun KK hKK => ?_
  go_simp
  go_at_call 37
  refine Post.use HSP5.out HNE.out (fun h0 => hK.expr _ _ hs9.rd h0) (fun i W' hi hf => ⟨rfl, clo_bad hi (foot_of HB0.out (hs9.fp.trans hf) (by have h0 := Foot.size hf; (try simp only [sz] at h0); omega))⟩) ?_
  intro x11 s11 v11 w11 hsp11 hv11 hr11 hf11
  have hu11 : W.heap.size ≤ w11.heap.size := by have h0 := Foot.size hf11; (try simp only [sz] at h0); omega
  obtain ⟨k11, t11, n11, a11, ks11⟩ := x11
  obtain ⟨A11, cap11, rfl⟩ := VNd.form hv11
  have HSP11 := Lib.hid hsp11
  clear hsp11
  have hs12 := (hs9.read hr11 hf11 hv11); try simp only [sz] at hs12
  refine hKK.out _ _ (⟨hs12.gcells.2.2.2.2.1, hs12.a M1 1, hs12.a M1 3, hs12.a (U2 hrb) 0⟩) (fun hHeld => ?_)
  clear hKK KK
  try simp only [nm]
  refine rd1 8 fun KK hKK => ?_
  go_simp
  have hs13 := (hs12.pn k11 t11 n11 a11 (.slice A11 ks11.length cap11)); try simp only [sz] at hs13
  have hu14 := hu_push hs13 (x := W.heap.size) (by (try simp only [sz]); omega)
  revert hs13 hu14
  generalize World.alloc _ _ = wq14
  intro hs13 hu14
  refine hKK.out _ _ (⟨hs13.gcells.2.2.2.2.1, hs13.a M2 1, hs13.a M2 3, hs13.a (U3 hrb) 0⟩) (fun hHeld => ?_)
  clear hKK KK
  refine tk 9 (h := ?_)
  try simp only [nm]
  refine rl1 12 fun KK hKK => ?_
  have hs16 := (hs13.node [(.mk k11 t11 n11 a11 ks11, .agg #[.int .i64 k11, .string t11, .int .i64 n11, .int .i64 a11, .slice A11 ks11.length cap11])] rfl (memC M0 (mem0 _)) (k := 40) (sx := t2) (n := 0) (a := a2) ok_lit ok_lit ha2 ht2 (l := 1) rfl (by decide)); try simp only [sz] at hs16
  refine apl 8 18 hs16 M0 xs.length (h := ?_)
  intro b17 capb17 w17 ho17 hg17 hb17 hbl17
  obtain ⟨he17, ef17, n417, nf17, hne17, hbox17, hlen17⟩ := hs16.newElem rfl ho17 hg17 hb17
  obtain ⟨e17_0, e17_1, e17_2, e17_3, e17_4⟩ := he17
  have hnx17 : (nb' = b17) = False := by simpa using fun e => hne17 e.symm
  have hny17 : (b17 = nb') = False := by simpa using hne17
  have HSF17 := Lib.hid (And.intro hs16 (And.intro ho17 (And.intro hg17 (And.intro hb17 (And.intro hbox17 hlen17)))))
  clear hs8 hs9 hs12 hs13 hs16 ho17 hg17 hb17
  refine hKK.out _ _ ?_
  clear hKK KK
  refine tq 13 (h := tq 15 (h := ?_))
  try simp only [nm]
  refine wpAny_ready' (rs := [14, 16]) (by kernel_rfl) (by simp) ?_
  refine allReady_cons rfl (fun KK hKK => ?_) (allReady_cons rfl (fun KK hKK => ?_) allReady_nil)
  ·
   go_simp
   refine hKK.out _ _ ?_
   clear hKK KK
   try simp only [nm]
   refine rp1 16 fun KK hKK => ?_
   go_simp
   refine hKK.out _ _ ?_
   clear hKK KK
   try simp only [nm]
   refine wpAny_done (by kernel_rfl) ?_ _
   go_wp2_with fail
   go_end0
   have hA17 := AppSt.fin (lo := w0.heap.size) (((AppSt.init HSF17.out.2.1 HSF17.out.2.2.2.2.1).elem (fun e => hne17 e.symm) (xs.length * 5) (.int .i64 40) (.string t2) (.int .i64 0) (.int .i64 a2) (.slice (some ⟨w11.heap.size, 0, none⟩) 1 1)).box_ (fun e => hne17 e.symm) (.slice (some ⟨b17, 0, none⟩) (xs.length + 1) capb17)) (set5_list _ _ _ _ _ _ _ _ _ _ _ HSF17.out.2.2.2.2.2)
   have hs18 := (HSF17.out.1.appendedN (m := xs.length) (N := 1) (zs := [.int .i64 0, .string ⟨#[]⟩, .int .i64 0, .int .i64 0, .slice none 0 0]) rfl rfl HSF17.out.2.1 HSF17.out.2.2.1 HSF17.out.2.2.2.1 (ys := [(.mk 40 t2 0 a2 [.mk k11 t11 n11 a11 ks11], .agg #[.int .i64 40, .string t2, .int .i64 0, .int .i64 a2, .slice (some ⟨w11.heap.size, 0, none⟩) 1 1])]) (memC M0 (mem0 _)) hA17 rfl).retire.retire
   refine clo_end (HSP11.out).symm hs18 rfl (by simp [Gv.nd, Nd.push, Nd.text, Nd.at_]) HB0.out ?_ (by simp [Gv.nd, Nd.push, Nd.kids])
   rw [hA17.size]; have h0 := HSF17.out.2.2.1.size; (try simp only [sz] at h0); omega
  ·
   go_simp
   refine hKK.out _ _ ?_
   clear hKK KK
   try simp only [nm]
   refine rp1 14 fun KK hKK => ?_
   go_simp
   refine hKK.out _ _ ?_
   clear hKK KK
   try simp only [nm]
   refine wpAny_done (by kernel_rfl) ?_ _
   go_wp2_with fail
   go_end0
   have hA17 := AppSt.fin (lo := w0.heap.size) (((AppSt.init HSF17.out.2.1 HSF17.out.2.2.2.2.1).box_ (fun e => hne17 e.symm) (.slice (some ⟨b17, 0, none⟩) (xs.length + 1) capb17)).elem (fun e => hne17 e.symm) (xs.length * 5) (.int .i64 40) (.string t2) (.int .i64 0) (.int .i64 a2) (.slice (some ⟨w11.heap.size, 0, none⟩) 1 1)) (set5_list _ _ _ _ _ _ _ _ _ _ _ HSF17.out.2.2.2.2.2)
   have hs18 := (HSF17.out.1.appendedN (m := xs.length) (N := 1) (zs := [.int .i64 0, .string ⟨#[]⟩, .int .i64 0, .int .i64 0, .slice none 0 0]) rfl rfl HSF17.out.2.1 HSF17.out.2.2.1 HSF17.out.2.2.2.1 (ys := [(.mk 40 t2 0 a2 [.mk k11 t11 n11 a11 ks11], .agg #[.int .i64 40, .string t2, .int .i64 0, .int .i64 a2, .slice (some ⟨w11.heap.size, 0, none⟩) 1 1])]) (memC M0 (mem0 _)) hA17 rfl).retire.retire
   refine clo_end (HSP11.out).symm hs18 rfl (by simp [Gv.nd, Nd.push, Nd.text, Nd.at_]) HB0.out ?_ (by simp [Gv.nd, Nd.push, Nd.kids])
   rw [hA17.size]; have h0 := HSF17.out.2.2.1.size; (try simp only [sz] at h0); omega

end
end Go.Proofs.YtokhfhibdeneeaaGreatDoor
