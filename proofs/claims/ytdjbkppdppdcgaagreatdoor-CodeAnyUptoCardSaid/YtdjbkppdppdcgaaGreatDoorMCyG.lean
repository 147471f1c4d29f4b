/- code.inst of a line without a text. code.opened of a function's first line. (*Program).line of an instruction's line without a text. code.Decode of any bytes: what the reading has come to, between two things. -/
import Derived.Lib.Split
import Derived.OneCell
import Derived.Lib.SmallJoins
import Derived.Test.YtdjbkppdppdcgaaGreatDoorSqC
import Derived.Test.YtdjbkppdppdcgaaGreatDoorMCxJ
import Derived.Test.YtdjbkppdppdcgaaGreatDoorCxI
import Derived.Test.YtdjbkppdppdcgaaGreatDoorMCdD
import Derived.Test.YtdjbkppdppdcgaaGreatDoorCxH
import Derived.Test.YtdjbkppdppdcgaaGreatDoorMUnB
namespace Go.Proofs.YtdjbkppdppdcgaaGreatDoor
open Go.RowKit

theorem Gc.maxLen {w : World} (h : Gc w) : ∃ m, w.cell? ⟨2, 0, none⟩ = some (.int .i64 m) := h.max
theorem set_other {W : World} {a b : Addr} {v u : Value} (h : W.cell? b = some u) (hne : b.block ≠ a.block) : (W.setCell a v).cell? b = some u :=
  (World.cell?_of_block (w := W) (a := b) (Below.heap_setCell W _ _ _ hne)).trans h
theorem inst_result (tmps : Array Value) (W : World) (g : Nat) (v0 v1 v2 v3 v4 v5 : Value) (h2 : tmps.getD 2 undef = .pointer (some ⟨g, 0, none⟩)) (h3 : tmps.getD 3 undef = v5) (e0 : W.cell? ⟨g, 0, none⟩ = some v0) (e1 : W.cell? ⟨g, 1, none⟩ = some v1) (e2 : W.cell? ⟨g, 2, none⟩ = some v2) (e3 : W.cell? ⟨g, 3, none⟩ = some v3) (e4 : W.cell? ⟨g, 4, none⟩ = some v4) :
    (results Tryz.f71 tmps).run Tryz.prog W = .ok (.tuple #[.agg #[v0, v1, v2, v3, v4], v5]) W := by
  have h2' : tmps[2]?.getD undef = .pointer (some ⟨g, 0, none⟩) := by simpa using h2
  have h3' : tmps[3]?.getD undef = v5 := by simpa using h3
  have hres : Tryz.f71.results = #[ResultVar.cell 2 46, ResultVar.tmp 3] := rfl
  simp [results, go_sem, h2', h3', e0, e1, e2, e3, e4]

end Go.Proofs.YtdjbkppdppdcgaaGreatDoor

namespace Go.Proofs.YtdjbkppdppdcgaaGreatDoor
open Go.RowKit

theorem opened_result (tmps : Array Value) (W : World) (g : Nat) (v0 v1 v2 v3 v4 v5 v6 : Value) (h2 : tmps.getD 2 undef = .pointer (some ⟨g, 0, none⟩)) (h3 : tmps.getD 3 undef = v6) (e0 : W.cell? ⟨g, 0, none⟩ = some v0) (e1 : W.cell? ⟨g, 1, none⟩ = some v1) (e2 : W.cell? ⟨g, 2, none⟩ = some v2) (e3 : W.cell? ⟨g, 3, none⟩ = some v3) (e4 : W.cell? ⟨g, 4, none⟩ = some v4) (e5 : W.cell? ⟨g, 5, none⟩ = some v5) :
    (results Tryz.f72 tmps).run Tryz.prog W = .ok (.tuple #[.agg #[v0, v1, v2, v3, v4, v5], v6]) W := by
  have h2' : tmps[2]?.getD undef = .pointer (some ⟨g, 0, none⟩) := by simpa using h2
  have h3' : tmps[3]?.getD undef = v6 := by simpa using h3
  have hres : Tryz.f72.results = #[ResultVar.cell 2 43, ResultVar.tmp 3] := rfl
  simp [results, go_sem, h2', h3', e0, e1, e2, e3, e4, e5]

end Go.Proofs.YtdjbkppdppdcgaaGreatDoor

namespace Go.Proofs.YtdjbkppdppdcgaaGreatDoor
open Go.RowKit

/-- The function that is read, its code so far. -/
def rdF (xs : List Ci) : Cf := ⟨⟨#[]⟩, 0, 1, [], -1, xs⟩
/-- Reading: the program that is made lies at block pb, its one function at block g, the function's code in a row of its own. -/
structure RdS (lo : Nat) (W0 W : World) (pb g cap : Nat) (ga : Option Addr) (gc : Nat) (fv : Fv) (xs : List Ci) : Prop where
  low : Below lo W0 W
  box : W.heap[pb]? = some (.cells #[.slice (some ⟨g, 0, none⟩) 1 cap, .slice ga 0 gc] 25 (0, 0))
  fns : W.ownsRow lo 43 6 (.slice (some ⟨g, 0, none⟩) 1 cap) 1 (fnCells (rdF xs, fv))
  ins : W.ownsRow lo 46 5 (.slice fv.ca xs.length fv.cc) xs.length (xs.flatMap insCells)
  ne1 : g ≠ pb
  ne2 : Value.ownBlock (.slice fv.ca xs.length fv.cc) ≠ some pb
  ne3 : Value.ownBlock (.slice fv.ca xs.length fv.cc) ≠ some g
  lp : lo ≤ pb
section
variable {lo : Nat} {W0 W W' W2 : World} {pb g cap gc : Nat} {ga : Option Addr} {fv : Fv} {xs : List Ci} {o : Obj}
theorem RdS.lo_le (h : RdS lo W0 W pb g cap ga gc fv xs) : lo ≤ W.heap.size := by
  have := (Array.getElem?_eq_some_iff.1 h.box).1
  have := h.lp
  omega
theorem RdS.plt (h : RdS lo W0 W pb g cap ga gc fv xs) : pb < W.heap.size := (Array.getElem?_eq_some_iff.1 h.box).1
theorem RdS.glt (h : RdS lo W0 W pb g cap ga gc fv xs) : lo ≤ g ∧ g < W.heap.size := h.fns.lt g rfl
theorem RdS.under (h : RdS lo W0 W pb g cap ga gc fv xs) (hb : Below W.heap.size W W') : RdS lo W0 W' pb g cap ga gc fv xs :=
  ⟨h.low.trans (hb.mono h.lo_le), (hb.block pb h.plt).trans h.box, own_up h.fns hb, own_up h.ins hb, h.ne1, h.ne2, h.ne3, h.lp⟩
theorem RdS.alloc (h : RdS lo W0 W pb g cap ga gc fv xs) (p : Obj) : RdS lo W0 (W.alloc p) pb g cap ga gc fv xs := h.under ((Below.refl _ _).alloc (Nat.le_refl _) _)
theorem RdS.c (h : RdS lo W0 W pb g cap ga gc fv xs) : W.cell? ⟨pb, 0, none⟩ = some (.slice (some ⟨g, 0, none⟩) 1 cap) := by
  have := cell_of_row W pb 0 _ _ _ h.box
  simpa using this
theorem RdS.c5 (h : RdS lo W0 W pb g cap ga gc fv xs) : W.cell? ⟨g, 5, none⟩ = some (.slice fv.ca xs.length fv.cc) ∧ W.frozen? ⟨g, 5, none⟩ = false :=
  ⟨(h.fns.cellAt 5 (by decide)).trans rfl, h.fns.frozenAt 5⟩
theorem RdS.push {x : Ci} {g2 cap2 : Nat} (h : RdS lo W0 W pb g cap ga gc fv xs) (ho : W2.ownsRow lo 46 5 (.slice (some ⟨g2, 0, none⟩) (xs.length + 1) cap2) (xs.length + 1) (xs.flatMap insCells ++ insCells x))
    (hg : (W.alloc o).grownBy W2 (Value.ownBlock (.slice fv.ca xs.length fv.cc))) (hb : Value.ownBlock (.slice fv.ca xs.length fv.cc) = some g2 ∨ g2 = (W.alloc o).heap.size) :
    (W2.cell? ⟨g, 5, none⟩ = some (.slice fv.ca xs.length fv.cc) ∧ W2.frozen? ⟨g, 5, none⟩ = false) ∧ RdS lo W0 (W2.setCell ⟨g, 5, none⟩ (.slice (some ⟨g2, 0, none⟩) (xs.length + 1) cap2)) pb g cap ga gc ⟨fv.ta, fv.tc, some ⟨g2, 0, none⟩, cap2⟩ (xs ++ [x]) := by
  have hgl := h.glt
  have hpl := h.plt
  have hll := h.lo_le
  have hsz : (W.alloc o).heap.size = W.heap.size + 1 := World.size_alloc _ _
  have hg2 : g2 ≠ pb ∧ g2 ≠ g := by
    rcases hb with h2 | h2
    · exact ⟨fun e => h.ne2 (by rw [h2, e]), fun e => h.ne3 (by rw [h2, e])⟩
    · omega
  have hf2 : W2.ownsRow lo 43 6 (.slice (some ⟨g, 0, none⟩) 1 cap) 1 (fnCells (rdF xs, fv)) := (h.fns.alloc o).kept hg (.inr (fun e => h.ne3 e.symm))
  have hbx : W2.heap[pb]? = some (.cells #[.slice (some ⟨g, 0, none⟩) 1 cap, .slice ga 0 gc] 25 (0, 0)) := (hg.block pb (by omega) (fun e => h.ne2 e.symm)).trans ((heap_alloc_old _ _ hpl).trans h.box)
  refine ⟨⟨(hf2.cellAt 5 (by decide)).trans rfl, hf2.frozenAt 5⟩, ?_, (Below.heap_setCell _ _ _ _ (fun e => h.ne1 e.symm)).trans hbx, ?_, ?_, h.ne1, fun e => hg2.1 (by simpa [Value.ownBlock] using e), fun e => hg2.2 (by simpa [Value.ownBlock] using e), h.lp⟩
  · have hb2 : Below lo W0 W2 := (h.low.alloc hll o).trans ⟨hg.os, hg.tape, hg.output, hg.size, fun k hk => hg.block k (by omega) (fun e => by have := (h.ins.lt k e.symm).1; omega)⟩
    exact hb2.setCell hgl.1 _
  · have := (hf2.stored 5 (.slice (some ⟨g2, 0, none⟩) (xs.length + 1) cap2)).1
    have e : (fnCells (rdF xs, fv)).set 5 (.slice (some ⟨g2, 0, none⟩) (xs.length + 1) cap2) = fnCells (rdF (xs ++ [x]), ⟨fv.ta, fv.tc, some ⟨g2, 0, none⟩, cap2⟩) := by
      simp [fnCells, rdF]
    rw [e] at this
    exact this
  · have e1 : (xs ++ [x]).length = xs.length + 1 := by simp
    have e2 : (xs ++ [x]).flatMap insCells = xs.flatMap insCells ++ insCells x := by simp
    rw [e1, e2]
    exact ownsRow_setCell_other ho (fun e => hg2.2 (by simpa [Value.ownBlock] using e)) _
end
theorem tail_of (c : UInt8) (r : List UInt8) : (⟨⟨c :: r⟩⟩ : ByteArray).extract 1 (r.length + 1) = ⟨⟨r⟩⟩ := by
  have : (⟨⟨c :: r⟩⟩ : ByteArray).extract 1 (r.length + 1) = ⟨(⟨c :: r⟩ : Array UInt8).extract 1 (r.length + 1)⟩ := by
    simp [ByteArray.extract, ByteArray.copySlice]
  rw [this]
  congr 1
  simp

end Go.Proofs.YtdjbkppdppdcgaaGreatDoor

namespace Go.Proofs.YtdjbkppdppdcgaaGreatDoor
open Go.RowKit

/-- A function's own rows, in memory of the call. -/
def FnOwn (W : World) (lo : Nat) (x : Cf × Fv) : Prop := W.ownsRow lo 3 1 (.slice x.2.ta x.1.taken.length x.2.tc) x.1.taken.length (x.1.taken.map (Value.int .i64)) ∧
  W.ownsRow lo 46 5 (.slice x.2.ca x.1.code.length x.2.cc) x.1.code.length (x.1.code.flatMap insCells)
def FnBlk (x : Cf × Fv) (g : Nat) : Prop := (Value.slice x.2.ta x.1.taken.length x.2.tc).ownBlock = some g ∨ (Value.slice x.2.ca x.1.code.length x.2.cc).ownBlock = some g
theorem FnOwn.lt {W : World} {lo : Nat} {x : Cf × Fv} (h : FnOwn W lo x) {g : Nat} (hg : FnBlk x g) : lo ≤ g ∧ g < W.heap.size := by
  rcases hg with hg | hg
  · exact h.1.lt g hg
  · exact h.2.lt g hg
theorem FnOwn.keep {W W' : World} {lo : Nat} {x : Cf × Fv} (h : FnOwn W lo x) (hk : ∀ g, FnBlk x g → W'.heap[g]? = W.heap[g]?) : FnOwn W' lo x :=
  ⟨own_keep h.1 fun g hg => hk g (.inl hg), own_keep h.2 fun g hg => hk g (.inr hg)⟩
theorem own_rowA {W : World} {lo : Nat} {e : TypeId} {s n cap : Nat} {A : Option Addr} {xs : List Value} (h : W.ownsRow lo e s (.slice A n cap) n xs) : RowIs W W.heap.size A xs ∧ n ≤ cap := by
  have hl := h.1
  rcases h.2 with ⟨e1, rfl⟩ | ⟨g, cap', cur, e1, hlo, hg, h1, h2, h3, h4⟩
  · refine ⟨.inl (List.eq_nil_of_length_eq_zero (by simpa using hl)), Nat.zero_le _⟩
  · injection e1 with e1 e2 e3
    subst e1 e3
    refine ⟨.inr ⟨g, 0, rfl, (Array.getElem?_eq_some_iff.1 hg).1, fun j v hj => ?_⟩, h1⟩
    have := h.cells (g := g) rfl j v hj
    rwa [Addr.add_lit] at this
theorem FnOwn.lies {W : World} {lo : Nat} {x : Cf × Fv} (h : FnOwn W lo x) : LiesF W W.heap.size x :=
  ⟨(own_rowA h.1).1, (own_rowA h.2).1, (own_rowA h.1).2, (own_rowA h.2).2⟩
/-- What the reading has come to. -/
structure DcSt (w W0 : World) (rb pb : Nat) (b : List UInt8) (vf vg : Value) (xs : List (Cf × Fv)) (gs : List ByteArray) (r : Drd) (W : World) : Prop where
  rd : RdAt W0 rb b r W
  box : RBox W0 W pb (.cells #[vf, vg] 25 (0, 0))
  res : W.heap[w.heap.size]? = some (.cells #[.slice none 0 0, .slice none 0 0] 25 (0, 0))
  own1 : W.ownsRow W0.heap.size 43 6 vf xs.length (xs.flatMap fnCells)
  own2 : W.ownsRow W0.heap.size 9 1 vg gs.length (gs.map Value.string)
  fns : ∀ x ∈ xs, FnOwn W W0.heap.size x
  n1 : ∀ g, vf.ownBlock = some g → g ≠ pb ∧ vg.ownBlock ≠ some g ∧ ∀ x ∈ xs, ¬ FnBlk x g
  n2 : ∀ g, vg.ownBlock = some g → g ≠ pb ∧ ∀ x ∈ xs, ¬ FnBlk x g
  n3 : ∀ x ∈ xs, ∀ g, FnBlk x g → g ≠ pb
  n4 : w.heap.size < W0.heap.size
  n5 : w.heap.size ≠ rb
section
variable {w W0 W W' W2 : World} {rb pb g2 cap2 : Nat} {b : List UInt8} {vf vg : Value} {xs : List (Cf × Fv)} {gs : List ByteArray} {r r' : Drd} {o : Obj}
theorem DcSt.post (h : DcSt w W0 rb pb b vf vg xs gs r W) (hb : BrAt rb b r' W') (hf : RF rb W W') : DcSt w W0 rb pb b vf vg xs gs r' W' := by
  have ho := h.rd.old
  refine ⟨h.rd.post hb hf, h.box.post ho hf, (hf.block _ (Array.getElem?_eq_some_iff.1 h.res).1 (fun e => h.n5 e)).trans h.res, own_keep h.own1 fun g hg => ?_, own_keep h.own2 fun g hg => ?_, fun x hx => (h.fns x hx).keep fun g hg => ?_, h.n1, h.n2, h.n3, h.n4, h.n5⟩
  · have := h.own1.lt g hg; exact hf.block g this.2 (by omega)
  · have := h.own2.lt g hg; exact hf.block g this.2 (by omega)
  · have := (h.fns x hx).lt hg; exact hf.block g this.2 (by omega)
theorem DcSt.drew (h : DcSt w W0 rb pb b vf vg xs gs r W) : DcSt w W0 rb pb b vf vg xs gs r W.drew := ⟨h.rd.drew, h.box, h.res, h.own1, h.own2, h.fns, h.n1, h.n2, h.n3, h.n4, h.n5⟩
/-- A text more. -/
theorem DcSt.push2 (h : DcSt w W0 rb pb b vf vg xs gs r W) {s : ByteArray} (ho : W2.ownsRow W0.heap.size 9 1 (.slice (some ⟨g2, 0, none⟩) (gs.length + 1) cap2) (gs.length + 1) (gs.map Value.string ++ [.string s])) (hg : (W.alloc o).grownBy W2 vg.ownBlock) (hb : vg.ownBlock = some g2 ∨ g2 = (W.alloc o).heap.size) :
    W2.heap[pb]? = some (.cells #[vf, vg] 25 (0, 0)) ∧ DcSt w W0 rb pb b vf (.slice (some ⟨g2, 0, none⟩) (gs.length + 1) cap2) xs (gs ++ [s]) r (W2.setCell ⟨pb, 1, none⟩ (.slice (some ⟨g2, 0, none⟩) (gs.length + 1) cap2)) := by
  have hvg : ∀ k, vg.ownBlock = some k → W0.heap.size ≤ k := fun k hk => (h.own2.lt k hk).1
  have hpb := h.box.lt
  have hs := h.rd.foot.size
  have hbox : W2.heap[pb]? = some (.cells #[vf, vg] 25 (0, 0)) := (grown_keep hg hpb fun e => (h.n2 _ e).1 rfl).trans h.box.1
  have hg2 : g2 ≠ pb ∧ vf.ownBlock ≠ some g2 ∧ ∀ x ∈ xs, ¬ FnBlk x g2 := by
    rcases hb with e | e
    · exact ⟨(h.n2 g2 e).1, fun e2 => (h.n1 g2 e2).2.1 e, (h.n2 g2 e).2⟩
    · rw [World.size_alloc] at e
      refine ⟨by omega, fun e2 => ?_, fun x hx e2 => ?_⟩
      · have := (h.own1.lt _ e2).2; omega
      · have := ((h.fns x hx).lt e2).2; omega
  have hset : ∀ k, k ≠ pb → (W2.setCell ⟨pb, 1, none⟩ (.slice (some ⟨g2, 0, none⟩) (gs.length + 1) cap2)).heap[k]? = W2.heap[k]? := fun k hk => Below.heap_setCell W2 _ _ _ hk
  have hwl := (Array.getElem?_eq_some_iff.1 h.res).1
  have hpl := h.box.2
  have h4 := h.n4
  refine ⟨hbox, (h.rd.grown hg hvg).set h.box.2 1 _, ⟨heap_setCell_same _ _ 1 _ _ _ hbox, h.box.2⟩, (hset _ (by omega)).trans ((grown_keep hg hwl fun e => by have := hvg _ e; omega).trans h.res), ?_, ?_, fun x hx => (h.fns x hx).keep fun g hgx => ?_, fun g hgo => ?_, fun g hgo => ?_, h.n3, h.n4, h.n5⟩
  · refine own_keep h.own1 fun g hgo => (hset g (h.n1 g hgo).1).trans (grown_keep hg (h.own1.lt g hgo).2 fun e => (h.n1 g hgo).2.1 e)
  · rw [List.length_append, List.map_append]
    refine own_keep ho fun g hgo => ?_
    simp only [Value.ownBlock, Option.some.injEq] at hgo
    subst hgo
    exact hset _ hg2.1
  · exact (hset g (h.n3 x hx g hgx)).trans (grown_keep hg ((h.fns x hx).lt hgx).2 fun e => (h.n2 g e).2 x hx hgx)
  · refine ⟨(h.n1 g hgo).1, fun e => ?_, (h.n1 g hgo).2.2⟩
    simp only [Value.ownBlock, Option.some.injEq] at e
    subst e
    exact hg2.2.1 hgo
  · simp only [Value.ownBlock, Option.some.injEq] at hgo
    subst hgo
    exact ⟨hg2.1, hg2.2.2⟩
/-- A function more: its rows lie behind all that stood when it began. -/
theorem DcSt.push1 {W1 : World} (h : DcSt w W0 rb pb b vf vg xs gs r W) {x : Cf × Fv} (hx : FnOwn W W1.heap.size x) (hp : pb < W1.heap.size) (hl : W0.heap.size ≤ W1.heap.size) (hv1 : ∀ g, vf.ownBlock = some g → g < W1.heap.size) (hv2 : ∀ g, vg.ownBlock = some g → g < W1.heap.size)
    (ho : W2.ownsRow W0.heap.size 43 6 (.slice (some ⟨g2, 0, none⟩) (xs.length + 1) cap2) (xs.length + 1) (xs.flatMap fnCells ++ fnCells x)) (hg : (W.alloc o).grownBy W2 vf.ownBlock) (hb : vf.ownBlock = some g2 ∨ g2 = (W.alloc o).heap.size) :
    W2.heap[pb]? = some (.cells #[vf, vg] 25 (0, 0)) ∧ DcSt w W0 rb pb b (.slice (some ⟨g2, 0, none⟩) (xs.length + 1) cap2) vg (xs ++ [x]) gs r (W2.setCell ⟨pb, 0, none⟩ (.slice (some ⟨g2, 0, none⟩) (xs.length + 1) cap2)) := by
  have hvf : ∀ k, vf.ownBlock = some k → W0.heap.size ≤ k := fun k hk => (h.own1.lt k hk).1
  have hpb := h.box.lt
  have hs := h.rd.foot.size
  have hbox : W2.heap[pb]? = some (.cells #[vf, vg] 25 (0, 0)) := (grown_keep hg hpb fun e => (h.n1 _ e).1 rfl).trans h.box.1
  have hall : ∀ y ∈ xs ++ [x], FnOwn W W0.heap.size y := fun y hy => by
    rcases List.mem_append.1 hy with hy | hy
    · exact h.fns y hy
    · rw [List.mem_singleton.1 hy]
      exact ⟨Go.Joins.ownsRow_le hx.1 hl, Go.Joins.ownsRow_le hx.2 hl⟩
  have hn1 : ∀ g, vf.ownBlock = some g → ∀ y ∈ xs ++ [x], ¬ FnBlk y g := fun g hgo y hy hyb => by
    rcases List.mem_append.1 hy with hy | hy
    · exact (h.n1 g hgo).2.2 y hy hyb
    · rw [List.mem_singleton.1 hy] at hyb
      have := (hx.lt hyb).1
      have := hv1 g hgo
      omega
  have hn3 : ∀ y ∈ xs ++ [x], ∀ g, FnBlk y g → g ≠ pb := fun y hy g hyb => by
    rcases List.mem_append.1 hy with hy | hy
    · exact h.n3 y hy g hyb
    · rw [List.mem_singleton.1 hy] at hyb
      have := (hx.lt hyb).1
      omega
  have hg2 : g2 ≠ pb ∧ vg.ownBlock ≠ some g2 ∧ ∀ y ∈ xs ++ [x], ¬ FnBlk y g2 := by
    rcases hb with e | e
    · exact ⟨(h.n1 g2 e).1, (h.n1 g2 e).2.1, hn1 g2 e⟩
    · rw [World.size_alloc] at e
      refine ⟨by omega, fun e2 => ?_, fun y hy e2 => ?_⟩
      · have := (h.own2.lt _ e2).2; omega
      · have := ((hall y hy).lt e2).2; omega
  have hset : ∀ k, k ≠ pb → (W2.setCell ⟨pb, 0, none⟩ (.slice (some ⟨g2, 0, none⟩) (xs.length + 1) cap2)).heap[k]? = W2.heap[k]? := fun k hk => Below.heap_setCell W2 _ _ _ hk
  have hwl := (Array.getElem?_eq_some_iff.1 h.res).1
  have hpl := h.box.2
  have h4 := h.n4
  refine ⟨hbox, (h.rd.grown hg hvf).set h.box.2 0 _, ⟨heap_setCell_same _ _ 0 _ _ _ hbox, h.box.2⟩, (hset _ (by omega)).trans ((grown_keep hg hwl fun e => by have := hvf _ e; omega).trans h.res), ?_, ?_, fun y hy => (hall y hy).keep fun g hgx => ?_, fun g hgo => ?_, fun g hgo => ⟨(h.n2 g hgo).1, fun y hy hyb => ?_⟩, hn3, h.n4, h.n5⟩
  · rw [List.length_append, List.flatMap_append]
    simp only [List.flatMap_cons, List.flatMap_nil, List.append_nil]
    refine own_keep ho fun g hgo => ?_
    simp only [Value.ownBlock, Option.some.injEq] at hgo
    subst hgo
    exact hset _ hg2.1
  · refine own_keep h.own2 fun g hgo => (hset g (h.n2 g hgo).1).trans (grown_keep hg (h.own2.lt g hgo).2 fun e => (h.n1 g e).2.1 hgo)
  · exact (hset g (hn3 y hy g hgx)).trans (grown_keep hg ((hall y hy).lt hgx).2 fun e => hn1 g e y hy hgx)
  · simp only [Value.ownBlock, Option.some.injEq] at hgo
    subst hgo
    exact hg2
  · rcases List.mem_append.1 hy with hy | hy
    · exact (h.n2 g hgo).2 y hy hyb
    · rw [List.mem_singleton.1 hy] at hyb
      have := (hx.lt hyb).1
      have := hv2 g hgo
      omega
/-- The program that was read lies in memory. -/
theorem DcSt.lies {p : Cp} (h1 : W'.ownsRow W0.heap.size 43 6 vf xs.length (xs.flatMap fnCells)) (h2 : W'.ownsRow W0.heap.size 9 1 vg gs.length (gs.map Value.string)) (h3 : ∀ x ∈ xs, FnOwn W' W0.heap.size x) (hp : p = ⟨xs.map Prod.fst, gs⟩) :
    ∃ n m fa fc ga gc, vf = .slice fa n fc ∧ vg = .slice ga m gc ∧ n ≤ fc ∧ m ≤ gc ∧ PgAt W' p n m fa ga xs := by
  subst hp
  obtain ⟨fa, fc, rfl, _, _⟩ := row_form h1
  obtain ⟨ga, gc, rfl, _, _⟩ := row_form h2
  exact ⟨_, _, fa, fc, ga, gc, rfl, rfl, (own_rowA h1).2, (own_rowA h2).2, by simp, rfl, rfl, (own_rowA h1).1, (own_rowA h2).1, fun x hx => (h3 x hx).lies⟩
end
end Go.Proofs.YtdjbkppdppdcgaaGreatDoor
