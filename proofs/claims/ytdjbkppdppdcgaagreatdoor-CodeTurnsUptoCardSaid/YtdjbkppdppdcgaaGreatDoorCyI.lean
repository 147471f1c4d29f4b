/- (*Program).line of an instruction's line without a text. -/
import Derived.OneCell
import Derived.Test.YtdjbkppdppdcgaaGreatDoorCyH
namespace Go.Proofs.YtdjbkppdppdcgaaGreatDoor
open Go.RowKit

/-- The function that is read, its code so far. -/
def rdF (xs : List Ci) : Cf := ⟨⟨#[]⟩, 0, 1, [], -1, xs⟩
/-- Reading: the program that is made lies at block pb, its one function at block g, the function's code in a row of its own. -/
structure RdS (lo : Nat) (W0 W : World) (pb g cap : Nat) (ga : Option Addr) (gc : Nat) (fv : Fv) (xs : List Ci) : Prop where
  low : Below lo W0 W
  box : W.heap[pb]? = some (.cells #[.slice (some ⟨g, 0, none⟩) 1 cap, .slice ga 0 gc] 25 (0, 0))
  fns : W.ownsRow lo 43 6 (.slice (some ⟨g, 0, none⟩) 1 cap) 1 (fnCells (rdF xs, fv))
  ins : W.ownsRow lo 46 5 (.slice fv.ca xs.length fv.cc) xs.length (xs.flatMap insCells)
  ne1 : g ≠ pb
  ne2 : Value.ownBlock (.slice fv.ca xs.length fv.cc) ≠ some pb
  ne3 : Value.ownBlock (.slice fv.ca xs.length fv.cc) ≠ some g
  lp : lo ≤ pb
section
variable {lo : Nat} {W0 W W' W2 : World} {pb g cap gc : Nat} {ga : Option Addr} {fv : Fv} {xs : List Ci} {o : Obj}
theorem RdS.lo_le (h : RdS lo W0 W pb g cap ga gc fv xs) : lo ≤ W.heap.size := by
  have := (Array.getElem?_eq_some_iff.1 h.box).1
  have := h.lp
  omega
theorem RdS.plt (h : RdS lo W0 W pb g cap ga gc fv xs) : pb < W.heap.size := (Array.getElem?_eq_some_iff.1 h.box).1
theorem RdS.glt (h : RdS lo W0 W pb g cap ga gc fv xs) : lo ≤ g ∧ g < W.heap.size := h.fns.lt g rfl
theorem RdS.under (h : RdS lo W0 W pb g cap ga gc fv xs) (hb : Below W.heap.size W W') : RdS lo W0 W' pb g cap ga gc fv xs :=
  ⟨h.low.trans (hb.mono h.lo_le), (hb.block pb h.plt).trans h.box, own_up h.fns hb, own_up h.ins hb, h.ne1, h.ne2, h.ne3, h.lp⟩
theorem RdS.alloc (h : RdS lo W0 W pb g cap ga gc fv xs) (p : Obj) : RdS lo W0 (W.alloc p) pb g cap ga gc fv xs := h.under ((Below.refl _ _).alloc (Nat.le_refl _) _)
theorem RdS.c (h : RdS lo W0 W pb g cap ga gc fv xs) : W.cell? ⟨pb, 0, none⟩ = some (.slice (some ⟨g, 0, none⟩) 1 cap) := by
  have := cell_of_row W pb 0 _ _ _ h.box
  simpa using this
theorem RdS.c5 (h : RdS lo W0 W pb g cap ga gc fv xs) : W.cell? ⟨g, 5, none⟩ = some (.slice fv.ca xs.length fv.cc) ∧ W.frozen? ⟨g, 5, none⟩ = false :=
  ⟨(h.fns.cellAt 5 (by decide)).trans rfl, h.fns.frozenAt 5⟩
theorem RdS.push {x : Ci} {g2 cap2 : Nat} (h : RdS lo W0 W pb g cap ga gc fv xs) (ho : W2.ownsRow lo 46 5 (.slice (some ⟨g2, 0, none⟩) (xs.length + 1) cap2) (xs.length + 1) (xs.flatMap insCells ++ insCells x))
    (hg : (W.alloc o).grownBy W2 (Value.ownBlock (.slice fv.ca xs.length fv.cc))) (hb : Value.ownBlock (.slice fv.ca xs.length fv.cc) = some g2 ∨ g2 = (W.alloc o).heap.size) :
    (W2.cell? ⟨g, 5, none⟩ = some (.slice fv.ca xs.length fv.cc) ∧ W2.frozen? ⟨g, 5, none⟩ = false) ∧ RdS lo W0 (W2.setCell ⟨g, 5, none⟩ (.slice (some ⟨g2, 0, none⟩) (xs.length + 1) cap2)) pb g cap ga gc ⟨fv.ta, fv.tc, some ⟨g2, 0, none⟩, cap2⟩ (xs ++ [x]) := by
  have hgl := h.glt
  have hpl := h.plt
  have hll := h.lo_le
  have hsz : (W.alloc o).heap.size = W.heap.size + 1 := World.size_alloc _ _
  have hg2 : g2 ≠ pb ∧ g2 ≠ g := by
    rcases hb with h2 | h2
    · exact ⟨fun e => h.ne2 (by rw [h2, e]), fun e => h.ne3 (by rw [h2, e])⟩
    · omega
  have hf2 : W2.ownsRow lo 43 6 (.slice (some ⟨g, 0, none⟩) 1 cap) 1 (fnCells (rdF xs, fv)) := (h.fns.alloc o).kept hg (.inr (fun e => h.ne3 e.symm))
  have hbx : W2.heap[pb]? = some (.cells #[.slice (some ⟨g, 0, none⟩) 1 cap, .slice ga 0 gc] 25 (0, 0)) := (hg.block pb (by omega) (fun e => h.ne2 e.symm)).trans ((heap_alloc_old _ _ hpl).trans h.box)
  refine ⟨⟨(hf2.cellAt 5 (by decide)).trans rfl, hf2.frozenAt 5⟩, ?_, (Below.heap_setCell _ _ _ _ (fun e => h.ne1 e.symm)).trans hbx, ?_, ?_, h.ne1, fun e => hg2.1 (by simpa [Value.ownBlock] using e), fun e => hg2.2 (by simpa [Value.ownBlock] using e), h.lp⟩
  · have hb2 : Below lo W0 W2 := (h.low.alloc hll o).trans ⟨hg.os, hg.tape, hg.output, hg.size, fun k hk => hg.block k (by omega) (fun e => by have := (h.ins.lt k e.symm).1; omega)⟩
    exact hb2.setCell hgl.1 _
  · have := (hf2.stored 5 (.slice (some ⟨g2, 0, none⟩) (xs.length + 1) cap2)).1
    have e : (fnCells (rdF xs, fv)).set 5 (.slice (some ⟨g2, 0, none⟩) (xs.length + 1) cap2) = fnCells (rdF (xs ++ [x]), ⟨fv.ta, fv.tc, some ⟨g2, 0, none⟩, cap2⟩) := by
      simp [fnCells, rdF]
    rw [e] at this
    exact this
  · have e1 : (xs ++ [x]).length = xs.length + 1 := by simp
    have e2 : (xs ++ [x]).flatMap insCells = xs.flatMap insCells ++ insCells x := by simp
    rw [e1, e2]
    exact ownsRow_setCell_other ho (fun e => hg2.2 (by simpa [Value.ownBlock] using e)) _
end
theorem tail_of (c : UInt8) (r : List UInt8) : (⟨⟨c :: r⟩⟩ : ByteArray).extract 1 (r.length + 1) = ⟨⟨r⟩⟩ := by
  have : (⟨⟨c :: r⟩⟩ : ByteArray).extract 1 (r.length + 1) = ⟨(⟨c :: r⟩ : Array UInt8).extract 1 (r.length + 1)⟩ := by
    simp [ByteArray.extract, ByteArray.copySlice]
  rw [this]
  congr 1
  simp

set_option maxRecDepth 100000 in
set_option maxHeartbeats 8000000 in
theorem pline_inst {lo : Nat} {W0 W : World} {pb g cap gc : Nat} {ga : Option Addr} {fv : Fv} {xs : List Ci} (hS : RdS lo W0 W pb g cap ga gc fv xs) (hG : Gc W) {i : Nat} (hi0 : 1 ≤ i) (hi1 : i ≤ 1000000) {r a b c d : List UInt8} {x y z : Int} (hs : splitM 32 4 r = [a, b, c, d]) (h4 : 4 ≤ r.length) (h9 : r.length ≤ 1000000)
    (hi : intsL [b, c, d] = some [x, y, z]) (hab : b.length ≤ 1000000 ∧ c.length ≤ 1000000 ∧ d.length ≤ 1000000) (ho : operationL a ≠ 0) (hxl : xs.length ≤ 1000000) :
    Calls Tryz.prog 46 #[.pointer (some ⟨pb, 0, none⟩), .int .i64 i, .string ⟨⟨9 :: r⟩⟩] W fun e W' => e = .returned (.bool true) ∧ ∃ fv', RdS lo W0 W' pb g cap ga gc fv' (xs ++ [⟨(operationL a : Nat), x, y, ⟨#[]⟩, z⟩]) := by
  obtain ⟨O, hO⟩ : ∃ O, operationL a = O := ⟨_, rfl⟩
  have hins : ∀ V, Gc V → Calls Tryz.prog 71 #[.string ⟨⟨r⟩⟩] V fun e V' => e = .returned (.tuple #[.agg #[.int .i64 (O : Nat), .int .i64 x, .int .i64 y, .string ⟨#[]⟩, .int .i64 z], .bool true]) ∧ Below V.heap.size V V' := fun V hV => by
    have := inst_plain hV hs h4 h9 hi hab ho
    rw [hO] at this
    exact this
  have HIN := Lib.hid hins
  have HSP : Hid (∀ V, Gc V → Calls Tryz.prog 69 #[.string ⟨⟨9 :: r⟩⟩, .string ⟨#[32]⟩] V fun e V' => ∃ n, e = .returned (.slice (some ⟨V.heap.size, 0, none⟩) n n) ∧ Below V.heap.size V V') := Lib.hid fun V hV => by
    obtain ⟨m, hm⟩ := hV.max
    refine (Tryz.strings_Split ⟨⟨9 :: r⟩⟩ ⟨#[32]⟩ m V (by show (9 :: r).length < _; simp; omega) hm (by decide)).mono ?_
    rintro e V' ⟨rfl, rfl⟩
    exact ⟨_, rfl, (Below.refl _ _).alloc (Nat.le_refl _) _⟩
  have hpre : Lib.hasPrefix (⟨⟨9 :: r⟩⟩ : ByteArray).data.toList (⟨#[9]⟩ : ByteArray).data.toList = true := by simp [Lib.hasPrefix]
  have HPR := Lib.hid hpre
  have HS := Lib.hid hS
  have HG := Lib.hid hG
  have hi2 : ((i : Int) == 0) = false := by simp; omega
  rw [hO]
  have hrl : (r.length : Int) + 1 ≤ 1000001 := by omega
  clear hS hG hins hpre hs hi hab ho hO
  go_enter Tryz.func46, Tryz.ntmps46
  go_upto_region 12 with (first
    | (go_at_call 69; refine (HSP.out _ HG.out).mono ?_; rintro e w1 ⟨n1, rfl, hb1⟩; have HS1 := Lib.hid (HS.out.under hb1); have HG1 := Lib.hid (HG.out.up hb1); clear hb1)
    | (go_at_call 70; refine (Tryz.strings_HasPrefix _ _ _).mono ?_; rintro e w2 ⟨rfl, rfl⟩; rw [HPR.out]))
  go_upto_region 13 with (go_at_call 71; try rw [tail_of]; refine (HIN.out _ HG1.out).mono ?_; rintro e w3 ⟨rfl, hb3⟩; have HS3 := Lib.hid (HS1.out.under hb3); clear hb3)
  have HS4 := Lib.hid (HS3.out.alloc (.cells #[.int .i64 O, .int .i64 x, .int .i64 y, .string ⟨#[]⟩, .int .i64 z] 46 (0, 0)))
  have hx4 := heap_alloc_new w3 (.cells #[.int .i64 O, .int .i64 x, .int .i64 y, .string ⟨#[]⟩, .int .i64 z] 46 (0, 0))
  have hgx := HS3.out.glt.2
  have hpx := HS3.out.plt
  have hax : Value.ownBlock (.slice fv.ca xs.length fv.cc) ≠ some w3.heap.size := fun e => by have := (HS3.out.ins.lt _ e).2; omega
  obtain ⟨xb, hxb⟩ : ∃ xb, w3.heap.size = xb := ⟨_, rfl⟩
  obtain ⟨W4, hW4⟩ : ∃ W4, w3.alloc (.cells #[.int .i64 O, .int .i64 x, .int .i64 y, .string ⟨#[]⟩, .int .i64 z] 46 (0, 0)) = W4 := ⟨_, rfl⟩
  simp only [hW4, hxb] at HS4 hx4 hgx hpx hax ⊢
  have HX := Lib.hid hx4
  have p0 : ∀ k, (W4.drewN k).cell? ⟨pb, 0, none⟩ = some (.slice (some ⟨g, 0, none⟩) 1 cap) := fun _ => HS4.out.c
  have p1 := HS4.out.c
  clear hW4 hxb HS1 HS3 HG1 HIN HSP HPR HS HG hx4
  go_upto_region 15 with fail
  go_quiet (fail)
  have HS5 := Lib.hid (HS4.out.under (drew_below W4 nq))
  have HX5 := Lib.hid (show (W4.drewN nq).heap[xb]? = some (.cells #[.int .i64 O, .int .i64 x, .int .i64 y, .string ⟨#[]⟩, .int .i64 z] 46 (0, 0)) from HX.out)
  obtain ⟨W5, hW5⟩ : ∃ W5, W4.drewN nq = W5 := ⟨_, rfl⟩
  simp only [hW5] at HS5 HX5 ⊢
  clear hW5 p0 p1 HS4 HX
  go_upto_region 16 with fail
  obtain ⟨i0, hi, hz0, hz1, hz2⟩ := info_parts instInfo
  have HS6 : Hid (RdS lo W0 W5.drew pb g cap ga gc fv xs) := Lib.hid (HS5.out.under ⟨rfl, rfl, rfl, Nat.le_refl _, fun _ _ => rfl⟩)
  have HX6 := Lib.hid (show W5.drew.heap[xb]? = some (.cells #[.int .i64 O, .int .i64 x, .int .i64 y, .string ⟨#[]⟩, .int .i64 z] 46 (0, 0)) from HX5.out)
  clear HS5 HX5
  obtain ⟨y5, g5⟩ := HS6.out.c5
  have x0 := cell_of_row _ xb 0 _ _ _ HX6.out
  have x1 := cell_of_row _ xb 1 _ _ _ HX6.out
  have x2 := cell_of_row _ xb 2 _ _ _ HX6.out
  have x3 := cell_of_row _ xb 3 _ _ _ HX6.out
  have x4 := cell_of_row _ xb 4 _ _ _ HX6.out
  simp only [List.getElem?_toArray, List.getElem?_cons_zero, List.getElem?_cons_succ] at x0 x1 x2 x3 x4
  have hxlt := (Array.getElem?_eq_some_iff.1 HX6.out).1
  have hglt := HS6.out.glt.2
  obtain ⟨n, hn⟩ : ∃ n, xs.length = n := ⟨_, rfl⟩
  have HN := Lib.hid hn
  rw [hn] at y5 hax hxl
  clear hn
  refine wp_region_G [10] (fun u => u.cell? ⟨g, 5, none⟩ = some (.slice fv.ca n fv.cc) ∧ u.frozen? ⟨g, 5, none⟩ = false ∧ u.cell? ⟨xb, 0, none⟩ = some (.int .i64 O) ∧ u.cell? ⟨xb, 1, none⟩ = some (.int .i64 x) ∧ u.cell? ⟨xb, 2, none⟩ = some (.int .i64 y) ∧ u.cell? ⟨xb, 3, none⟩ = some (.string ⟨#[]⟩) ∧ u.cell? ⟨xb, 4, none⟩ = some (.int .i64 z)) (by rfl) ?_ (fun hHeld => ?_)
  · exact ⟨y5, g5, x0, x1, x2, x3, x4⟩
  generalize hwd : World.drew W5 = wd at HS6 HX6 y5 g5 x0 x1 x2 x3 x4 hxlt hglt hHeld ⊢
  refine wpAnyG_take (i := 0) (v := ?_) rfl (by kernel_rfl) (by kernel_rfl) (by kernel_rfl) (by kernel_rfl) (by kernel_rfl) (fun _ _ _ h => h) (Or.inl ⟨by rfl, ?_⟩) (by assumption) ?_
  rotate_left
  · (intro w hSw; (try dsimp only at hSw); go_simp; try with_reducible rfl)
  try simp only [Act.put, List.getElem_toArray, List.getElem_cons_zero, List.setIfInBounds_toArray, List.set_cons_zero, List.set_cons_succ]
  refine wpAnyG_take (i := 1) (v := ?_) rfl (by kernel_rfl) (by kernel_rfl) (by kernel_rfl) (by kernel_rfl) (by kernel_rfl) (fun _ _ _ h => h) (Or.inl ⟨by rfl, ?_⟩) (by assumption) ?_
  rotate_left
  · (intro w hSw; (try dsimp only at hSw); go_simp; try with_reducible rfl)
  try simp only [Act.put, List.getElem_toArray, List.getElem_cons_zero, List.getElem_cons_succ, List.setIfInBounds_toArray, List.set_cons_zero, List.set_cons_succ]
  refine wpAnyG_take (i := 2) (v := ?_) rfl (by kernel_rfl) (by kernel_rfl) (by kernel_rfl) (by kernel_rfl) (by kernel_rfl) (fun _ _ _ h => h) (Or.inl ⟨by rfl, ?_⟩) (by assumption) ?_
  rotate_left
  · (intro w hSw; (try dsimp only at hSw); go_simp; try with_reducible rfl)
  try simp only [Act.put, List.getElem_toArray, List.getElem_cons_zero, List.getElem_cons_succ, List.setIfInBounds_toArray, List.set_cons_zero, List.set_cons_succ]
  refine wpAnyG_take (i := 3) (v := ?_) rfl (by kernel_rfl) (by kernel_rfl) (by kernel_rfl) (by kernel_rfl) (by kernel_rfl) (fun _ _ _ h => h) (Or.inl ⟨by rfl, ?_⟩) (by assumption) ?_
  rotate_left
  · (intro w hSw; (try dsimp only at hSw); go_simp; try with_reducible rfl)
  try simp only [Act.put, List.getElem_toArray, List.getElem_cons_zero, List.getElem_cons_succ, List.setIfInBounds_toArray, List.set_cons_zero, List.set_cons_succ]
  refine wpAnyG_take (i := 4) (v := ?_) rfl (by kernel_rfl) (by kernel_rfl) (by kernel_rfl) (by kernel_rfl) (by kernel_rfl) (fun _ _ _ h => h) (Or.inl ⟨by rfl, ?_⟩) (by assumption) ?_
  rotate_left
  · (intro w hSw; (try dsimp only at hSw); go_simp; try with_reducible rfl)
  try simp only [Act.put, List.getElem_toArray, List.getElem_cons_zero, List.getElem_cons_succ, List.setIfInBounds_toArray, List.set_cons_zero, List.set_cons_succ]
  refine wpAnyG_take (i := 5) (v := ?_) rfl (by kernel_rfl) (by kernel_rfl) (by kernel_rfl) (by kernel_rfl) (by kernel_rfl) (fun _ _ _ h => h) (Or.inl ⟨by rfl, ?_⟩) (by assumption) ?_
  rotate_left
  · (intro w hSw; (try dsimp only at hSw); go_simp; try with_reducible rfl)
  try simp only [Act.put, List.getElem_toArray, List.getElem_cons_zero, List.getElem_cons_succ, List.setIfInBounds_toArray, List.set_cons_zero, List.set_cons_succ]
  refine wpAnyG_ready (rs := [6]) (by kernel_rfl) (by simp) ?_
  refine AllReadyG.cons rfl (fun KK hKK => ?_) AllReadyG.nil
  go_simp
  refine hKK.out _ _ (⟨(World.cell?_of_block (a := ⟨g, 5, none⟩) (heap_alloc_old _ _ hglt)).trans y5, (frozen_keep (heap_alloc_old _ _ hglt) 5).trans g5, (World.cell?_of_block (a := ⟨xb, 0, none⟩) (heap_alloc_old _ _ hxlt)).trans x0, (World.cell?_of_block (a := ⟨xb, 1, none⟩) (heap_alloc_old _ _ hxlt)).trans x1, (World.cell?_of_block (a := ⟨xb, 2, none⟩) (heap_alloc_old _ _ hxlt)).trans x2, (World.cell?_of_block (a := ⟨xb, 3, none⟩) (heap_alloc_old _ _ hxlt)).trans x3, (World.cell?_of_block (a := ⟨xb, 4, none⟩) (heap_alloc_old _ _ hxlt)).trans x4⟩) (fun hHeld => ?_)
  clear hKK KK
  try simp only [Act.put, List.getElem_toArray, List.getElem_cons_zero, List.getElem_cons_succ, List.setIfInBounds_toArray, List.set_cons_zero, List.set_cons_succ]
  refine wpAnyG_ready (rs := [7]) (by kernel_rfl) (by simp) ?_
  refine AllReadyG.cons rfl (fun KK hKK => ?_) AllReadyG.nil
  refine step_append_lies _ rfl (.tmp 73) (.tmp 75) 41 rfl lo 46 i0 _ 5 48 Tryz.underlying41 hi hz0 hz1 hz2 rfl (by decide) (.slice fv.ca n fv.cc) n (xs.flatMap insCells) rfl (by have h := HS6.out.ins.alloc (.cells (insCells ⟨(O : Int), x, y, ⟨#[]⟩, z⟩).toArray 46 (0, 0)); rw [HN.out] at h; exact h) ⟨_, 0, none⟩ 1 1 (insCells ⟨(O : Int), x, y, ⟨#[]⟩, z⟩) rfl rfl (fun k u hu => news_at _ _ _ _ k u hu) (by intro u hu; simp [insCells] at hu; rcases hu with rfl | rfl | rfl | rfl | rfl <;> rfl) (by decide) (by unfold maxLen; omega) (by omega) (by have := HS6.out.lo_le; rw [World.size_alloc]; omega) _ rfl ?_
  intro g2 cap2 w2 ho2 hg2 hb2 hl2
  have ho2x := ho2
  rw [← HN.out] at ho2x hg2 hb2
  obtain ⟨⟨y5, g5⟩, hs3⟩ := HS6.out.push ho2x hg2 hb2
  rw [HN.out] at y5 hs3 hg2
  have x0 := (World.cell?_of_block (a := ⟨xb, 0, none⟩) (grown_keep hg2 hxlt hax)).trans x0
  have x1 := (World.cell?_of_block (a := ⟨xb, 1, none⟩) (grown_keep hg2 hxlt hax)).trans x1
  have x2 := (World.cell?_of_block (a := ⟨xb, 2, none⟩) (grown_keep hg2 hxlt hax)).trans x2
  have x3 := (World.cell?_of_block (a := ⟨xb, 3, none⟩) (grown_keep hg2 hxlt hax)).trans x3
  have x4 := (World.cell?_of_block (a := ⟨xb, 4, none⟩) (grown_keep hg2 hxlt hax)).trans x4
  have HS7 := Lib.hid hs3
  clear hs3 ho2 ho2x hg2 hb2
  refine hKK.out _ _ (⟨y5, g5, x0, x1, x2, x3, x4⟩) (fun hHeld => ?_)
  clear hKK KK
  try simp only [Act.put, List.getElem_toArray, List.getElem_cons_zero, List.getElem_cons_succ, List.setIfInBounds_toArray, List.set_cons_zero, List.set_cons_succ]
  refine wpAnyG_ready (rs := [8]) (by kernel_rfl) (by simp) ?_
  refine AllReadyG.cons rfl (fun KK hKK => ?_) AllReadyG.nil
  go_simp
  refine hKK.out _ _ (⟨y5, g5, x0, x1, x2, x3, x4⟩) (fun hHeld => ?_)
  clear hKK KK
  try simp only [Act.put, List.getElem_toArray, List.getElem_cons_zero, List.getElem_cons_succ, List.setIfInBounds_toArray, List.set_cons_zero, List.set_cons_succ]
  refine wpAnyG_take (i := 9) (v := ?_) rfl (by kernel_rfl) (by kernel_rfl) (by kernel_rfl) (by kernel_rfl) (by kernel_rfl) (fun _ _ _ h => h) (Or.inl ⟨by rfl, ?_⟩) (by assumption) ?_
  rotate_left
  · (intro w hSw; (try dsimp only at hSw); go_simp; try with_reducible rfl)
  try simp only [Act.put, List.getElem_toArray, List.getElem_cons_zero, List.getElem_cons_succ, List.setIfInBounds_toArray, List.set_cons_zero, List.set_cons_succ]
  refine wpAnyG_ready (rs := [10]) (by kernel_rfl) (by simp) ?_
  refine AllReadyG.last rfl (by decide) (by decide) (fun KK hKK => ?_) AllReadyG.nil
  go_simp
  refine hKK.out _ _ ?_
  clear hKK KK
  try simp only [Act.put, List.getElem_toArray, List.getElem_cons_zero, List.getElem_cons_succ, List.setIfInBounds_toArray, List.set_cons_zero, List.set_cons_succ]
  refine wpAny_done (by kernel_rfl) ?_ _
  go_wp2_with fail
  go_ret
  exact ⟨rfl, _, HS7.out⟩
end Go.Proofs.YtdjbkppdppdcgaaGreatDoor
