/- (*Program).line of the first line, and of a function's line. (*Program).line of a function's line. code.Read of the least program's lines. -/
import Derived.Test.YtdjbkppdppdcgaaGreatDoorCyI
namespace Go.Proofs.YtdjbkppdppdcgaaGreatDoor
open Go.RowKit

def cellsS (l : List (List UInt8)) : List Value := l.map fun s => Value.string ⟨⟨s⟩⟩
def SplitTo (S : ByteArray) (l : List (List UInt8)) (n : Nat) : Prop := ∀ V, Gc V → Calls Tryz.prog 69 #[.string S, .string ⟨#[32]⟩] V fun e V' => e = .returned (.slice (some ⟨V.heap.size, 0, none⟩) n n) ∧ V' = V.alloc (.cells (cellsS l).toArray 9)
theorem split_to (S : ByteArray) (l : List (List UInt8)) (n : Nat) (hn : Lib.countB S ⟨#[32]⟩ + 1 = n) (hl : Lib.splitB ⟨#[32]⟩ 0 (Lib.countB S ⟨#[32]⟩) S = l.map fun s => ⟨⟨s⟩⟩) (hs : S.size ≤ 1000000) : SplitTo S l n := fun V hV => by
  obtain ⟨m, hm⟩ := hV.max
  refine (Tryz.strings_Split S ⟨#[32]⟩ m V (by omega) hm (by decide)).mono ?_
  rintro e V' ⟨rfl, rfl⟩
  rw [hn, hl]
  exact ⟨rfl, by simp [cellsS, Function.comp_def]⟩

set_option maxRecDepth 100000 in
set_option maxHeartbeats 8000000 in
theorem pline_globals {lo : Nat} {W0 W : World} {pb : Nat} (hl : Below lo W0 W) (hlp : lo ≤ pb) (hb : W.heap[pb]? = some (.cells #[.slice none 0 0, .slice none 0 0] 25 (0, 0))) (hG : Gc W) {S : ByteArray} (hS : SplitTo S [[103, 108, 111, 98, 97, 108, 115]] 1) :
    Calls Tryz.prog 46 #[.pointer (some ⟨pb, 0, none⟩), .int .i64 0, .string S] W fun e W' => e = .returned (.bool true) ∧ Below lo W0 W' ∧ ∃ ga gc, W'.heap[pb]? = some (.cells #[.slice none 0 0, .slice ga 0 gc] 25 (0, 0)) := by
  have HSP : Hid (∀ V, Gc V → Calls Tryz.prog 69 #[.string S, .string ⟨#[32]⟩] V fun e V' => e = .returned (.slice (some ⟨V.heap.size, 0, none⟩) 1 1) ∧ V' = V.alloc (.cells #[.string ⟨#[103, 108, 111, 98, 97, 108, 115]⟩] 9)) := Lib.hid hS
  have hpl := (Array.getElem?_eq_some_iff.1 hb).1
  have HG := Lib.hid hG
  have HL := Lib.hid (hl.alloc (by omega) (.cells #[.string ⟨#[103, 108, 111, 98, 97, 108, 115]⟩] 9 (0, 0)))
  have hb1 := (heap_alloc_old W (.cells #[.string ⟨#[103, 108, 111, 98, 97, 108, 115]⟩] 9 (0, 0)) hpl).trans hb
  have hs1 := heap_alloc_new W (.cells #[.string ⟨#[103, 108, 111, 98, 97, 108, 115]⟩] 9 (0, 0))
  clear hS hG hl hb
  go_enter Tryz.func46, Tryz.ntmps46
  go_upto_region 2 with (go_at_call 69; refine (HSP.out _ HG.out).mono ?_; rintro e w1 ⟨rfl, rfl⟩)
  obtain ⟨sb, hsb⟩ : ∃ sb, W.heap.size = sb := ⟨_, rfl⟩
  obtain ⟨W1, hW1⟩ : ∃ W1, W.alloc (.cells #[.string ⟨#[103, 108, 111, 98, 97, 108, 115]⟩] 9 (0, 0)) = W1 := ⟨_, rfl⟩
  simp only [hsb, hW1] at HL hb1 hs1 hpl ⊢
  have q0 := cell_of_row W1 sb 0 _ _ _ hs1
  have p0 := cell_of_row W1 pb 0 _ _ _ hb1
  have p1 := cell_of_row W1 pb 1 _ _ _ hb1
  have f1 := frozen_of_row W1 pb 1 _ _ hb1
  simp only [List.getElem?_toArray, List.getElem?_cons_zero, List.getElem?_cons_succ] at q0 p0 p1
  have HB := Lib.hid hb1
  have hne : sb ≠ pb := by omega
  clear hW1 hs1 hb1 HSP HG hsb
  go_wp2_with fail
  go_loopw [23] (fun i wr => i = .int .i64 0 ∧ wr = W1) (fun _ _ => 0)
  case atStart => exact ⟨rfl, rfl⟩
  case round =>
    obtain ⟨rfl, rfl⟩ := hrel
    go_wp2_with fail
    go_ret
    exact ⟨rfl, HL.out.setCell hlp _, _, _, heap_setCell_same _ _ 1 _ _ _ HB.out⟩
end Go.Proofs.YtdjbkppdppdcgaaGreatDoor

namespace Go.Proofs.YtdjbkppdppdcgaaGreatDoor
open Go.RowKit

theorem RdS.first {lo : Nat} {W0 W W2 : World} {pb g2 cap2 gc : Nat} {ga : Option Addr} {o : Obj} {A : Option Addr} {ic : Nat} (hl : Below lo W0 W) (hlo : lo ≤ W.heap.size) (hlp : lo ≤ pb) (hbx : W.heap[pb]? = some (.cells #[.slice none 0 0, .slice ga 0 gc] 25 (0, 0)))
    (ho : W2.ownsRow lo 43 6 (.slice (some ⟨g2, 0, none⟩) (0 + 1) cap2) (0 + 1) ([] ++ fnCells (rdF [], ⟨A, ic, none, 0⟩))) (hg : (W.alloc o).grownBy W2 (Value.ownBlock (.slice none 0 0))) (hb : Value.ownBlock (.slice none 0 0) = some g2 ∨ g2 = (W.alloc o).heap.size) :
    (W2.cell? ⟨pb, 0, none⟩ = some (.slice none 0 0) ∧ W2.frozen? ⟨pb, 0, none⟩ = false) ∧ RdS lo W0 (W2.setCell ⟨pb, 0, none⟩ (.slice (some ⟨g2, 0, none⟩) 1 cap2)) pb g2 cap2 ga gc ⟨A, ic, none, 0⟩ [] := by
  have hpl := (Array.getElem?_eq_some_iff.1 hbx).1
  have hg2 : g2 = W.heap.size + 1 := by
    rcases hb with h | h
    · simp [Value.ownBlock] at h
    · rwa [World.size_alloc] at h
  have hb2 := (grown_keep hg hpl (by simp [Value.ownBlock])).trans hbx
  have p0 := cell_of_row W2 pb 0 _ _ _ hb2
  simp only [List.getElem?_toArray, List.getElem?_cons_zero] at p0
  refine ⟨⟨p0, frozen_of_row W2 pb 0 _ _ hb2⟩, ?_, heap_setCell_same _ _ 0 _ _ _ hb2, ownsRow_setCell_other (by simpa using ho) (by simp [Value.ownBlock]; omega) _, World.ownsRow_nil _ _ _ _, by omega, by simp [Value.ownBlock], by simp [Value.ownBlock], hlp⟩
  exact ((hl.alloc hlo o).trans ⟨hg.os, hg.tape, hg.output, hg.size, fun k hk => hg.block k (by rw [World.size_alloc]; omega) (by simp [Value.ownBlock])⟩).setCell hlp _

set_option maxRecDepth 100000 in
set_option maxHeartbeats 8000000 in
theorem pline_func {lo : Nat} {W0 W : World} {pb gc : Nat} {ga : Option Addr} (hl : Below lo W0 W) (hlp : lo ≤ pb) (hb : W.heap[pb]? = some (.cells #[.slice none 0 0, .slice ga 0 gc] 25 (0, 0))) (hG : Gc W) {S : ByteArray} {a b c : List UInt8} (hS : SplitTo S [[102, 117, 110, 99], [45], a, b, c] 5) (hpre : Lib.hasPrefix S.data.toList [9] = false)
    (hi : intsL [a, b, c] = some [0, 1, -1]) (hab : a.length ≤ 1000000 ∧ b.length ≤ 1000000 ∧ c.length ≤ 1000000) :
    Calls Tryz.prog 46 #[.pointer (some ⟨pb, 0, none⟩), .int .i64 1, .string S] W fun e W' => e = .returned (.bool true) ∧ ∃ g cap fv, RdS lo W0 W' pb g cap ga gc fv [] := by
  have HSP : Hid (∀ V, Gc V → Calls Tryz.prog 69 #[.string S, .string ⟨#[32]⟩] V fun e V' => e = .returned (.slice (some ⟨V.heap.size, 0, none⟩) 5 5) ∧ V' = V.alloc (.cells (cellsS [[102, 117, 110, 99], [45], a, b, c]).toArray 9)) := Lib.hid hS
  have hpl := (Array.getElem?_eq_some_iff.1 hb).1
  have HG := Lib.hid hG
  have HPR : Hid (Lib.hasPrefix S.data.toList (⟨#[9]⟩ : ByteArray).data.toList = false) := Lib.hid hpre
  have hB1 : Below W.heap.size W (W.alloc (.cells (cellsS [[102, 117, 110, 99], [45], a, b, c]).toArray 9 (0, 0))) := (Below.refl _ _).alloc (Nat.le_refl _) _
  have HRW : Hid (RowIs (W.alloc (.cells (cellsS [[102, 117, 110, 99], [45], a, b, c]).toArray 9 (0, 0))) (W.alloc (.cells (cellsS [[102, 117, 110, 99], [45], a, b, c]).toArray 9 (0, 0))).heap.size (some ⟨W.heap.size, 0, none⟩) (cellsS [[102, 117, 110, 99], [45], a, b, c])) := Lib.hid (.inr ⟨W.heap.size, 0, rfl, by simp, fun j v hj => by
    rw [Nat.zero_add, cell_of_row _ W.heap.size j _ _ _ (heap_alloc_new W _), List.getElem?_toArray]
    exact hj⟩)
  have HG1 := Lib.hid (hG.up hB1)
  have HL := Lib.hid (hl.trans (hB1.mono (by omega)))
  have HB := Lib.hid ((heap_alloc_old W (.cells (cellsS [[102, 117, 110, 99], [45], a, b, c]).toArray 9 (0, 0)) hpl).trans hb)
  have hlo : lo ≤ W.heap.size := by omega
  have HOP : Hid (∀ V : World, Gc V → RowIs V V.heap.size (some ⟨W.heap.size, 0, none⟩) (cellsS [[102, 117, 110, 99], [45], a, b, c]) → Calls Tryz.prog 72 #[.slice (some ⟨W.heap.size, 0, none⟩) 5 5] V fun e w' => ∃ (A : Option Addr) (ic : Nat), e = .returned (.tuple #[.agg #[.string ⟨#[]⟩, .int .i64 0, .int .i64 1, .slice A 0 ic, .int .i64 (-1), .slice none 0 0], .bool true]) ∧ Below V.heap.size V w') := Lib.hid fun V hV hr => opened_plain hV hr (by omega) hi hab
  clear hS hG hl hb hpre hi hab hB1
  go_enter Tryz.func46, Tryz.ntmps46
  go_upto_region 18 with (first
    | (go_at_call 69; refine (HSP.out _ HG.out).mono ?_; rintro e w1 ⟨rfl, rfl⟩)
    | (go_at_call 70; refine (Tryz.strings_HasPrefix _ _ _).mono ?_; rintro e w2 ⟨rfl, rfl⟩; rw [HPR.out]))
  obtain ⟨sb, hsb⟩ : ∃ sb, W.heap.size = sb := ⟨_, rfl⟩
  obtain ⟨W1, hW1⟩ : ∃ W1, W.alloc (.cells (cellsS [[102, 117, 110, 99], [45], a, b, c]).toArray 9 (0, 0)) = W1 := ⟨_, rfl⟩
  have hsz : W1.heap.size = sb + 1 := by rw [← hW1, World.size_alloc, hsb]
  simp only [hsb, hW1] at HL HB HRW HG1 HOP hlo hpl ⊢
  clear hW1 hsb HG HSP HPR
  go_upto_region 19 with (go_at_call 72; refine (HOP.out _ HG1.out HRW.out).mono ?_; rintro e w3 ⟨A, ic, rfl, hb3⟩)
  have hs3 := hb3.size
  have hL4 := (HL.out.trans (hb3.mono (by omega))).alloc (by omega) (.cells #[.string ⟨#[]⟩, .int .i64 0, .int .i64 1, .slice A 0 ic, .int .i64 (-1), .slice none 0 0] 43 (0, 0))
  have hb4 := (heap_alloc_old w3 (.cells #[.string ⟨#[]⟩, .int .i64 0, .int .i64 1, .slice A 0 ic, .int .i64 (-1), .slice none 0 0] 43 (0, 0)) (by omega)).trans ((hb3.block pb (by omega)).trans HB.out)
  have hx4 := heap_alloc_new w3 (.cells #[.string ⟨#[]⟩, .int .i64 0, .int .i64 1, .slice A 0 ic, .int .i64 (-1), .slice none 0 0] 43 (0, 0))
  obtain ⟨xb, hxb⟩ : ∃ xb, w3.heap.size = xb := ⟨_, rfl⟩
  obtain ⟨W4, hW4⟩ : ∃ W4, w3.alloc (.cells #[.string ⟨#[]⟩, .int .i64 0, .int .i64 1, .slice A 0 ic, .int .i64 (-1), .slice none 0 0] 43 (0, 0)) = W4 := ⟨_, rfl⟩
  have hs4 : W4.heap.size = xb + 1 := by rw [← hW4, World.size_alloc, hxb]
  simp only [hW4, hxb] at hL4 hb4 hx4 hs3 ⊢
  obtain ⟨i0, hi, hz0, hz1, hz2⟩ := info_parts funcInfo
  have HL4 : Hid (Below lo W0 W4.drew) := Lib.hid ⟨hL4.os, hL4.tape, hL4.output, hL4.size, hL4.block⟩
  have HB4 := Lib.hid (show W4.drew.heap[pb]? = some (.cells #[.slice none 0 0, .slice ga 0 gc] 25 (0, 0)) from hb4)
  have HX4 := Lib.hid (show W4.drew.heap[xb]? = some (.cells #[.string ⟨#[]⟩, .int .i64 0, .int .i64 1, .slice A 0 ic, .int .i64 (-1), .slice none 0 0] 43 (0, 0)) from hx4)
  have hld : lo ≤ W4.drew.heap.size := by show lo ≤ W4.heap.size; omega
  have hxlt := (Array.getElem?_eq_some_iff.1 HX4.out).1
  have hplt := (Array.getElem?_eq_some_iff.1 HB4.out).1
  have y0 := cell_of_row _ pb 0 _ _ _ HB4.out
  have g0 := frozen_of_row _ pb 0 _ _ HB4.out
  have x0 := cell_of_row _ xb 0 _ _ _ HX4.out
  have x1 := cell_of_row _ xb 1 _ _ _ HX4.out
  have x2 := cell_of_row _ xb 2 _ _ _ HX4.out
  have x3 := cell_of_row _ xb 3 _ _ _ HX4.out
  have x4 := cell_of_row _ xb 4 _ _ _ HX4.out
  have x5 := cell_of_row _ xb 5 _ _ _ HX4.out
  simp only [List.getElem?_toArray, List.getElem?_cons_zero, List.getElem?_cons_succ] at y0 x0 x1 x2 x3 x4 x5
  clear hL4 hb4 hx4 HL HB HRW HG1 HOP hb3 hW4 hxb
  refine wp_region_G [10] (fun u => u.cell? ⟨pb, 0, none⟩ = some (.slice none 0 0) ∧ u.frozen? ⟨pb, 0, none⟩ = false ∧ u.cell? ⟨xb, 0, none⟩ = some (.string ⟨#[]⟩) ∧ u.cell? ⟨xb, 1, none⟩ = some (.int .i64 0) ∧ u.cell? ⟨xb, 2, none⟩ = some (.int .i64 1) ∧ u.cell? ⟨xb, 3, none⟩ = some (.slice A 0 ic) ∧ u.cell? ⟨xb, 4, none⟩ = some (.int .i64 (-1)) ∧ u.cell? ⟨xb, 5, none⟩ = some (.slice none 0 0)) (by rfl) ?_ (fun hHeld => ?_)
  · exact ⟨y0, g0, x0, x1, x2, x3, x4, x5⟩
  generalize hwd : World.drew W4 = wd at HL4 HB4 HX4 y0 g0 x0 x1 x2 x3 x4 x5 hxlt hplt hld hHeld ⊢
  refine wpAnyG_take (i := 0) (v := ?_) rfl (by kernel_rfl) (by kernel_rfl) (by kernel_rfl) (by kernel_rfl) (by kernel_rfl) (fun _ _ _ h => h) (Or.inl ⟨by rfl, ?_⟩) (by assumption) ?_
  rotate_left
  · (intro w hSw; (try dsimp only at hSw); go_simp; try with_reducible rfl)
  try simp only [Act.put, List.getElem_toArray, List.getElem_cons_zero, List.setIfInBounds_toArray, List.set_cons_zero, List.set_cons_succ]
  refine wpAnyG_take (i := 1) (v := ?_) rfl (by kernel_rfl) (by kernel_rfl) (by kernel_rfl) (by kernel_rfl) (by kernel_rfl) (fun _ _ _ h => h) (Or.inl ⟨by rfl, ?_⟩) (by assumption) ?_
  rotate_left
  · (intro w hSw; (try dsimp only at hSw); go_simp; try with_reducible rfl)
  try simp only [Act.put, List.getElem_toArray, List.getElem_cons_zero, List.getElem_cons_succ, List.setIfInBounds_toArray, List.set_cons_zero, List.set_cons_succ]
  refine wpAnyG_take (i := 2) (v := ?_) rfl (by kernel_rfl) (by kernel_rfl) (by kernel_rfl) (by kernel_rfl) (by kernel_rfl) (fun _ _ _ h => h) (Or.inl ⟨by rfl, ?_⟩) (by assumption) ?_
  rotate_left
  · (intro w hSw; (try dsimp only at hSw); go_simp; try with_reducible rfl)
  try simp only [Act.put, List.getElem_toArray, List.getElem_cons_zero, List.getElem_cons_succ, List.setIfInBounds_toArray, List.set_cons_zero, List.set_cons_succ]
  refine wpAnyG_take (i := 3) (v := ?_) rfl (by kernel_rfl) (by kernel_rfl) (by kernel_rfl) (by kernel_rfl) (by kernel_rfl) (fun _ _ _ h => h) (Or.inl ⟨by rfl, ?_⟩) (by assumption) ?_
  rotate_left
  · (intro w hSw; (try dsimp only at hSw); go_simp; try with_reducible rfl)
  try simp only [Act.put, List.getElem_toArray, List.getElem_cons_zero, List.getElem_cons_succ, List.setIfInBounds_toArray, List.set_cons_zero, List.set_cons_succ]
  refine wpAnyG_take (i := 4) (v := ?_) rfl (by kernel_rfl) (by kernel_rfl) (by kernel_rfl) (by kernel_rfl) (by kernel_rfl) (fun _ _ _ h => h) (Or.inl ⟨by rfl, ?_⟩) (by assumption) ?_
  rotate_left
  · (intro w hSw; (try dsimp only at hSw); go_simp; try with_reducible rfl)
  try simp only [Act.put, List.getElem_toArray, List.getElem_cons_zero, List.getElem_cons_succ, List.setIfInBounds_toArray, List.set_cons_zero, List.set_cons_succ]
  refine wpAnyG_take (i := 5) (v := ?_) rfl (by kernel_rfl) (by kernel_rfl) (by kernel_rfl) (by kernel_rfl) (by kernel_rfl) (fun _ _ _ h => h) (Or.inl ⟨by rfl, ?_⟩) (by assumption) ?_
  rotate_left
  · (intro w hSw; (try dsimp only at hSw); go_simp; try with_reducible rfl)
  try simp only [Act.put, List.getElem_toArray, List.getElem_cons_zero, List.getElem_cons_succ, List.setIfInBounds_toArray, List.set_cons_zero, List.set_cons_succ]
  refine wpAnyG_ready (rs := [6]) (by kernel_rfl) (by simp) ?_
  refine AllReadyG.cons rfl (fun KK hKK => ?_) AllReadyG.nil
  go_simp
  refine hKK.out _ _ (⟨(World.cell?_of_block (a := ⟨pb, 0, none⟩) (heap_alloc_old _ _ hplt)).trans y0, (frozen_keep (heap_alloc_old _ _ hplt) 0).trans g0, (World.cell?_of_block (a := ⟨xb, 0, none⟩) (heap_alloc_old _ _ hxlt)).trans x0, (World.cell?_of_block (a := ⟨xb, 1, none⟩) (heap_alloc_old _ _ hxlt)).trans x1, (World.cell?_of_block (a := ⟨xb, 2, none⟩) (heap_alloc_old _ _ hxlt)).trans x2, (World.cell?_of_block (a := ⟨xb, 3, none⟩) (heap_alloc_old _ _ hxlt)).trans x3, (World.cell?_of_block (a := ⟨xb, 4, none⟩) (heap_alloc_old _ _ hxlt)).trans x4, (World.cell?_of_block (a := ⟨xb, 5, none⟩) (heap_alloc_old _ _ hxlt)).trans x5⟩) (fun hHeld => ?_)
  clear hKK KK
  try simp only [Act.put, List.getElem_toArray, List.getElem_cons_zero, List.getElem_cons_succ, List.setIfInBounds_toArray, List.set_cons_zero, List.set_cons_succ]
  refine wpAnyG_ready (rs := [7]) (by kernel_rfl) (by simp) ?_
  refine AllReadyG.cons rfl (fun KK hKK => ?_) AllReadyG.nil
  refine step_append_lies _ rfl (.tmp 88) (.tmp 90) 22 rfl lo 43 i0 _ 6 88 Tryz.underlying22 hi hz0 hz1 hz2 rfl (by decide) (.slice none 0 0) 0 [] rfl (World.ownsRow_nil _ _ _ _) ⟨_, 0, none⟩ 1 1 (fnCells (rdF [], ⟨A, ic, none, 0⟩)) rfl rfl (fun k u hu => news_at _ _ _ _ k u hu) (by intro u hu; simp [fnCells, rdF] at hu; rcases hu with rfl | rfl | rfl | rfl | rfl | rfl <;> rfl) (by decide) (by unfold maxLen; omega) (by omega) (by rw [World.size_alloc]; omega) _ rfl ?_
  intro g2 cap2 w2 ho2 hg2 hb2 hl2
  obtain ⟨⟨y0, g0⟩, hs5⟩ := RdS.first HL4.out hld hlp HB4.out ho2 hg2 hb2
  have x0 := (World.cell?_of_block (a := ⟨xb, 0, none⟩) (grown_keep hg2 hxlt (by simp [Value.ownBlock]))).trans x0
  have x1 := (World.cell?_of_block (a := ⟨xb, 1, none⟩) (grown_keep hg2 hxlt (by simp [Value.ownBlock]))).trans x1
  have x2 := (World.cell?_of_block (a := ⟨xb, 2, none⟩) (grown_keep hg2 hxlt (by simp [Value.ownBlock]))).trans x2
  have x3 := (World.cell?_of_block (a := ⟨xb, 3, none⟩) (grown_keep hg2 hxlt (by simp [Value.ownBlock]))).trans x3
  have x4 := (World.cell?_of_block (a := ⟨xb, 4, none⟩) (grown_keep hg2 hxlt (by simp [Value.ownBlock]))).trans x4
  have x5 := (World.cell?_of_block (a := ⟨xb, 5, none⟩) (grown_keep hg2 hxlt (by simp [Value.ownBlock]))).trans x5
  have HS7 := Lib.hid hs5
  clear hs5 ho2 hg2 hb2
  refine hKK.out _ _ (⟨y0, g0, x0, x1, x2, x3, x4, x5⟩) (fun hHeld => ?_)
  clear hKK KK
  try simp only [Act.put, List.getElem_toArray, List.getElem_cons_zero, List.getElem_cons_succ, List.setIfInBounds_toArray, List.set_cons_zero, List.set_cons_succ]
  refine wpAnyG_ready (rs := [8]) (by kernel_rfl) (by simp) ?_
  refine AllReadyG.cons rfl (fun KK hKK => ?_) AllReadyG.nil
  go_simp
  refine hKK.out _ _ (⟨y0, g0, x0, x1, x2, x3, x4, x5⟩) (fun hHeld => ?_)
  clear hKK KK
  try simp only [Act.put, List.getElem_toArray, List.getElem_cons_zero, List.getElem_cons_succ, List.setIfInBounds_toArray, List.set_cons_zero, List.set_cons_succ]
  refine wpAnyG_take (i := 9) (v := ?_) rfl (by kernel_rfl) (by kernel_rfl) (by kernel_rfl) (by kernel_rfl) (by kernel_rfl) (fun _ _ _ h => h) (Or.inl ⟨by rfl, ?_⟩) (by assumption) ?_
  rotate_left
  · (intro w hSw; (try dsimp only at hSw); go_simp; try with_reducible rfl)
  try simp only [Act.put, List.getElem_toArray, List.getElem_cons_zero, List.getElem_cons_succ, List.setIfInBounds_toArray, List.set_cons_zero, List.set_cons_succ]
  refine wpAnyG_ready (rs := [10]) (by kernel_rfl) (by simp) ?_
  refine AllReadyG.last rfl (by decide) (by decide) (fun KK hKK => ?_) AllReadyG.nil
  go_simp
  refine hKK.out _ _ ?_
  clear hKK KK
  try simp only [Act.put, List.getElem_toArray, List.getElem_cons_zero, List.getElem_cons_succ, List.setIfInBounds_toArray, List.set_cons_zero, List.set_cons_succ]
  refine wpAny_done (by kernel_rfl) ?_ _
  go_wp2_with fail
  go_ret
  exact ⟨rfl, _, _, _, HS7.out⟩
end Go.Proofs.YtdjbkppdppdcgaaGreatDoor

namespace Go.Proofs.YtdjbkppdppdcgaaGreatDoor
open Go.RowKit

/-- What is left of the text, its lines. -/
def lsR : Nat → List UInt8
  | 0 => leastL
  | 1 => leastL.drop 8
  | 2 => leastL.drop 22
  | 3 => leastL.drop 33
  | _ => []
def lsX : Nat → List UInt8
  | 0 => [103, 108, 111, 98, 97, 108, 115]
  | 1 => [102, 117, 110, 99, 32, 45, 32, 48, 32, 49, 32, 45, 49]
  | 2 => [9, 110, 105, 108, 32, 48, 32, 48, 32, 48]
  | 3 => [9, 114, 101, 116, 117, 114, 110, 32, 48, 32, 48, 32, 48]
  | _ => []
/-- What has been read behind so many lines. -/
def LsS (lo : Nat) (W0 : World) (pb : Nat) : Nat → World → Prop
  | 0, W => Below lo W0 W ∧ W.heap[pb]? = some (.cells #[.slice none 0 0, .slice none 0 0] 25 (0, 0))
  | 1, W => Below lo W0 W ∧ ∃ ga gc, W.heap[pb]? = some (.cells #[.slice none 0 0, .slice ga 0 gc] 25 (0, 0))
  | 2, W => ∃ g cap ga gc fv, RdS lo W0 W pb g cap ga gc fv []
  | 3, W => ∃ g cap ga gc fv, RdS lo W0 W pb g cap ga gc fv [⟨7, 0, 0, ⟨#[]⟩, 0⟩]
  | _, W => ∃ g cap ga gc fv, RdS lo W0 W pb g cap ga gc fv [⟨7, 0, 0, ⟨#[]⟩, 0⟩, ⟨50, 0, 0, ⟨#[]⟩, 0⟩]
theorem LsS.low {lo : Nat} {W0 : World} {pb : Nat} : ∀ (k : Nat) {W : World}, LsS lo W0 pb k W → Below lo W0 W
  | 0, _, h => h.1
  | 1, _, h => h.1
  | 2, _, ⟨_, _, _, _, _, h⟩ => h.low
  | 3, _, ⟨_, _, _, _, _, h⟩ => h.low
  | _ + 4, _, ⟨_, _, _, _, _, h⟩ => h.low
theorem LsS.under {lo : Nat} {W0 : World} {pb : Nat} (hp : lo ≤ pb) : ∀ (k : Nat) {W W' : World}, LsS lo W0 pb k W → Below W.heap.size W W' → LsS lo W0 pb k W'
  | 0, _, _, h, hb => by
    have := (Array.getElem?_eq_some_iff.1 h.2).1
    exact ⟨h.1.trans (hb.mono (by omega)), (hb.block pb this).trans h.2⟩
  | 1, _, _, h, hb => by
    obtain ⟨h1, ga, gc, h2⟩ := h
    have := (Array.getElem?_eq_some_iff.1 h2).1
    exact ⟨h1.trans (hb.mono (by omega)), ga, gc, (hb.block pb this).trans h2⟩
  | 2, _, _, ⟨g, cap, ga, gc, fv, h⟩, hb => ⟨g, cap, ga, gc, fv, h.under hb⟩
  | 3, _, _, ⟨g, cap, ga, gc, fv, h⟩, hb => ⟨g, cap, ga, gc, fv, h.under hb⟩
  | _ + 4, _, _, ⟨g, cap, ga, gc, fv, h⟩, hb => ⟨g, cap, ga, gc, fv, h.under hb⟩
theorem ints_000 : intsL [[48], [48], [48]] = some [0, 0, 0] := by simp only [intsL, int_0]
theorem ls_line {lo : Nat} {W0 : World} {pb : Nat} (hp : lo ≤ pb) : ∀ k, k < 4 → ∀ V, LsS lo W0 pb k V → Gc V →
    Calls Tryz.prog 46 #[.pointer (some ⟨pb, 0, none⟩), .int .i64 k, .string ⟨⟨lsX k⟩⟩] V fun e V' => e = .returned (.bool true) ∧ LsS lo W0 pb (k + 1) V' := by
  intro k hk V hS hG
  match k, hk, hS with
  | 0, _, hS =>
    refine (pline_globals hS.1 hp hS.2 hG (split_to _ _ _ (by kernel_rfl) (by kernel_rfl) (by decide))).mono ?_
    rintro e V' ⟨rfl, h1, h2⟩
    exact ⟨rfl, h1, h2⟩
  | 1, _, hS =>
    obtain ⟨h1, ga, gc, h2⟩ := hS
    refine (pline_func h1 hp h2 hG (a := [48]) (b := [49]) (c := [45, 49]) (split_to _ _ _ (by kernel_rfl) (by kernel_rfl) (by decide)) (by kernel_rfl) (by simp only [intsL, int_0, int_1, int_m1]) (by decide)).mono ?_
    rintro e V' ⟨rfl, g, cap, fv, h⟩
    exact ⟨rfl, g, cap, ga, gc, fv, h⟩
  | 2, _, ⟨g, cap, ga, gc, fv, h⟩ =>
    refine (pline_inst h hG (i := 2) (by decide) (by decide) (r := [110, 105, 108, 32, 48, 32, 48, 32, 48]) (a := [110, 105, 108]) (b := [48]) (c := [48]) (d := [48]) (x := 0) (y := 0) (z := 0) (by kernel_rfl) (by decide) (by decide) ints_000 (by decide) (by decide) (by decide)).mono ?_
    rintro e V' ⟨rfl, fv', h⟩
    exact ⟨rfl, g, cap, ga, gc, fv', h⟩
  | 3, _, ⟨g, cap, ga, gc, fv, h⟩ =>
    refine (pline_inst h hG (i := 3) (by decide) (by decide) (r := [114, 101, 116, 117, 114, 110, 32, 48, 32, 48, 32, 48]) (a := [114, 101, 116, 117, 114, 110]) (b := [48]) (c := [48]) (d := [48]) (x := 0) (y := 0) (z := 0) (by kernel_rfl) (by decide) (by decide) ints_000 (by decide) (by decide) (by decide)).mono ?_
    rintro e V' ⟨rfl, fv', h⟩
    exact ⟨rfl, g, cap, ga, gc, fv', h⟩
theorem ls_cut0 : Lib.cut (lsR 0) [10] = (lsX 0, lsR 1, true) := by kernel_rfl
theorem ls_cut1 : Lib.cut (lsR 1) [10] = (lsX 1, lsR 2, true) := by kernel_rfl
theorem ls_cut2 : Lib.cut (lsR 2) [10] = (lsX 2, lsR 3, true) := by kernel_rfl
theorem ls_cut3 : Lib.cut (lsR 3) [10] = (lsX 3, lsR 4, true) := by kernel_rfl
theorem ls_cut : ∀ k, k < 4 → ∀ V, Gc V → Calls Tryz.prog 45 #[.string ⟨⟨lsR k⟩⟩, .string ⟨#[10]⟩] V fun e V' => e = .returned (.tuple #[.string ⟨⟨lsX k⟩⟩, .string ⟨⟨lsR (k + 1)⟩⟩, .bool true]) ∧ Below V.heap.size V V' := by
  intro k hk V hV
  obtain ⟨m, hm⟩ := hV.max
  have hc : Lib.cut (lsR k) [10] = (lsX k, lsR (k + 1), true) := by
    match k, hk with
    | 0, _ => exact ls_cut0
    | 1, _ => exact ls_cut1
    | 2, _ => exact ls_cut2
    | 3, _ => exact ls_cut3
  have hl : (lsR k).length ≤ 1000 := by
    match k, hk with
    | 0, _ => decide
    | 1, _ => decide
    | 2, _ => decide
    | 3, _ => decide
  refine (Tryz.strings_Cut ⟨⟨lsR k⟩⟩ ⟨#[10]⟩ m V (by show (lsR k).length < _; omega) hm).mono ?_
  rintro e V' ⟨rfl, n, rfl⟩
  rw [show (⟨⟨lsR k⟩⟩ : ByteArray).data.toList = lsR k from rfl, show (⟨#[10]⟩ : ByteArray).data.toList = [10] from rfl, hc]
  exact ⟨rfl, drew_below V n⟩
/-- The least program in memory of its own, its globals a row of none. -/
theorem lies_own {lo : Nat} {W : World} {g cap gc : Nat} {ga : Option Addr} {fv : Fv} (h1 : W.ownsRow lo 43 6 (.slice (some ⟨g, 0, none⟩) 1 cap) 1 (fnCells (leastF, fv))) (h2 : W.ownsRow lo 46 5 (.slice fv.ca 2 fv.cc) 2 (leastF.code.flatMap insCells)) : LiesC W W.heap.size least (.agg #[.slice (some ⟨g, 0, none⟩) 1 cap, .slice ga 0 gc]) := by
  obtain ⟨r1, c1⟩ := own_row h1
  obtain ⟨r2, c2⟩ := own_row h2
  refine ⟨some ⟨g, 0, none⟩, cap, ga, gc, [(leastF, fv)], rfl, rfl, ?_, .inl rfl, c1, Nat.zero_le _, fun x hx => ?_⟩
  · rw [List.flatMap_cons, List.flatMap_nil, List.append_nil]
    exact r1
  rw [List.mem_singleton.1 hx]
  exact ⟨.inl rfl, r2, Nat.zero_le _, c2⟩
theorem RdS.lies {lo : Nat} {W0 W : World} {pb g cap gc : Nat} {ga : Option Addr} {fv : Fv} (h : RdS lo W0 W pb g cap ga gc fv [⟨7, 0, 0, ⟨#[]⟩, 0⟩, ⟨50, 0, 0, ⟨#[]⟩, 0⟩]) : LiesC W W.heap.size least (.agg #[.slice (some ⟨g, 0, none⟩) 1 cap, .slice ga 0 gc]) := lies_own h.fns h.ins
theorem read_result (tmps : Array Value) (W : World) (g : Nat) (v0 v1 : Value) (h2 : tmps.getD 2 undef = .pointer (some ⟨g, 0, none⟩)) (h3 : tmps.getD 3 undef = .nilIface) (e0 : W.cell? ⟨g, 0, none⟩ = some v0) (e1 : W.cell? ⟨g, 1, none⟩ = some v1) :
    (results Tryz.f17 tmps).run Tryz.prog W = .ok (.tuple #[.agg #[v0, v1], .nilIface]) W := by
  have h2' : tmps[2]?.getD undef = .pointer (some ⟨g, 0, none⟩) := by simpa using h2
  have h3' : tmps[3]?.getD undef = .nilIface := by simpa using h3
  have hres : Tryz.f17.results = #[ResultVar.cell 2 25, ResultVar.tmp 3] := rfl
  simp [results, go_sem, h2', h3', e0, e1]

set_option maxRecDepth 100000 in
set_option maxHeartbeats 4000000 in
theorem read_least {w : World} (hG : Gc w) : Calls Tryz.prog 17 #[.string ⟨⟨leastL⟩⟩] w fun e w' => ∃ v, e = .returned (.tuple #[v, .nilIface]) ∧ LiesC w' w'.heap.size least v ∧ Below w.heap.size w w' := by
  have HG := Lib.hid hG
  obtain ⟨R, hR⟩ : ∃ R, lsR = R := ⟨_, rfl⟩
  obtain ⟨X, hX⟩ : ∃ X, lsX = X := ⟨_, rfl⟩
  have hcut := ls_cut
  have hline := @ls_line
  have e0 : ∀ k, k < 4 → (R k).isEmpty = false := by
    subst hR
    intro k hk
    match k, hk with
    | 0, _ => rfl
    | 1, _ => rfl
    | 2, _ => rfl
    | 3, _ => rfl
  have e4 : R 4 = [] := by subst hR; rfl
  rw [show leastL = R 0 by subst hR; rfl]
  rw [hR, hX] at hcut
  rw [hX] at hline
  have HC := Lib.hid hcut
  have HE := Lib.hid e0
  have HE4 := Lib.hid e4
  clear hcut hG hR hX e4
  go_enter Tryz.func17, Tryz.ntmps17
  have hb0 := heap_alloc_new w (.cells #[.slice none 0 0, .slice none 0 0] 25 (0, 0))
  have hL0 : Below w.heap.size w (w.alloc (.cells #[.slice none 0 0, .slice none 0 0] 25 (0, 0))) := (Below.refl _ _).alloc (Nat.le_refl _) _
  obtain ⟨W0, hW0⟩ : ∃ W0, w.alloc (.cells #[.slice none 0 0, .slice none 0 0] 25 (0, 0)) = W0 := ⟨_, rfl⟩
  have hsz : W0.heap.size = w.heap.size + 1 := by rw [← hW0, World.size_alloc]
  have hb1 := heap_alloc_new W0 (.cells #[.slice none 0 0, .slice none 0 0] 25 (0, 0))
  have hS0 : LsS (w.heap.size + 1) W0 (w.heap.size + 1) 0 (W0.alloc (.cells #[.slice none 0 0, .slice none 0 0] 25 (0, 0))) := ⟨by rw [← hsz]; exact (Below.refl _ _).alloc (Nat.le_refl _) _, by rw [← hsz]; exact hb1⟩
  have e00 := HE.out 0 (by decide)
  go_upto_region 5 with fail
  obtain ⟨lo, hlo⟩ : ∃ lo, w.heap.size + 1 = lo := ⟨_, rfl⟩
  obtain ⟨W1, hW1⟩ : ∃ W1, W0.alloc (.cells #[.slice none 0 0, .slice none 0 0] 25 (0, 0)) = W1 := ⟨_, rfl⟩
  simp only [hW0, hW1, hlo] at hS0 hL0 ⊢
  have HS0 := Lib.hid hS0
  have HL0 := Lib.hid hL0
  have HB0 : Hid (W0.heap[w.heap.size]? = some (.cells #[.slice none 0 0, .slice none 0 0] 25 (0, 0))) := Lib.hid (by rw [← hW0]; exact hb0)
  have HUP : Hid (∀ (k : Nat) (V : World), LsS lo W0 lo k V → Below w.heap.size w V ∧ V.heap[w.heap.size]? = some (.cells #[.slice none 0 0, .slice none 0 0] 25 (0, 0))) := Lib.hid fun k V hS => by
    have hl := LsS.low k hS
    exact ⟨HL0.out.trans (hl.mono (by omega)), (hl.block _ (by omega)).trans HB0.out⟩
  clear hW1 hS0 hL0 hb0 hb1 hW0
  go_loopw [0, 5] (fun s i wr => ∃ k : Nat, k ≤ 4 ∧ s = .string ⟨⟨R k⟩⟩ ∧ i = .int .i64 k ∧ Hid (LsS lo W0 lo k wr)) (fun _ i _ => 4 - (intOf i).toNat)
  case atStart => exact ⟨0, by decide, rfl, rfl, HS0⟩
  case round =>
    clear HS0
    obtain ⟨k, hk, rfl, rfl, HS⟩ := hrel
    by_cases hlt : k < 4
    · have e1 := HE.out k hlt
      have HLN : Hid (∀ V, LsS lo W0 lo k V → Calls Tryz.prog 46 #[.pointer (some ⟨lo, 0, none⟩), .int .i64 k, .string ⟨⟨X k⟩⟩] V fun e V' => e = .returned (.bool true) ∧ LsS lo W0 lo (k + 1) V') := Lib.hid fun V hV => hline (Nat.le_refl _) k hlt V hV (HG.out.up (HUP.out k V hV).1)
      go_wp2_with (first
        | (go_at_call 45; refine (HC.out k hlt _ (HG.out.up (HUP.out k _ HS.out).1)).mono ?_; rintro e w2 ⟨rfl, hb2⟩; have HS2 := Lib.hid (LsS.under (Nat.le_refl _) k HS.out hb2))
        | (go_at_call 46; refine (HLN.out _ HS2.out).mono ?_; rintro e w3 ⟨rfl, hs3⟩; have HS3 := Lib.hid hs3))
      go_roundw
      case rel => exact ⟨k + 1, by omega, rfl, by simp, HS3⟩
      case measure => simp [intOf]; omega
    · obtain rfl : k = 4 := by omega
      rw [HE4.out]
      obtain ⟨g, cap, ga, gc, fv, hS⟩ := HS.out
      have hub := HUP.out 4 wr HS.out
      have HRT := Lib.hid (right_plain least_plain (HG.out.up hub.1) hS.lies least_fits (by simp))
      have p0 := cell_of_row wr lo 0 _ _ _ hS.box
      have p1 := cell_of_row wr lo 1 _ _ _ hS.box
      simp only [List.getElem?_toArray, List.getElem?_cons_zero, List.getElem?_cons_succ] at p0 p1
      have HSF := Lib.hid hS
      have HUB := Lib.hid hub
      clear hS hub HE HC HUP HS hline e00 e0
      go_upto_region 12 with (go_at_call 13; refine HRT.out.mono ?_; rintro e w5 ⟨hb5, rfl⟩)
      have HS5 := Lib.hid (HSF.out.under hb5)
      have HB5 := Lib.hid (HUB.out.1.trans (hb5.mono HUB.out.1.size))
      have hr5 := (hb5.block w.heap.size (Array.getElem?_eq_some_iff.1 HUB.out.2).1).trans HUB.out.2
      have z0 := cell_of_row w5 lo 0 _ _ _ HS5.out.box
      have z1 := cell_of_row w5 lo 1 _ _ _ HS5.out.box
      have c0 := cell_of_row w5 _ 0 _ _ _ hr5
      have c1 := cell_of_row w5 _ 1 _ _ _ hr5
      have f0 := frozen_of_row w5 _ 0 _ _ hr5
      have f1 := frozen_of_row w5 _ 1 _ _ hr5
      simp only [List.getElem?_toArray, List.getElem?_cons_zero, List.getElem?_cons_succ] at z0 z1 c0 c1
      clear p0 p1 hb5 HSF HUB HRT
      have hne : w.heap.size ≠ lo := by omega
      go_wp2_with fail
      have hset : ∀ k, k ≠ w.heap.size → ∀ (v0 v1 : Value), ((w5.setCell ⟨w.heap.size, 0, none⟩ v0).setCell ⟨w.heap.size, 1, none⟩ v1).heap[k]? = w5.heap[k]? := by
        intro k hk v0 v1
        iterate 2 rw [Below.heap_setCell _ _ _ _ hk]
      refine bodyPost_ret (read_result _ _ w.heap.size (.slice (some ⟨g, 0, none⟩) 1 cap) (.slice ga 0 gc) rfl rfl ?_ ?_) rfl ⟨_, rfl, ?_, ?_⟩
      iterate 2 (· first | (simp [c0, c1]; done) | (go_simp; done))
      · exact lies_own (own_keep HS5.out.fns fun k h => hset k (by have := (HS5.out.fns.lt k h).1; omega) _ _) (own_keep HS5.out.ins fun k h => hset k (by have := (HS5.out.ins.lt k h).1; omega) _ _)
      · exact (HB5.out.setCell (Nat.le_refl _) _).setCell (Nat.le_refl _) _
end Go.Proofs.YtdjbkppdppdcgaaGreatDoor
