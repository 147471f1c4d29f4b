/- code.opened of a function's first line. -/
import Derived.Test.YtdjbkppdppdcgaaGreatDoorCyG
namespace Go.Proofs.YtdjbkppdppdcgaaGreatDoor
open Go.RowKit

theorem opened_result (tmps : Array Value) (W : World) (g : Nat) (v0 v1 v2 v3 v4 v5 v6 : Value) (h2 : tmps.getD 2 undef = .pointer (some ⟨g, 0, none⟩)) (h3 : tmps.getD 3 undef = v6) (e0 : W.cell? ⟨g, 0, none⟩ = some v0) (e1 : W.cell? ⟨g, 1, none⟩ = some v1) (e2 : W.cell? ⟨g, 2, none⟩ = some v2) (e3 : W.cell? ⟨g, 3, none⟩ = some v3) (e4 : W.cell? ⟨g, 4, none⟩ = some v4) (e5 : W.cell? ⟨g, 5, none⟩ = some v5) :
    (results Tryz.f72 tmps).run Tryz.prog W = .ok (.tuple #[.agg #[v0, v1, v2, v3, v4, v5], v6]) W := by
  have h2' : tmps[2]?.getD undef = .pointer (some ⟨g, 0, none⟩) := by simpa using h2
  have h3' : tmps[3]?.getD undef = v6 := by simpa using h3
  have hres : Tryz.f72.results = #[ResultVar.cell 2 43, ResultVar.tmp 3] := rfl
  simp [results, go_sem, h2', h3', e0, e1, e2, e3, e4, e5]

set_option maxRecDepth 100000 in
set_option maxHeartbeats 8000000 in
/-- The line of a function without a name, that takes nothing. -/
theorem opened_plain {w : World} (hG : Gc w) {SA : Option Addr} {a b c : List UInt8} {x y z : Int} {cap : Nat} (h : RowIs w w.heap.size SA (([[102, 117, 110, 99], [45], a, b, c] : List (List UInt8)).map fun s => Value.string ⟨⟨s⟩⟩)) (hcap : 5 ≤ cap) (hi : intsL [a, b, c] = some [x, y, z]) (hab : a.length ≤ 1000000 ∧ b.length ≤ 1000000 ∧ c.length ≤ 1000000) :
    Calls Tryz.prog 72 #[.slice SA 5 cap] w fun e w' => ∃ (A : Option Addr) (ic : Nat), e = .returned (.tuple #[.agg #[.string ⟨#[]⟩, .int .i64 x, .int .i64 y, .slice A 0 ic, .int .i64 z, .slice none 0 0], .bool true]) ∧ Below w.heap.size w w' := by
  obtain ⟨g, o, rfl, hg, hc⟩ := h.at (by simp)
  have c0 := hc 0 (.string ⟨#[102, 117, 110, 99]⟩) rfl
  simp only [Nat.add_zero] at c0
  have c1 := hc 1 (.string ⟨#[45]⟩) rfl
  have HRW : Hid (RowIs w w.heap.size (some ⟨g, o + 2, none⟩) (([a, b, c] : List (List UInt8)).map fun s => Value.string ⟨⟨s⟩⟩)) := Lib.hid (.inr ⟨g, o + 2, rfl, hg, fun j v hj => by
    have := hc (2 + j) v (by match j, hj with | 0, hj => exact hj | 1, hj => exact hj | 2, hj => exact hj)
    rw [Nat.add_assoc]
    exact this⟩)
  have HG := Lib.hid hG
  have HI := Lib.hid hi
  have HL : Hid (∀ t ∈ [a, b, c], t.length ≤ 140737488351232) := Lib.hid (by
    intro t ht
    rcases List.mem_cons.1 ht with rfl | ht
    · exact Nat.le_trans hab.1 (by decide)
    rcases List.mem_cons.1 ht with rfl | ht
    · exact Nat.le_trans hab.2.1 (by decide)
    · rw [List.mem_singleton.1 ht]; exact Nat.le_trans hab.2.2 (by decide))
  clear h hc hG hi hab
  go_enter Tryz.func72, Tryz.ntmps72
  have hB0 : Below w.heap.size w (w.alloc (.cells #[.string ⟨#[]⟩, .int .i64 0, .int .i64 0, .slice none 0 0, .int .i64 0, .slice none 0 0] 43 (0, 0))) := (Below.refl _ _).alloc (Nat.le_refl _) _
  have hr0 := heap_alloc_new w (.cells #[.string ⟨#[]⟩, .int .i64 0, .int .i64 0, .slice none 0 0, .int .i64 0, .slice none 0 0] 43 (0, 0))
  have HRW0 : Hid (RowIs (w.alloc (.cells #[.string ⟨#[]⟩, .int .i64 0, .int .i64 0, .slice none 0 0, .int .i64 0, .slice none 0 0] 43 (0, 0))) (w.alloc (.cells #[.string ⟨#[]⟩, .int .i64 0, .int .i64 0, .slice none 0 0, .int .i64 0, .slice none 0 0] 43 (0, 0))).heap.size (some ⟨g, o + 2, none⟩) (([a, b, c] : List (List UInt8)).map fun s => Value.string ⟨⟨s⟩⟩)) := Lib.hid ((HRW.out.keep hB0.block).more hB0.size)
  have HG0 := Lib.hid (HG.out.up hB0)
  go_upto_region 4 with (go_at_call 97; refine (ints_some (l := [a, b, c]) HG0.out rfl HRW0.out HI.out HL.out (by simp)).mono ?_; rintro e w2 ⟨v2, rfl, ho2, hb2⟩)
  obtain ⟨ig, icap, rfl, hig1, hig2⟩ := ho2.form (show 0 < [a, b, c].length by simp)
  have hic := (own_row ho2).2
  have j0 := ho2.cells (g := ig) rfl 0 (.int .i64 x) rfl
  have j1 := ho2.cells (g := ig) rfl 1 (.int .i64 y) rfl
  have j2 := ho2.cells (g := ig) rfl 2 (.int .i64 z) rfl
  simp only [Addr.add_lit, Nat.zero_add] at j0 j1 j2
  have hic3 : 3 ≤ icap := hic
  have d1 := old_cell0 (old_cell0 c1 hB0) hb2
  have hr2 := (hb2.block w.heap.size (by rw [World.size_alloc]; omega)).trans hr0
  have hB2 := hB0.trans (hb2.mono hB0.size)
  obtain ⟨rb, hrb⟩ : ∃ rb, w.heap.size = rb := ⟨_, rfl⟩
  simp only [hrb] at hr2 hB2 ⊢
  have hrl := (Array.getElem?_eq_some_iff.1 hr2).1
  have HB := Lib.hid hB2
  have HR := Lib.hid hr2
  clear ho2 hb2 hic hB0 hr0 HRW HRW0 HG HG0 HI HL c0 c1 hg hB2 hr2
  go_upto_region 6 with fail
  go_cut [6] (fun s6 wx => ∃ (xb : Nat) (A : Option Addr) (ic : Nat), s6 = .pointer (some ⟨xb, 0, none⟩) ∧ rb < xb ∧ Hid (Below rb w wx) ∧ Hid (wx.heap[rb]? = some (.cells #[.string ⟨#[]⟩, .int .i64 0, .int .i64 0, .slice none 0 0, .int .i64 0, .slice none 0 0] 43 (0, 0))) ∧ Hid (wx.heap[xb]? = some (.cells #[.string ⟨#[45]⟩, .int .i64 x, .int .i64 y, .slice A 0 ic, .int .i64 z, .slice none 0 0] 43 (0, 0))))
  case first =>
    have HB : Hid (Below rb w w2.drew) := Lib.hid ⟨HB.out.os, HB.out.tape, HB.out.output, HB.out.size, HB.out.block⟩
    have HR := Lib.hid (show w2.drew.heap[rb]? = some (.cells #[.string ⟨#[]⟩, .int .i64 0, .int .i64 0, .slice none 0 0, .int .i64 0, .slice none 0 0] 43 (0, 0)) from HR.out)
    have d1 : w2.drew.cell? ⟨g, o + 1, none⟩ = some (.string ⟨#[45]⟩) := d1
    have i0 : w2.drew.cell? ⟨ig, 0, none⟩ = some (.int .i64 x) := j0
    have i1 : w2.drew.cell? ⟨ig, 1, none⟩ = some (.int .i64 y) := j1
    have i2 : w2.drew.cell? ⟨ig, 2, none⟩ = some (.int .i64 z) := j2
    have hrl : rb < w2.drew.heap.size := hrl
    have hig2 : ig < w2.drew.heap.size := hig2
    clear j0 j1 j2
    rcases Nat.lt_or_eq_of_le hic3 with h3 | rfl
    · refine wp_region_G [] (fun u => u.cell? ⟨g, o + 1, none⟩ = some (.string ⟨#[45]⟩) ∧ u.cell? ⟨ig, 0, none⟩ = some (.int .i64 x) ∧ u.cell? ⟨ig, 1, none⟩ = some (.int .i64 y) ∧ u.cell? ⟨ig, 2, none⟩ = some (.int .i64 z)) (by rfl) ?_ (fun hHeld => ?_)
      · exact ⟨d1, i0, i1, i2⟩
      generalize hwd : World.drew w2 = wd at HB HR d1 i0 i1 i2 hrl hig2 hHeld ⊢
      refine wpAnyG_take (i := 0) (v := ?_) rfl (by kernel_rfl) (by kernel_rfl) (by kernel_rfl) (by kernel_rfl) (by kernel_rfl) (fun _ _ _ h => h) (Or.inl ⟨by rfl, ?_⟩) (by assumption) ?_
      rotate_left
      · (intro w hSw; (try dsimp only at hSw); go_simp; try with_reducible rfl)
      try simp only [Act.put, List.getElem_toArray, List.getElem_cons_zero, List.setIfInBounds_toArray, List.set_cons_zero, List.set_cons_succ]
      refine wpAnyG_take (i := 1) (v := ?_) rfl (by kernel_rfl) (by kernel_rfl) (by kernel_rfl) (by kernel_rfl) (by kernel_rfl) (fun _ _ _ h => h) (Or.inl ⟨by rfl, ?_⟩) (by assumption) ?_
      rotate_left
      · (intro w hSw; (try dsimp only at hSw); go_simp; try with_reducible rfl)
      try simp only [Act.put, List.getElem_toArray, List.getElem_cons_zero, List.getElem_cons_succ, List.setIfInBounds_toArray, List.set_cons_zero, List.set_cons_succ]
      refine wpAnyG_take (i := 2) (v := ?_) rfl (by kernel_rfl) (by kernel_rfl) (by kernel_rfl) (by kernel_rfl) (by kernel_rfl) (fun _ _ _ h => h) (Or.inl ⟨by rfl, ?_⟩) (by assumption) ?_
      rotate_left
      · (intro w hSw; (try dsimp only at hSw); go_simp; try with_reducible rfl)
      try simp only [Act.put, List.getElem_toArray, List.getElem_cons_zero, List.getElem_cons_succ, List.setIfInBounds_toArray, List.set_cons_zero, List.set_cons_succ]
      refine wpAnyG_take (i := 3) (v := ?_) rfl (by kernel_rfl) (by kernel_rfl) (by kernel_rfl) (by kernel_rfl) (by kernel_rfl) (fun _ _ _ h => h) (Or.inl ⟨by rfl, ?_⟩) (by assumption) ?_
      rotate_left
      · (intro w hSw; (try dsimp only at hSw); go_simp; try with_reducible rfl)
      try simp only [Act.put, List.getElem_toArray, List.getElem_cons_zero, List.getElem_cons_succ, List.setIfInBounds_toArray, List.set_cons_zero, List.set_cons_succ]
      refine wpAnyG_take (i := 4) (v := ?_) rfl (by kernel_rfl) (by kernel_rfl) (by kernel_rfl) (by kernel_rfl) (by kernel_rfl) (fun _ _ _ h => h) (Or.inl ⟨by rfl, ?_⟩) (by assumption) ?_
      rotate_left
      · (intro w hSw; (try dsimp only at hSw); go_simp; try with_reducible rfl)
      try simp only [Act.put, List.getElem_toArray, List.getElem_cons_zero, List.getElem_cons_succ, List.setIfInBounds_toArray, List.set_cons_zero, List.set_cons_succ]
      refine wpAnyG_take (i := 5) (v := ?_) rfl (by kernel_rfl) (by kernel_rfl) (by kernel_rfl) (by kernel_rfl) (by kernel_rfl) (fun _ _ _ h => h) (Or.inl ⟨by rfl, ?_⟩) (by assumption) ?_
      rotate_left
      · (intro w hSw; (try dsimp only at hSw); go_simp; try with_reducible rfl)
      try simp only [Act.put, List.getElem_toArray, List.getElem_cons_zero, List.getElem_cons_succ, List.setIfInBounds_toArray, List.set_cons_zero, List.set_cons_succ]
      refine wpAnyG_take (i := 6) (v := ?_) rfl (by kernel_rfl) (by kernel_rfl) (by kernel_rfl) (by kernel_rfl) (by kernel_rfl) (fun _ _ _ h => h) (Or.inl ⟨by rfl, ?_⟩) (by assumption) ?_
      rotate_left
      · (intro w hSw; (try dsimp only at hSw); go_simp; try with_reducible rfl)
      try simp only [Act.put, List.getElem_toArray, List.getElem_cons_zero, List.getElem_cons_succ, List.setIfInBounds_toArray, List.set_cons_zero, List.set_cons_succ]
      refine wpAnyG_take (i := 7) (v := ?_) rfl (by kernel_rfl) (by kernel_rfl) (by kernel_rfl) (by kernel_rfl) (by kernel_rfl) (fun _ _ _ h => h) (Or.inl ⟨by rfl, ?_⟩) (by assumption) ?_
      rotate_left
      · (intro w hSw; (try dsimp only at hSw); go_simp; try with_reducible rfl)
      try simp only [Act.put, List.getElem_toArray, List.getElem_cons_zero, List.getElem_cons_succ, List.setIfInBounds_toArray, List.set_cons_zero, List.set_cons_succ]
      refine wpAnyG_take (i := 8) (v := ?_) rfl (by kernel_rfl) (by kernel_rfl) (by kernel_rfl) (by kernel_rfl) (by kernel_rfl) (fun _ _ _ h => h) (Or.inl ⟨by rfl, ?_⟩) (by assumption) ?_
      rotate_left
      · (intro w hSw; (try dsimp only at hSw); go_simp; try with_reducible rfl)
      try simp only [Act.put, List.getElem_toArray, List.getElem_cons_zero, List.getElem_cons_succ, List.setIfInBounds_toArray, List.set_cons_zero, List.set_cons_succ]
      refine wpAnyG_take (i := 9) (v := ?_) rfl (by kernel_rfl) (by kernel_rfl) (by kernel_rfl) (by kernel_rfl) (by kernel_rfl) (fun _ _ _ h => h) (Or.inl ⟨by rfl, ?_⟩) (by assumption) ?_
      rotate_left
      · (intro w hSw; (try dsimp only at hSw); go_simp; try with_reducible rfl)
      try simp only [Act.put, List.getElem_toArray, List.getElem_cons_zero, List.getElem_cons_succ, List.setIfInBounds_toArray, List.set_cons_zero, List.set_cons_succ]
      refine wpAnyG_take (i := 10) (v := ?_) rfl (by kernel_rfl) (by kernel_rfl) (by kernel_rfl) (by kernel_rfl) (by kernel_rfl) (fun _ _ _ h => h) (Or.inl ⟨by rfl, ?_⟩) (by assumption) ?_
      rotate_left
      · (intro w hSw; (try dsimp only at hSw); go_simp; try with_reducible rfl)
      try simp only [Act.put, List.getElem_toArray, List.getElem_cons_zero, List.getElem_cons_succ, List.setIfInBounds_toArray, List.set_cons_zero, List.set_cons_succ]
      refine wpAnyG_take (i := 11) (v := ?_) rfl (by kernel_rfl) (by kernel_rfl) (by kernel_rfl) (by kernel_rfl) (by kernel_rfl) (fun _ _ _ h => h) (Or.inl ⟨by rfl, ?_⟩) (by assumption) ?_
      rotate_left
      · (intro w hSw; (try dsimp only at hSw); go_simp; try with_reducible rfl)
      try simp only [Act.put, List.getElem_toArray, List.getElem_cons_zero, List.getElem_cons_succ, List.setIfInBounds_toArray, List.set_cons_zero, List.set_cons_succ]
      refine wpAnyG_take (i := 12) (v := ?_) rfl (by kernel_rfl) (by kernel_rfl) (by kernel_rfl) (by kernel_rfl) (by kernel_rfl) (fun _ _ _ h => h) (Or.inl ⟨by rfl, ?_⟩) (by assumption) ?_
      rotate_left
      · (intro w hSw; (try dsimp only at hSw); go_simp; try with_reducible rfl)
      try simp only [Act.put, List.getElem_toArray, List.getElem_cons_zero, List.getElem_cons_succ, List.setIfInBounds_toArray, List.set_cons_zero, List.set_cons_succ]
      refine wpAnyG_take (i := 13) (v := ?_) rfl (by kernel_rfl) (by kernel_rfl) (by kernel_rfl) (by kernel_rfl) (by kernel_rfl) (fun _ _ _ h => h) (Or.inl ⟨by rfl, ?_⟩) (by assumption) ?_
      rotate_left
      · (intro w hSw; (try dsimp only at hSw); go_simp; try with_reducible rfl)
      try simp only [Act.put, List.getElem_toArray, List.getElem_cons_zero, List.getElem_cons_succ, List.setIfInBounds_toArray, List.set_cons_zero, List.set_cons_succ]
      refine wpAnyG_take (i := 14) (v := ?_) rfl (by kernel_rfl) (by kernel_rfl) (by kernel_rfl) (by kernel_rfl) (by kernel_rfl) (fun _ _ _ h => h) (Or.inl ⟨by rfl, ?_⟩) (by assumption) ?_
      rotate_left
      · (intro w hSw; (try dsimp only at hSw); go_simp; try with_reducible rfl)
      try simp only [Act.put, List.getElem_toArray, List.getElem_cons_zero, List.getElem_cons_succ, List.setIfInBounds_toArray, List.set_cons_zero, List.set_cons_succ]
      refine wpAnyG_ready (rs := [15]) (by kernel_rfl) (by simp) ?_
      refine AllReadyG.cons rfl (fun KK hKK => ?_) AllReadyG.nil
      go_simp
      have hle : rb ≤ wd.heap.size := by omega
      have HBo := HB
      refine hKK.out _ _ (⟨(World.cell?_of_block (a := ⟨g, o + 1, none⟩) (heap_alloc_old _ _ (World.block_lt_of_cell? wd _ d1))).trans d1, (World.cell?_of_block (a := ⟨ig, 0, none⟩) (heap_alloc_old _ _ hig2)).trans i0, (World.cell?_of_block (a := ⟨ig, 1, none⟩) (heap_alloc_old _ _ hig2)).trans i1, (World.cell?_of_block (a := ⟨ig, 2, none⟩) (heap_alloc_old _ _ hig2)).trans i2⟩) (fun hHeld => ?_)
      clear hKK KK
      try simp only [Act.put, List.getElem_toArray, List.getElem_cons_zero, List.getElem_cons_succ, List.setIfInBounds_toArray, List.set_cons_zero, List.set_cons_succ]
      refine wpAnyG_ready (rs := [16]) (by kernel_rfl) (by simp) ?_
      refine AllReadyG.cons rfl (fun KK hKK => ?_) AllReadyG.nil
      go_simp
      have hle : rb ≤ wd.heap.size := by omega
      refine hKK.out _ _ (⟨(World.cell?_of_block (a := ⟨g, o + 1, none⟩) (heap_alloc_old _ _ (World.block_lt_of_cell? wd _ d1))).trans d1, (World.cell?_of_block (a := ⟨ig, 0, none⟩) (heap_alloc_old _ _ hig2)).trans i0, (World.cell?_of_block (a := ⟨ig, 1, none⟩) (heap_alloc_old _ _ hig2)).trans i1, (World.cell?_of_block (a := ⟨ig, 2, none⟩) (heap_alloc_old _ _ hig2)).trans i2⟩) (fun hHeld => ?_)
      clear hKK KK
      try simp only [Act.put, List.getElem_toArray, List.getElem_cons_zero, List.getElem_cons_succ, List.setIfInBounds_toArray, List.set_cons_zero, List.set_cons_succ]
      refine wpAnyG_done (by kernel_rfl) ?_ _
      try go_wp2_with fail
      go_meet
      exact ⟨wd.heap.size, _, _, rfl, hrl, Lib.hid (HBo.out.alloc hle _), Lib.hid ((heap_alloc_old _ _ hrl).trans HR.out), Lib.hid (heap_alloc_new _ _)⟩
    · refine wp_region_G [] (fun u => u.cell? ⟨g, o + 1, none⟩ = some (.string ⟨#[45]⟩) ∧ u.cell? ⟨ig, 0, none⟩ = some (.int .i64 x) ∧ u.cell? ⟨ig, 1, none⟩ = some (.int .i64 y) ∧ u.cell? ⟨ig, 2, none⟩ = some (.int .i64 z)) (by rfl) ?_ (fun hHeld => ?_)
      · exact ⟨d1, i0, i1, i2⟩
      generalize hwd : World.drew w2 = wd at HB HR d1 i0 i1 i2 hrl hig2 hHeld ⊢
      refine wpAnyG_take (i := 0) (v := ?_) rfl (by kernel_rfl) (by kernel_rfl) (by kernel_rfl) (by kernel_rfl) (by kernel_rfl) (fun _ _ _ h => h) (Or.inl ⟨by rfl, ?_⟩) (by assumption) ?_
      rotate_left
      · (intro w hSw; (try dsimp only at hSw); go_simp; try with_reducible rfl)
      try simp only [Act.put, List.getElem_toArray, List.getElem_cons_zero, List.setIfInBounds_toArray, List.set_cons_zero, List.set_cons_succ]
      refine wpAnyG_take (i := 1) (v := ?_) rfl (by kernel_rfl) (by kernel_rfl) (by kernel_rfl) (by kernel_rfl) (by kernel_rfl) (fun _ _ _ h => h) (Or.inl ⟨by rfl, ?_⟩) (by assumption) ?_
      rotate_left
      · (intro w hSw; (try dsimp only at hSw); go_simp; try with_reducible rfl)
      try simp only [Act.put, List.getElem_toArray, List.getElem_cons_zero, List.getElem_cons_succ, List.setIfInBounds_toArray, List.set_cons_zero, List.set_cons_succ]
      refine wpAnyG_take (i := 2) (v := ?_) rfl (by kernel_rfl) (by kernel_rfl) (by kernel_rfl) (by kernel_rfl) (by kernel_rfl) (fun _ _ _ h => h) (Or.inl ⟨by rfl, ?_⟩) (by assumption) ?_
      rotate_left
      · (intro w hSw; (try dsimp only at hSw); go_simp; try with_reducible rfl)
      try simp only [Act.put, List.getElem_toArray, List.getElem_cons_zero, List.getElem_cons_succ, List.setIfInBounds_toArray, List.set_cons_zero, List.set_cons_succ]
      refine wpAnyG_take (i := 3) (v := ?_) rfl (by kernel_rfl) (by kernel_rfl) (by kernel_rfl) (by kernel_rfl) (by kernel_rfl) (fun _ _ _ h => h) (Or.inl ⟨by rfl, ?_⟩) (by assumption) ?_
      rotate_left
      · (intro w hSw; (try dsimp only at hSw); go_simp; try with_reducible rfl)
      try simp only [Act.put, List.getElem_toArray, List.getElem_cons_zero, List.getElem_cons_succ, List.setIfInBounds_toArray, List.set_cons_zero, List.set_cons_succ]
      refine wpAnyG_take (i := 4) (v := ?_) rfl (by kernel_rfl) (by kernel_rfl) (by kernel_rfl) (by kernel_rfl) (by kernel_rfl) (fun _ _ _ h => h) (Or.inl ⟨by rfl, ?_⟩) (by assumption) ?_
      rotate_left
      · (intro w hSw; (try dsimp only at hSw); go_simp; try with_reducible rfl)
      try simp only [Act.put, List.getElem_toArray, List.getElem_cons_zero, List.getElem_cons_succ, List.setIfInBounds_toArray, List.set_cons_zero, List.set_cons_succ]
      refine wpAnyG_take (i := 5) (v := ?_) rfl (by kernel_rfl) (by kernel_rfl) (by kernel_rfl) (by kernel_rfl) (by kernel_rfl) (fun _ _ _ h => h) (Or.inl ⟨by rfl, ?_⟩) (by assumption) ?_
      rotate_left
      · (intro w hSw; (try dsimp only at hSw); go_simp; try with_reducible rfl)
      try simp only [Act.put, List.getElem_toArray, List.getElem_cons_zero, List.getElem_cons_succ, List.setIfInBounds_toArray, List.set_cons_zero, List.set_cons_succ]
      refine wpAnyG_take (i := 6) (v := ?_) rfl (by kernel_rfl) (by kernel_rfl) (by kernel_rfl) (by kernel_rfl) (by kernel_rfl) (fun _ _ _ h => h) (Or.inl ⟨by rfl, ?_⟩) (by assumption) ?_
      rotate_left
      · (intro w hSw; (try dsimp only at hSw); go_simp; try with_reducible rfl)
      try simp only [Act.put, List.getElem_toArray, List.getElem_cons_zero, List.getElem_cons_succ, List.setIfInBounds_toArray, List.set_cons_zero, List.set_cons_succ]
      refine wpAnyG_take (i := 7) (v := ?_) rfl (by kernel_rfl) (by kernel_rfl) (by kernel_rfl) (by kernel_rfl) (by kernel_rfl) (fun _ _ _ h => h) (Or.inl ⟨by rfl, ?_⟩) (by assumption) ?_
      rotate_left
      · (intro w hSw; (try dsimp only at hSw); go_simp; try with_reducible rfl)
      try simp only [Act.put, List.getElem_toArray, List.getElem_cons_zero, List.getElem_cons_succ, List.setIfInBounds_toArray, List.set_cons_zero, List.set_cons_succ]
      refine wpAnyG_take (i := 8) (v := ?_) rfl (by kernel_rfl) (by kernel_rfl) (by kernel_rfl) (by kernel_rfl) (by kernel_rfl) (fun _ _ _ h => h) (Or.inl ⟨by rfl, ?_⟩) (by assumption) ?_
      rotate_left
      · (intro w hSw; (try dsimp only at hSw); go_simp; try with_reducible rfl)
      try simp only [Act.put, List.getElem_toArray, List.getElem_cons_zero, List.getElem_cons_succ, List.setIfInBounds_toArray, List.set_cons_zero, List.set_cons_succ]
      refine wpAnyG_take (i := 9) (v := ?_) rfl (by kernel_rfl) (by kernel_rfl) (by kernel_rfl) (by kernel_rfl) (by kernel_rfl) (fun _ _ _ h => h) (Or.inl ⟨by rfl, ?_⟩) (by assumption) ?_
      rotate_left
      · (intro w hSw; (try dsimp only at hSw); go_simp; try with_reducible rfl)
      try simp only [Act.put, List.getElem_toArray, List.getElem_cons_zero, List.getElem_cons_succ, List.setIfInBounds_toArray, List.set_cons_zero, List.set_cons_succ]
      refine wpAnyG_take (i := 10) (v := ?_) rfl (by kernel_rfl) (by kernel_rfl) (by kernel_rfl) (by kernel_rfl) (by kernel_rfl) (fun _ _ _ h => h) (Or.inl ⟨by rfl, ?_⟩) (by assumption) ?_
      rotate_left
      · (intro w hSw; (try dsimp only at hSw); go_simp; try with_reducible rfl)
      try simp only [Act.put, List.getElem_toArray, List.getElem_cons_zero, List.getElem_cons_succ, List.setIfInBounds_toArray, List.set_cons_zero, List.set_cons_succ]
      refine wpAnyG_take (i := 11) (v := ?_) rfl (by kernel_rfl) (by kernel_rfl) (by kernel_rfl) (by kernel_rfl) (by kernel_rfl) (fun _ _ _ h => h) (Or.inl ⟨by rfl, ?_⟩) (by assumption) ?_
      rotate_left
      · (intro w hSw; (try dsimp only at hSw); go_simp; try with_reducible rfl)
      try simp only [Act.put, List.getElem_toArray, List.getElem_cons_zero, List.getElem_cons_succ, List.setIfInBounds_toArray, List.set_cons_zero, List.set_cons_succ]
      refine wpAnyG_take (i := 12) (v := ?_) rfl (by kernel_rfl) (by kernel_rfl) (by kernel_rfl) (by kernel_rfl) (by kernel_rfl) (fun _ _ _ h => h) (Or.inl ⟨by rfl, ?_⟩) (by assumption) ?_
      rotate_left
      · (intro w hSw; (try dsimp only at hSw); go_simp; try with_reducible rfl)
      try simp only [Act.put, List.getElem_toArray, List.getElem_cons_zero, List.getElem_cons_succ, List.setIfInBounds_toArray, List.set_cons_zero, List.set_cons_succ]
      refine wpAnyG_take (i := 13) (v := ?_) rfl (by kernel_rfl) (by kernel_rfl) (by kernel_rfl) (by kernel_rfl) (by kernel_rfl) (fun _ _ _ h => h) (Or.inl ⟨by rfl, ?_⟩) (by assumption) ?_
      rotate_left
      · (intro w hSw; (try dsimp only at hSw); go_simp; try with_reducible rfl)
      try simp only [Act.put, List.getElem_toArray, List.getElem_cons_zero, List.getElem_cons_succ, List.setIfInBounds_toArray, List.set_cons_zero, List.set_cons_succ]
      refine wpAnyG_take (i := 14) (v := ?_) rfl (by kernel_rfl) (by kernel_rfl) (by kernel_rfl) (by kernel_rfl) (by kernel_rfl) (fun _ _ _ h => h) (Or.inl ⟨by rfl, ?_⟩) (by assumption) ?_
      rotate_left
      · (intro w hSw; (try dsimp only at hSw); go_simp; try with_reducible rfl)
      try simp only [Act.put, List.getElem_toArray, List.getElem_cons_zero, List.getElem_cons_succ, List.setIfInBounds_toArray, List.set_cons_zero, List.set_cons_succ]
      refine wpAnyG_ready (rs := [15]) (by kernel_rfl) (by simp) ?_
      refine AllReadyG.cons rfl (fun KK hKK => ?_) AllReadyG.nil
      go_simp
      have hle : rb ≤ wd.heap.size := by omega
      have HBo := HB
      refine hKK.out _ _ (⟨(World.cell?_of_block (a := ⟨g, o + 1, none⟩) (heap_alloc_old _ _ (World.block_lt_of_cell? wd _ d1))).trans d1, (World.cell?_of_block (a := ⟨ig, 0, none⟩) (heap_alloc_old _ _ hig2)).trans i0, (World.cell?_of_block (a := ⟨ig, 1, none⟩) (heap_alloc_old _ _ hig2)).trans i1, (World.cell?_of_block (a := ⟨ig, 2, none⟩) (heap_alloc_old _ _ hig2)).trans i2⟩) (fun hHeld => ?_)
      clear hKK KK
      try simp only [Act.put, List.getElem_toArray, List.getElem_cons_zero, List.getElem_cons_succ, List.setIfInBounds_toArray, List.set_cons_zero, List.set_cons_succ]
      refine wpAnyG_ready (rs := [16]) (by kernel_rfl) (by simp) ?_
      refine AllReadyG.cons rfl (fun KK hKK => ?_) AllReadyG.nil
      go_simp
      have hle : rb ≤ wd.heap.size := by omega
      refine hKK.out _ _ (⟨(World.cell?_of_block (a := ⟨g, o + 1, none⟩) (heap_alloc_old _ _ (World.block_lt_of_cell? wd _ d1))).trans d1, (World.cell?_of_block (a := ⟨ig, 0, none⟩) (heap_alloc_old _ _ hig2)).trans i0, (World.cell?_of_block (a := ⟨ig, 1, none⟩) (heap_alloc_old _ _ hig2)).trans i1, (World.cell?_of_block (a := ⟨ig, 2, none⟩) (heap_alloc_old _ _ hig2)).trans i2⟩) (fun hHeld => ?_)
      clear hKK KK
      try simp only [Act.put, List.getElem_toArray, List.getElem_cons_zero, List.getElem_cons_succ, List.setIfInBounds_toArray, List.set_cons_zero, List.set_cons_succ]
      refine wpAnyG_done (by kernel_rfl) ?_ _
      try go_wp2_with fail
      go_meet
      exact ⟨wd.heap.size, _, _, rfl, hrl, Lib.hid (HBo.out.alloc hle _), Lib.hid ((heap_alloc_old _ _ hrl).trans HR.out), Lib.hid (heap_alloc_new _ _)⟩
  case rest =>
    clear HB HR d1 j0 j1 j2
    obtain ⟨xb, A, ic, rfl, hrx, HB, HR, HX⟩ := hcut
    have y0 := cell_of_row wc xb 0 _ _ _ HX.out
    have y1 := cell_of_row wc xb 1 _ _ _ HX.out
    have y2 := cell_of_row wc xb 2 _ _ _ HX.out
    have y3 := cell_of_row wc xb 3 _ _ _ HX.out
    have y4 := cell_of_row wc xb 4 _ _ _ HX.out
    have y5 := cell_of_row wc xb 5 _ _ _ HX.out
    have g0 := frozen_of_row wc xb 0 _ _ HX.out
    have r0 := cell_of_row wc rb 0 _ _ _ HR.out
    have r1 := cell_of_row wc rb 1 _ _ _ HR.out
    have r2 := cell_of_row wc rb 2 _ _ _ HR.out
    have r3 := cell_of_row wc rb 3 _ _ _ HR.out
    have r4 := cell_of_row wc rb 4 _ _ _ HR.out
    have r5 := cell_of_row wc rb 5 _ _ _ HR.out
    have f0 := frozen_of_row wc rb 0 _ _ HR.out
    have f1 := frozen_of_row wc rb 1 _ _ HR.out
    have f2 := frozen_of_row wc rb 2 _ _ HR.out
    have f3 := frozen_of_row wc rb 3 _ _ HR.out
    have f4 := frozen_of_row wc rb 4 _ _ HR.out
    have f5 := frozen_of_row wc rb 5 _ _ HR.out
    simp only [List.getElem?_toArray, List.getElem?_cons_zero, List.getElem?_cons_succ] at y0 y1 y2 y3 y4 y5 r0 r1 r2 r3 r4 r5
    have hxr : xb ≠ rb := by omega
    have hrx2 : rb ≠ xb := by omega
    go_wp2_with fail
    refine bodyPost_ret (opened_result _ _ rb (.string ⟨#[]⟩) (.int .i64 x) (.int .i64 y) (.slice A 0 ic) (.int .i64 z) (.slice none 0 0) (.bool true) rfl rfl ?_ ?_ ?_ ?_ ?_ ?_) rfl ⟨A, ic, rfl, ?_⟩
    iterate 6 (· first | (simp [r0, r1, r2, r3, r4, r5]; done) | (go_simp; done))
    · rw [hrb]
      have hle : rb ≤ xb := by omega
      exact ((((((HB.out.setCell hle _).setCell (Nat.le_refl _) _).setCell (Nat.le_refl _) _).setCell (Nat.le_refl _) _).setCell (Nat.le_refl _) _).setCell (Nat.le_refl _) _).setCell (Nat.le_refl _) _
end Go.Proofs.YtdjbkppdppdcgaaGreatDoor
