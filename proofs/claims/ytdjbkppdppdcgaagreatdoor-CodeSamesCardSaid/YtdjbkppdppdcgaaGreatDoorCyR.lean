/- The law CodeSames: for every two programs it answers true. -/
import Derived.Test.YtdjbkppdppdcgaaGreatDoorCyQ
namespace Go.Proofs.YtdjbkppdppdcgaaGreatDoor
open Go.RowKit

set_option maxRecDepth 100000 in
set_option maxHeartbeats 8000000 in
theorem CodeSames_any {w : World} (hG : Gc w) {p q : Cp} {v u : Value} (h : LiesC w w.heap.size p v) (h' : LiesC w w.heap.size q u) (hok : CpOk p) (hok' : CpOk q) :
    Calls Tryz.prog 3 #[v, u] w fun e w' => e = .returned (.bool true) ∧ Below w.heap.size w w' := by
  obtain ⟨n, m, fa, fc, ga, gc, xs, rfl, _, _, _⟩ := h.pieces
  obtain ⟨n', m', fa', fc', ga', gc', ys, rfl, _, _, _⟩ := h'.pieces
  have HP := Lib.hid h
  have HQ := Lib.hid h'
  have HOK := Lib.hid hok
  have HOK' := Lib.hid hok'
  have HG := Lib.hid hG
  have hW : ∀ X : World, X = (w.alloc (.cells #[.slice fa n fc, .slice ga m gc] 25 (0, 0))).alloc (.cells #[.slice fa' n' fc', .slice ga' m' gc'] 25 (0, 0)) → Below w.heap.size w X ∧ X.heap[w.heap.size]? = some (.cells #[.slice fa n fc, .slice ga m gc] 25 (0, 0)) ∧ X.heap[w.heap.size + 1]? = some (.cells #[.slice fa' n' fc', .slice ga' m' gc'] 25 (0, 0)) := by
    rintro X rfl
    have h2 := heap_alloc_new (w.alloc (.cells #[.slice fa n fc, .slice ga m gc] 25 (0, 0))) (.cells #[.slice fa' n' fc', .slice ga' m' gc'] 25 (0, 0))
    rw [World.size_alloc] at h2
    exact ⟨((Below.refl _ _).alloc (Nat.le_refl _) _).alloc (by simp) _, (heap_alloc_old _ _ (by simp)).trans (heap_alloc_new w _), h2⟩
  have HW := Lib.hid hW
  clear h h' hok hok' hG hW
  go_enter Tryz.func3, Tryz.ntmps3
  go_upto_region 1 with fail
  obtain ⟨hl, ha, hb⟩ := HW.out _ rfl
  obtain ⟨W1, hW1⟩ : ∃ W1, (w.alloc (.cells #[.slice fa n fc, .slice ga m gc] 25 (0, 0))).alloc (.cells #[.slice fa' n' fc', .slice ga' m' gc'] 25 (0, 0)) = W1 := ⟨_, rfl⟩
  obtain ⟨ab, hab⟩ : ∃ ab, w.heap.size = ab := ⟨_, rfl⟩
  obtain ⟨bb, hbb⟩ : ∃ bb, ab + 1 = bb := ⟨_, rfl⟩
  simp only [hW1, hab] at hl ha hb ⊢
  simp only [hbb] at hb ⊢
  have HL : Hid (Below w.heap.size w W1) := Lib.hid (by rw [hab]; exact hl)
  have a0 := cell_of_row W1 ab 0 _ _ _ ha
  have a1 := cell_of_row W1 ab 1 _ _ _ ha
  have b0 := cell_of_row W1 bb 0 _ _ _ hb
  have b1 := cell_of_row W1 bb 1 _ _ _ hb
  simp only [List.getElem?_toArray, List.getElem?_cons_zero, List.getElem?_cons_succ] at a0 a1 b0 b1
  have HC := Lib.hid (And.intro a0 (And.intro a1 (And.intro b0 b1)))
  clear hW1 hl ha hb HW a0 a1 b0 b1
  go_upto_region 2 with (go_at_call 7; refine (known_any (HG.out.up HL.out)).mono ?_; rintro e w2 ⟨rfl, hb2⟩)
  have HL2 := Lib.hid (HL.out.trans (hb2.mono HL.out.size))
  have a0 := old_cell0 HC.out.1 hb2
  have a1 := old_cell0 HC.out.2.1 hb2
  go_upto_region 3 with (go_at_call 8; refine (wide_any (HP.out.up HL2.out) HOK.out).mono ?_; rintro e w3 ⟨wp, rfl, hwp, hb3⟩)
  have hb23 := hb2.trans (hb3.mono hb2.size)
  have HL3 := Lib.hid (HL2.out.trans (hb3.mono HL2.out.size))
  have b0 := old_cell0 HC.out.2.2.1 hb23
  have b1 := old_cell0 HC.out.2.2.2 hb23
  clear a0 a1
  go_upto_region 4 with (go_at_call 8; refine (wide_any (HQ.out.up HL3.out) HOK'.out).mono ?_; rintro e w4 ⟨wq, rfl, hwq, hb4⟩)
  have hb24 := hb23.trans (hb4.mono hb23.size)
  have HL4 := Lib.hid (HL3.out.trans (hb4.mono HL3.out.size))
  have HC4 := Lib.hid (And.intro (old_cell0 HC.out.1 hb24) (And.intro (old_cell0 HC.out.2.1 hb24) (And.intro (old_cell0 HC.out.2.2.1 hb24) (old_cell0 HC.out.2.2.2 hb24))))
  clear hb2 hb3 hb4 hb23 hb24 b0 b1 HL HL2 HL3 HC
  cases wp with
  | true =>
    go_wp2_with fail
    go_ret
    first | exact ⟨rfl, HL4.out⟩ | exact ⟨rfl, by rw [← hab]; exact HL4.out⟩
  | false =>
    cases wq with
    | true =>
      go_wp2_with fail
      go_ret
      first | exact ⟨rfl, HL4.out⟩ | exact ⟨rfl, by rw [← hab]; exact HL4.out⟩
    | false =>
      obtain ⟨a0, a1, b0, b1⟩ := HC4.out
      have HSM := Lib.hid (hwp rfl)
      clear hwp hwq
      obtain ⟨R, hR⟩ : ∃ R, sameC p q = R := ⟨_, rfl⟩
      have hS0 := same13_any (HP.out.up HL4.out) (HQ.out.up HL4.out) HOK.out
      rw [hR] at hS0
      have HS0 := Lib.hid hS0
      have HS1 : Hid (∀ V, Below w.heap.size w V → Calls Tryz.prog 10 #[.agg #[.slice fa n fc, .slice ga m gc], .agg #[.slice fa' n' fc', .slice ga' m' gc']] V fun e V' => e = .returned (.bool R) ∧ Below V.heap.size V V') := Lib.hid fun V hV => by
        have := sameC_any (HP.out.up hV) (HQ.out.up hV) HOK.out
        rw [hR] at this
        exact this
      have HS2 : Hid (∀ V, Below w.heap.size w V → Calls Tryz.prog 10 #[.agg #[.slice fa' n' fc', .slice ga' m' gc'], .agg #[.slice fa n fc, .slice ga m gc]] V fun e V' => e = .returned (.bool R) ∧ Below V.heap.size V V') := Lib.hid fun V hV => by
        have := sameC_any (HQ.out.up hV) (HP.out.up hV) HOK'.out
        rw [sameC_comm, hR] at this
        exact this
      have HLN : Hid (∀ V, Below w.heap.size w V → Calls Tryz.prog 11 #[.agg #[.slice fa n fc, .slice ga m gc]] V fun e w' => ∃ u, e = .returned u ∧ LiesC w' w'.heap.size p u ∧ Below V.heap.size V w') := Lib.hid fun V hV => lent_any (HP.out.up hV) HOK.out HSM.out
      have HS3 : Hid (∀ V z, Below w.heap.size w V → LiesC V V.heap.size p z → Calls Tryz.prog 10 #[.agg #[.slice fa n fc, .slice ga m gc], z] V fun e V' => e = .returned (.bool true) ∧ Below V.heap.size V V') := Lib.hid fun V z hV hz => by
        have := sameC_any (HP.out.up hV) hz HOK.out
        rw [sameC_self] at this
        exact this
      clear hS0 hR
      go_upto_region 7 with (go_at_call 9; refine HS0.out.mono ?_; rintro e w5 ⟨rfl, hb5⟩)
      have c0 := old_cell0 a0 hb5
      have c1 := old_cell0 a1 hb5
      have d0 := old_cell0 b0 hb5
      have d1 := old_cell0 b1 hb5
      have HB5 := Lib.hid (HL4.out.trans (hb5.mono HL4.out.size))
      have hsz : w5.heap.size = w5.drew.heap.size := rfl
      have HB : Hid (Below w.heap.size w w5.drew) := Lib.hid ⟨HB5.out.os, HB5.out.tape, HB5.out.output, HB5.out.size, HB5.out.block⟩
      have y0 : w5.drew.cell? ⟨ab, 0, none⟩ = some (.slice fa n fc) := c0
      have y1 : w5.drew.cell? ⟨ab, 1, none⟩ = some (.slice ga m gc) := c1
      have z0 : w5.drew.cell? ⟨bb, 0, none⟩ = some (.slice fa' n' fc') := d0
      have z1 : w5.drew.cell? ⟨bb, 1, none⟩ = some (.slice ga' m' gc') := d1
      clear hsz HC4 HL4 a0 a1 b0 b1 c0 c1 d0 d1 hb5 HB5 HS0 HSM HP HQ HOK HOK' HG
      cases R
      · refine wp_region_G [] (fun y => y.cell? ⟨ab, 0, none⟩ = some (.slice fa n fc) ∧ y.cell? ⟨ab, 1, none⟩ = some (.slice ga m gc) ∧ y.cell? ⟨bb, 0, none⟩ = some (.slice fa' n' fc') ∧ y.cell? ⟨bb, 1, none⟩ = some (.slice ga' m' gc')) (by rfl) ?_ (fun hHeld => ?_)
        · exact ⟨y0, y1, z0, z1⟩
        generalize hwd : World.drew w5 = wd at HB y0 y1 z0 z1 hHeld ⊢
        refine wpAnyG_take (i := 0) (v := ?_) rfl (by kernel_rfl) (by kernel_rfl) (by kernel_rfl) (by kernel_rfl) (by kernel_rfl) (fun _ _ _ h => h) (Or.inl ⟨by rfl, ?_⟩) (by assumption) ?_
        rotate_left
        · (intro w hSw; (try dsimp only at hSw); go_simp; try with_reducible rfl)
        try simp only [Act.put, List.getElem_toArray, List.getElem_cons_zero, List.setIfInBounds_toArray, List.set_cons_zero, List.set_cons_succ]
        refine wpAnyG_take (i := 1) (v := ?_) rfl (by kernel_rfl) (by kernel_rfl) (by kernel_rfl) (by kernel_rfl) (by kernel_rfl) (fun _ _ _ h => h) (Or.inl ⟨by rfl, ?_⟩) (by assumption) ?_
        rotate_left
        · (intro w hSw; (try dsimp only at hSw); go_simp; try with_reducible rfl)
        try simp only [Act.put, List.getElem_toArray, List.getElem_cons_zero, List.getElem_cons_succ, List.setIfInBounds_toArray, List.set_cons_zero, List.set_cons_succ]
        refine wpAnyG_take (i := 3) (v := ?_) rfl (by kernel_rfl) (by kernel_rfl) (by kernel_rfl) (by kernel_rfl) (by kernel_rfl) (fun _ _ _ h => h) (Or.inl ⟨by rfl, ?_⟩) (by assumption) ?_
        rotate_left
        · (intro w hSw; (try dsimp only at hSw); go_simp; try with_reducible rfl)
        try simp only [Act.put, List.getElem_toArray, List.getElem_cons_zero, List.getElem_cons_succ, List.setIfInBounds_toArray, List.set_cons_zero, List.set_cons_succ]
        refine wpAnyG_ready (rs := [2]) (by kernel_rfl) (by simp) ?_
        refine AllReadyG.cons rfl (fun KK hKK => ?_) AllReadyG.nil
        go_simp
        go_at_call 10
        refine (HS1.out _ HB.out).mono ?_
        rintro e wz ⟨rfl, hbz⟩
        have y0 := old_cell0 y0 hbz
        have y1 := old_cell0 y1 hbz
        have z0 := old_cell0 z0 hbz
        have z1 := old_cell0 z1 hbz
        have HB := Lib.hid (HB.out.trans (hbz.mono HB.out.size))
        clear hbz
        try dsimp only
        refine hKK.out _ _ (⟨y0, y1, z0, z1⟩) (fun hHeld => ?_)
        clear hKK KK
        try simp only [Act.put, List.getElem_toArray, List.getElem_cons_zero, List.getElem_cons_succ, List.setIfInBounds_toArray, List.set_cons_zero, List.set_cons_succ]
        refine wpAnyG_take (i := 4) (v := ?_) rfl (by kernel_rfl) (by kernel_rfl) (by kernel_rfl) (by kernel_rfl) (by kernel_rfl) (fun _ _ _ h => h) (Or.inl ⟨by rfl, ?_⟩) (by assumption) ?_
        rotate_left
        · (intro w hSw; (try dsimp only at hSw); go_simp; try with_reducible rfl)
        try simp only [Act.put, List.getElem_toArray, List.getElem_cons_zero, List.getElem_cons_succ, List.setIfInBounds_toArray, List.set_cons_zero, List.set_cons_succ]
        refine wpAnyG_take (i := 5) (v := ?_) rfl (by kernel_rfl) (by kernel_rfl) (by kernel_rfl) (by kernel_rfl) (by kernel_rfl) (fun _ _ _ h => h) (Or.inl ⟨by rfl, ?_⟩) (by assumption) ?_
        rotate_left
        · (intro w hSw; (try dsimp only at hSw); go_simp; try with_reducible rfl)
        try simp only [Act.put, List.getElem_toArray, List.getElem_cons_zero, List.getElem_cons_succ, List.setIfInBounds_toArray, List.set_cons_zero, List.set_cons_succ]
        refine wpAnyG_take (i := 6) (v := ?_) rfl (by kernel_rfl) (by kernel_rfl) (by kernel_rfl) (by kernel_rfl) (by kernel_rfl) (fun _ _ _ h => h) (Or.inl ⟨by rfl, ?_⟩) (by assumption) ?_
        rotate_left
        · (intro w hSw; (try dsimp only at hSw); go_simp; try with_reducible rfl)
        try simp only [Act.put, List.getElem_toArray, List.getElem_cons_zero, List.getElem_cons_succ, List.setIfInBounds_toArray, List.set_cons_zero, List.set_cons_succ]
        refine wpAnyG_take (i := 7) (v := ?_) rfl (by kernel_rfl) (by kernel_rfl) (by kernel_rfl) (by kernel_rfl) (by kernel_rfl) (fun _ _ _ h => h) (Or.inl ⟨by rfl, ?_⟩) (by assumption) ?_
        rotate_left
        · (intro w hSw; (try dsimp only at hSw); go_simp; try with_reducible rfl)
        try simp only [Act.put, List.getElem_toArray, List.getElem_cons_zero, List.getElem_cons_succ, List.setIfInBounds_toArray, List.set_cons_zero, List.set_cons_succ]
        refine wpAnyG_take (i := 9) (v := ?_) rfl (by kernel_rfl) (by kernel_rfl) (by kernel_rfl) (by kernel_rfl) (by kernel_rfl) (fun _ _ _ h => h) (Or.inl ⟨by rfl, ?_⟩) (by assumption) ?_
        rotate_left
        · (intro w hSw; (try dsimp only at hSw); go_simp; try with_reducible rfl)
        try simp only [Act.put, List.getElem_toArray, List.getElem_cons_zero, List.getElem_cons_succ, List.setIfInBounds_toArray, List.set_cons_zero, List.set_cons_succ]
        refine wpAnyG_ready (rs := [8]) (by kernel_rfl) (by simp) ?_
        refine AllReadyG.cons rfl (fun KK hKK => ?_) AllReadyG.nil
        go_simp
        go_at_call 10
        refine (HS2.out _ HB.out).mono ?_
        rintro e wz ⟨rfl, hbz⟩
        have y0 := old_cell0 y0 hbz
        have y1 := old_cell0 y1 hbz
        have z0 := old_cell0 z0 hbz
        have z1 := old_cell0 z1 hbz
        have HB := Lib.hid (HB.out.trans (hbz.mono HB.out.size))
        clear hbz
        try dsimp only
        refine hKK.out _ _ (⟨y0, y1, z0, z1⟩) (fun hHeld => ?_)
        clear hKK KK
        try simp only [Act.put, List.getElem_toArray, List.getElem_cons_zero, List.getElem_cons_succ, List.setIfInBounds_toArray, List.set_cons_zero, List.set_cons_succ]
        refine wpAnyG_take (i := 10) (v := ?_) rfl (by kernel_rfl) (by kernel_rfl) (by kernel_rfl) (by kernel_rfl) (by kernel_rfl) (fun _ _ _ h => h) (Or.inl ⟨by rfl, ?_⟩) (by assumption) ?_
        rotate_left
        · (intro w hSw; (try dsimp only at hSw); go_simp; try with_reducible rfl)
        try simp only [Act.put, List.getElem_toArray, List.getElem_cons_zero, List.getElem_cons_succ, List.setIfInBounds_toArray, List.set_cons_zero, List.set_cons_succ]
        refine wpAnyG_take (i := 11) (v := ?_) rfl (by kernel_rfl) (by kernel_rfl) (by kernel_rfl) (by kernel_rfl) (by kernel_rfl) (fun _ _ _ h => h) (Or.inl ⟨by rfl, ?_⟩) (by assumption) ?_
        rotate_left
        · (intro w hSw; (try dsimp only at hSw); go_simp; try with_reducible rfl)
        try simp only [Act.put, List.getElem_toArray, List.getElem_cons_zero, List.getElem_cons_succ, List.setIfInBounds_toArray, List.set_cons_zero, List.set_cons_succ]
        refine wpAnyG_take (i := 12) (v := ?_) rfl (by kernel_rfl) (by kernel_rfl) (by kernel_rfl) (by kernel_rfl) (by kernel_rfl) (fun _ _ _ h => h) (Or.inl ⟨by rfl, ?_⟩) (by assumption) ?_
        rotate_left
        · (intro w hSw; (try dsimp only at hSw); go_simp; try with_reducible rfl)
        try simp only [Act.put, List.getElem_toArray, List.getElem_cons_zero, List.getElem_cons_succ, List.setIfInBounds_toArray, List.set_cons_zero, List.set_cons_succ]
        refine wpAnyG_take (i := 13) (v := ?_) rfl (by kernel_rfl) (by kernel_rfl) (by kernel_rfl) (by kernel_rfl) (by kernel_rfl) (fun _ _ _ h => h) (Or.inl ⟨by rfl, ?_⟩) (by assumption) ?_
        rotate_left
        · (intro w hSw; (try dsimp only at hSw); go_simp; try with_reducible rfl)
        try simp only [Act.put, List.getElem_toArray, List.getElem_cons_zero, List.getElem_cons_succ, List.setIfInBounds_toArray, List.set_cons_zero, List.set_cons_succ]
        refine wpAnyG_take (i := 14) (v := ?_) rfl (by kernel_rfl) (by kernel_rfl) (by kernel_rfl) (by kernel_rfl) (by kernel_rfl) (fun _ _ _ h => h) (Or.inl ⟨by rfl, ?_⟩) (by assumption) ?_
        rotate_left
        · (intro w hSw; (try dsimp only at hSw); go_simp; try with_reducible rfl)
        try simp only [Act.put, List.getElem_toArray, List.getElem_cons_zero, List.getElem_cons_succ, List.setIfInBounds_toArray, List.set_cons_zero, List.set_cons_succ]
        refine wpAnyG_ready (rs := [15]) (by kernel_rfl) (by simp) ?_
        refine AllReadyG.cons rfl (fun KK hKK => ?_) AllReadyG.nil
        go_simp
        go_at_call 11
        refine (HLN.out _ HB.out).mono ?_
        rintro e wz ⟨ul, rfl, hul, hbz⟩
        have HU := Lib.hid hul
        clear hul
        have y0 := old_cell0 y0 hbz
        have y1 := old_cell0 y1 hbz
        have z0 := old_cell0 z0 hbz
        have z1 := old_cell0 z1 hbz
        have HB := Lib.hid (HB.out.trans (hbz.mono HB.out.size))
        clear hbz
        try dsimp only
        refine hKK.out _ _ (⟨y0, y1, z0, z1⟩) (fun hHeld => ?_)
        clear hKK KK
        try simp only [Act.put, List.getElem_toArray, List.getElem_cons_zero, List.getElem_cons_succ, List.setIfInBounds_toArray, List.set_cons_zero, List.set_cons_succ]
        refine wpAnyG_ready (rs := [16]) (by kernel_rfl) (by simp) ?_
        refine AllReadyG.cons rfl (fun KK hKK => ?_) AllReadyG.nil
        go_simp
        go_at_call 10
        refine (HS3.out _ _ HB.out HU.out).mono ?_
        rintro e wz ⟨rfl, hbz⟩
        have y0 := old_cell0 y0 hbz
        have y1 := old_cell0 y1 hbz
        have z0 := old_cell0 z0 hbz
        have z1 := old_cell0 z1 hbz
        have HB := Lib.hid (HB.out.trans (hbz.mono HB.out.size))
        clear hbz
        try dsimp only
        refine hKK.out _ _ (⟨y0, y1, z0, z1⟩) (fun hHeld => ?_)
        clear hKK KK
        try simp only [Act.put, List.getElem_toArray, List.getElem_cons_zero, List.getElem_cons_succ, List.setIfInBounds_toArray, List.set_cons_zero, List.set_cons_succ]
        refine wpAnyG_take (i := 17) (v := ?_) rfl (by kernel_rfl) (by kernel_rfl) (by kernel_rfl) (by kernel_rfl) (by kernel_rfl) (fun _ _ _ h => h) (Or.inl ⟨by rfl, ?_⟩) (by assumption) ?_
        rotate_left
        · (intro w hSw; (try dsimp only at hSw); go_simp; try with_reducible rfl)
        try simp only [Act.put, List.getElem_toArray, List.getElem_cons_zero, List.getElem_cons_succ, List.setIfInBounds_toArray, List.set_cons_zero, List.set_cons_succ]
        refine wpAnyG_take (i := 18) (v := ?_) rfl (by kernel_rfl) (by kernel_rfl) (by kernel_rfl) (by kernel_rfl) (by kernel_rfl) (fun _ _ _ h => h) (Or.inl ⟨by rfl, ?_⟩) (by assumption) ?_
        rotate_left
        · (intro w hSw; (try dsimp only at hSw); go_simp; try with_reducible rfl)
        try simp only [Act.put, List.getElem_toArray, List.getElem_cons_zero, List.getElem_cons_succ, List.setIfInBounds_toArray, List.set_cons_zero, List.set_cons_succ]
        refine wpAnyG_done (by kernel_rfl) ?_ _
        go_wp2_with fail
        go_ret
        first | exact ⟨rfl, HB.out⟩ | exact ⟨rfl, by rw [← hab]; exact HB.out⟩
      · refine wp_region_G [] (fun y => y.cell? ⟨ab, 0, none⟩ = some (.slice fa n fc) ∧ y.cell? ⟨ab, 1, none⟩ = some (.slice ga m gc) ∧ y.cell? ⟨bb, 0, none⟩ = some (.slice fa' n' fc') ∧ y.cell? ⟨bb, 1, none⟩ = some (.slice ga' m' gc')) (by rfl) ?_ (fun hHeld => ?_)
        · exact ⟨y0, y1, z0, z1⟩
        generalize hwd : World.drew w5 = wd at HB y0 y1 z0 z1 hHeld ⊢
        refine wpAnyG_take (i := 0) (v := ?_) rfl (by kernel_rfl) (by kernel_rfl) (by kernel_rfl) (by kernel_rfl) (by kernel_rfl) (fun _ _ _ h => h) (Or.inl ⟨by rfl, ?_⟩) (by assumption) ?_
        rotate_left
        · (intro w hSw; (try dsimp only at hSw); go_simp; try with_reducible rfl)
        try simp only [Act.put, List.getElem_toArray, List.getElem_cons_zero, List.setIfInBounds_toArray, List.set_cons_zero, List.set_cons_succ]
        refine wpAnyG_take (i := 1) (v := ?_) rfl (by kernel_rfl) (by kernel_rfl) (by kernel_rfl) (by kernel_rfl) (by kernel_rfl) (fun _ _ _ h => h) (Or.inl ⟨by rfl, ?_⟩) (by assumption) ?_
        rotate_left
        · (intro w hSw; (try dsimp only at hSw); go_simp; try with_reducible rfl)
        try simp only [Act.put, List.getElem_toArray, List.getElem_cons_zero, List.getElem_cons_succ, List.setIfInBounds_toArray, List.set_cons_zero, List.set_cons_succ]
        refine wpAnyG_take (i := 3) (v := ?_) rfl (by kernel_rfl) (by kernel_rfl) (by kernel_rfl) (by kernel_rfl) (by kernel_rfl) (fun _ _ _ h => h) (Or.inl ⟨by rfl, ?_⟩) (by assumption) ?_
        rotate_left
        · (intro w hSw; (try dsimp only at hSw); go_simp; try with_reducible rfl)
        try simp only [Act.put, List.getElem_toArray, List.getElem_cons_zero, List.getElem_cons_succ, List.setIfInBounds_toArray, List.set_cons_zero, List.set_cons_succ]
        refine wpAnyG_ready (rs := [2]) (by kernel_rfl) (by simp) ?_
        refine AllReadyG.cons rfl (fun KK hKK => ?_) AllReadyG.nil
        go_simp
        go_at_call 10
        refine (HS1.out _ HB.out).mono ?_
        rintro e wz ⟨rfl, hbz⟩
        have y0 := old_cell0 y0 hbz
        have y1 := old_cell0 y1 hbz
        have z0 := old_cell0 z0 hbz
        have z1 := old_cell0 z1 hbz
        have HB := Lib.hid (HB.out.trans (hbz.mono HB.out.size))
        clear hbz
        try dsimp only
        refine hKK.out _ _ (⟨y0, y1, z0, z1⟩) (fun hHeld => ?_)
        clear hKK KK
        try simp only [Act.put, List.getElem_toArray, List.getElem_cons_zero, List.getElem_cons_succ, List.setIfInBounds_toArray, List.set_cons_zero, List.set_cons_succ]
        refine wpAnyG_take (i := 4) (v := ?_) rfl (by kernel_rfl) (by kernel_rfl) (by kernel_rfl) (by kernel_rfl) (by kernel_rfl) (fun _ _ _ h => h) (Or.inl ⟨by rfl, ?_⟩) (by assumption) ?_
        rotate_left
        · (intro w hSw; (try dsimp only at hSw); go_simp; try with_reducible rfl)
        try simp only [Act.put, List.getElem_toArray, List.getElem_cons_zero, List.getElem_cons_succ, List.setIfInBounds_toArray, List.set_cons_zero, List.set_cons_succ]
        refine wpAnyG_take (i := 5) (v := ?_) rfl (by kernel_rfl) (by kernel_rfl) (by kernel_rfl) (by kernel_rfl) (by kernel_rfl) (fun _ _ _ h => h) (Or.inl ⟨by rfl, ?_⟩) (by assumption) ?_
        rotate_left
        · (intro w hSw; (try dsimp only at hSw); go_simp; try with_reducible rfl)
        try simp only [Act.put, List.getElem_toArray, List.getElem_cons_zero, List.getElem_cons_succ, List.setIfInBounds_toArray, List.set_cons_zero, List.set_cons_succ]
        refine wpAnyG_take (i := 6) (v := ?_) rfl (by kernel_rfl) (by kernel_rfl) (by kernel_rfl) (by kernel_rfl) (by kernel_rfl) (fun _ _ _ h => h) (Or.inl ⟨by rfl, ?_⟩) (by assumption) ?_
        rotate_left
        · (intro w hSw; (try dsimp only at hSw); go_simp; try with_reducible rfl)
        try simp only [Act.put, List.getElem_toArray, List.getElem_cons_zero, List.getElem_cons_succ, List.setIfInBounds_toArray, List.set_cons_zero, List.set_cons_succ]
        refine wpAnyG_take (i := 7) (v := ?_) rfl (by kernel_rfl) (by kernel_rfl) (by kernel_rfl) (by kernel_rfl) (by kernel_rfl) (fun _ _ _ h => h) (Or.inl ⟨by rfl, ?_⟩) (by assumption) ?_
        rotate_left
        · (intro w hSw; (try dsimp only at hSw); go_simp; try with_reducible rfl)
        try simp only [Act.put, List.getElem_toArray, List.getElem_cons_zero, List.getElem_cons_succ, List.setIfInBounds_toArray, List.set_cons_zero, List.set_cons_succ]
        refine wpAnyG_take (i := 9) (v := ?_) rfl (by kernel_rfl) (by kernel_rfl) (by kernel_rfl) (by kernel_rfl) (by kernel_rfl) (fun _ _ _ h => h) (Or.inl ⟨by rfl, ?_⟩) (by assumption) ?_
        rotate_left
        · (intro w hSw; (try dsimp only at hSw); go_simp; try with_reducible rfl)
        try simp only [Act.put, List.getElem_toArray, List.getElem_cons_zero, List.getElem_cons_succ, List.setIfInBounds_toArray, List.set_cons_zero, List.set_cons_succ]
        refine wpAnyG_ready (rs := [8]) (by kernel_rfl) (by simp) ?_
        refine AllReadyG.cons rfl (fun KK hKK => ?_) AllReadyG.nil
        go_simp
        go_at_call 10
        refine (HS2.out _ HB.out).mono ?_
        rintro e wz ⟨rfl, hbz⟩
        have y0 := old_cell0 y0 hbz
        have y1 := old_cell0 y1 hbz
        have z0 := old_cell0 z0 hbz
        have z1 := old_cell0 z1 hbz
        have HB := Lib.hid (HB.out.trans (hbz.mono HB.out.size))
        clear hbz
        try dsimp only
        refine hKK.out _ _ (⟨y0, y1, z0, z1⟩) (fun hHeld => ?_)
        clear hKK KK
        try simp only [Act.put, List.getElem_toArray, List.getElem_cons_zero, List.getElem_cons_succ, List.setIfInBounds_toArray, List.set_cons_zero, List.set_cons_succ]
        refine wpAnyG_take (i := 10) (v := ?_) rfl (by kernel_rfl) (by kernel_rfl) (by kernel_rfl) (by kernel_rfl) (by kernel_rfl) (fun _ _ _ h => h) (Or.inl ⟨by rfl, ?_⟩) (by assumption) ?_
        rotate_left
        · (intro w hSw; (try dsimp only at hSw); go_simp; try with_reducible rfl)
        try simp only [Act.put, List.getElem_toArray, List.getElem_cons_zero, List.getElem_cons_succ, List.setIfInBounds_toArray, List.set_cons_zero, List.set_cons_succ]
        refine wpAnyG_take (i := 11) (v := ?_) rfl (by kernel_rfl) (by kernel_rfl) (by kernel_rfl) (by kernel_rfl) (by kernel_rfl) (fun _ _ _ h => h) (Or.inl ⟨by rfl, ?_⟩) (by assumption) ?_
        rotate_left
        · (intro w hSw; (try dsimp only at hSw); go_simp; try with_reducible rfl)
        try simp only [Act.put, List.getElem_toArray, List.getElem_cons_zero, List.getElem_cons_succ, List.setIfInBounds_toArray, List.set_cons_zero, List.set_cons_succ]
        refine wpAnyG_take (i := 12) (v := ?_) rfl (by kernel_rfl) (by kernel_rfl) (by kernel_rfl) (by kernel_rfl) (by kernel_rfl) (fun _ _ _ h => h) (Or.inl ⟨by rfl, ?_⟩) (by assumption) ?_
        rotate_left
        · (intro w hSw; (try dsimp only at hSw); go_simp; try with_reducible rfl)
        try simp only [Act.put, List.getElem_toArray, List.getElem_cons_zero, List.getElem_cons_succ, List.setIfInBounds_toArray, List.set_cons_zero, List.set_cons_succ]
        refine wpAnyG_take (i := 13) (v := ?_) rfl (by kernel_rfl) (by kernel_rfl) (by kernel_rfl) (by kernel_rfl) (by kernel_rfl) (fun _ _ _ h => h) (Or.inl ⟨by rfl, ?_⟩) (by assumption) ?_
        rotate_left
        · (intro w hSw; (try dsimp only at hSw); go_simp; try with_reducible rfl)
        try simp only [Act.put, List.getElem_toArray, List.getElem_cons_zero, List.getElem_cons_succ, List.setIfInBounds_toArray, List.set_cons_zero, List.set_cons_succ]
        refine wpAnyG_take (i := 14) (v := ?_) rfl (by kernel_rfl) (by kernel_rfl) (by kernel_rfl) (by kernel_rfl) (by kernel_rfl) (fun _ _ _ h => h) (Or.inl ⟨by rfl, ?_⟩) (by assumption) ?_
        rotate_left
        · (intro w hSw; (try dsimp only at hSw); go_simp; try with_reducible rfl)
        try simp only [Act.put, List.getElem_toArray, List.getElem_cons_zero, List.getElem_cons_succ, List.setIfInBounds_toArray, List.set_cons_zero, List.set_cons_succ]
        refine wpAnyG_ready (rs := [15]) (by kernel_rfl) (by simp) ?_
        refine AllReadyG.cons rfl (fun KK hKK => ?_) AllReadyG.nil
        go_simp
        go_at_call 11
        refine (HLN.out _ HB.out).mono ?_
        rintro e wz ⟨ul, rfl, hul, hbz⟩
        have HU := Lib.hid hul
        clear hul
        have y0 := old_cell0 y0 hbz
        have y1 := old_cell0 y1 hbz
        have z0 := old_cell0 z0 hbz
        have z1 := old_cell0 z1 hbz
        have HB := Lib.hid (HB.out.trans (hbz.mono HB.out.size))
        clear hbz
        try dsimp only
        refine hKK.out _ _ (⟨y0, y1, z0, z1⟩) (fun hHeld => ?_)
        clear hKK KK
        try simp only [Act.put, List.getElem_toArray, List.getElem_cons_zero, List.getElem_cons_succ, List.setIfInBounds_toArray, List.set_cons_zero, List.set_cons_succ]
        refine wpAnyG_ready (rs := [16]) (by kernel_rfl) (by simp) ?_
        refine AllReadyG.cons rfl (fun KK hKK => ?_) AllReadyG.nil
        go_simp
        go_at_call 10
        refine (HS3.out _ _ HB.out HU.out).mono ?_
        rintro e wz ⟨rfl, hbz⟩
        have y0 := old_cell0 y0 hbz
        have y1 := old_cell0 y1 hbz
        have z0 := old_cell0 z0 hbz
        have z1 := old_cell0 z1 hbz
        have HB := Lib.hid (HB.out.trans (hbz.mono HB.out.size))
        clear hbz
        try dsimp only
        refine hKK.out _ _ (⟨y0, y1, z0, z1⟩) (fun hHeld => ?_)
        clear hKK KK
        try simp only [Act.put, List.getElem_toArray, List.getElem_cons_zero, List.getElem_cons_succ, List.setIfInBounds_toArray, List.set_cons_zero, List.set_cons_succ]
        refine wpAnyG_take (i := 17) (v := ?_) rfl (by kernel_rfl) (by kernel_rfl) (by kernel_rfl) (by kernel_rfl) (by kernel_rfl) (fun _ _ _ h => h) (Or.inl ⟨by rfl, ?_⟩) (by assumption) ?_
        rotate_left
        · (intro w hSw; (try dsimp only at hSw); go_simp; try with_reducible rfl)
        try simp only [Act.put, List.getElem_toArray, List.getElem_cons_zero, List.getElem_cons_succ, List.setIfInBounds_toArray, List.set_cons_zero, List.set_cons_succ]
        refine wpAnyG_take (i := 18) (v := ?_) rfl (by kernel_rfl) (by kernel_rfl) (by kernel_rfl) (by kernel_rfl) (by kernel_rfl) (fun _ _ _ h => h) (Or.inl ⟨by rfl, ?_⟩) (by assumption) ?_
        rotate_left
        · (intro w hSw; (try dsimp only at hSw); go_simp; try with_reducible rfl)
        try simp only [Act.put, List.getElem_toArray, List.getElem_cons_zero, List.getElem_cons_succ, List.setIfInBounds_toArray, List.set_cons_zero, List.set_cons_succ]
        refine wpAnyG_done (by kernel_rfl) ?_ _
        go_wp2_with fail
        go_ret
        first | exact ⟨rfl, HB.out⟩ | exact ⟨rfl, by rw [← hab]; exact HB.out⟩
end Go.Proofs.YtdjbkppdppdcgaaGreatDoor
