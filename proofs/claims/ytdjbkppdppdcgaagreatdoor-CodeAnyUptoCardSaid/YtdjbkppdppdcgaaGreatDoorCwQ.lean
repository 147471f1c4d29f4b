/- code.fits. -/
import Derived.Test.YtdjbkppdppdcgaaGreatDoorSqC
import Derived.Test.YtdjbkppdppdcgaaGreatDoorMCwN
namespace Go.Proofs.YtdjbkppdppdcgaaGreatDoor
open Go.RowKit

set_option maxRecDepth 100000 in
set_option maxHeartbeats 4000000 in
theorem fits_any {f : Cf} {v : Fv} {w : World} (hrow : RowIs w w.heap.size v.ca (f.code.flatMap insCells)) (h0 : 0 < f.code.length) (hlen : f.code.length ≤ 60000) (hfit : ∀ (k : Nat) (x : Ci), f.code[k]? = some x → FitI f.code k x) (hcnt : ∀ x ∈ f.code, CountedOk x) :
    Calls Tryz.prog 33 #[fnV (f, v)] w fun e w' => e = .returned (.int .i64 (fitsR (fitsP f.code))) ∧ Below w.heap.size w w' := by
  obtain ⟨R, HR⟩ : ∃ R, Hid (fitsP f.code = R) := ⟨_, rfl⟩
  rw [HR.out]
  obtain ⟨ca, o, hca, hcb, hcc⟩ := hrow.at (by rw [flat_len ins_len]; omega)
  simp only [fnV]
  rw [hca]
  have HC := Lib.hid hcc
  have HFI := Lib.hid hfit
  have HCN := Lib.hid hcnt
  obtain ⟨n, hn⟩ : ∃ n, f.code.length = n := ⟨_, rfl⟩
  have HLN := Lib.hid hn
  rw [hn] at h0 hlen ⊢
  have m1 := make_at n (by omega)
  have m2 := make_ints n (by omega)
  clear hrow hca hcc hfit hcnt hn
  go_enter Tryz.func33, Tryz.ntmps33
  have hB := FtAt.begin w (.cells #[.string f.name, .int .i64 f.params, .int .i64 f.slots, .slice v.ta f.taken.length v.tc, .int .i64 f.around, .slice (some ⟨ca, o, none⟩) n v.cc] 43 (0, 0)) n h0
  have hw0 := heap_alloc_new w (.cells #[.string f.name, .int .i64 f.params, .int .i64 f.slots, .slice v.ta f.taken.length v.tc, .int .i64 f.around, .slice (some ⟨ca, o, none⟩) n v.cc] 43 (0, 0))
  have hbw : Below w.heap.size w (w.alloc (.cells #[.string f.name, .int .i64 f.params, .int .i64 f.slots, .slice v.ta f.taken.length v.tc, .int .i64 f.around, .slice (some ⟨ca, o, none⟩) n v.cc] 43 (0, 0))) := (Below.refl _ _).alloc (Nat.le_refl _) _
  have HINV := Lib.hid (Inv.begin f.code (by rw [HLN.out]; exact h0))
  rw [HLN.out] at HINV
  have hloop : fitsLoop f.code (4 * n + 4) ⟨some [] :: List.replicate n none, List.replicate n false, [0]⟩ = R := by rw [← HR.out]; unfold fitsP; rw [HLN.out]
  have HLP := Lib.hid hloop
  have HB := Lib.hid hB
  have HW0 := Lib.hid hw0
  have HBW := Lib.hid hbw
  clear hB hw0 hbw hloop
  go_wp2_with fail
  go_step3
  go_wp2_with fail
  go_step3
  go_wp2_with fail
  obtain ⟨w0, hw⟩ : ∃ w0, w.alloc (.cells #[.string f.name, .int .i64 f.params, .int .i64 f.slots, .slice v.ta f.taken.length v.tc, .int .i64 f.around, .slice (some ⟨ca, o, none⟩) n v.cc] 43 (0, 0)) = w0 := ⟨_, rfl⟩
  have hs0 : w0.heap.size = w.heap.size + 1 := by rw [← hw]; simp
  rw [hw] at HB HW0 HBW
  obtain ⟨s0, hs1⟩ : ∃ s0, w.heap.size = s0 := ⟨_, rfl⟩
  simp only [hw, hs1]
  rw [hs1] at hs0 HB HW0
  go_loopg [] (4 * n + 4) (fun fu wr => ∃ (g cap : Nat) (T : Tab) (c : Cst), Hid (FtAt w0 (s0 + 1) (s0 + 1 + 1) (s0 + 1 + 1 + 1 + 1) n g cap T c wr) ∧ Hid (Inv f.code c) ∧ c.mu + 1 ≤ fu ∧ fu ≤ 4 * n + 4 ∧ Hid (fitsLoop f.code fu c = R))
  case atStart => exact ⟨_, _, _, _, HB, Lib.hid HINV.out.1, by rw [HINV.out.2]; omega, Nat.le_refl _, HLP⟩
  case round =>
    obtain ⟨g, cap, T, c, HF, HI, hmu, hfu, HL⟩ := hrel
    have hca0 : ca < s0 := by rw [← hs1]; exact hcb
    have hwl : w.heap.size ≤ w0.heap.size := by omega
    clear hs1 hw
    cases gk with
    | zero => exfalso; omega
    | succ gf =>
    have t0 := cell_of_row wr (s0 + 1 + 1 + 1 + 1) 0 _ _ _ HF.out.todo.box
    simp only [List.getElem?_toArray, List.getElem?_cons_zero] at t0
    have hl := HL.out
    rw [fitsLoop] at hl
    have hmt : c.todo.length ≤ c.mu := by unfold Cst.mu; omega
    by_cases htd : c.todo = []
    · rw [if_pos htd] at hl
      have hz : c.todo.length = 0 := by rw [htd]; rfl
      rw [hz] at t0
      have HR2 := Lib.hid hl
      clear hl hz
      go_wp2_with fail
      try rw [Exit.noGoto_ret]
      go_ret
      rw [← HR2.out]
      exact ⟨rfl, HBW.out.trans (HF.out.below.mono hwl)⟩
    · rw [if_neg htd] at hl
      have hpos : 0 < c.todo.length := List.length_pos_iff.2 htd
      obtain ⟨k, hpk, hkn, s, hs⟩ := pop_at HI.out htd
      rw [HLN.out] at hkn
      obtain ⟨x, hx⟩ : ∃ x, f.code[k]? = some x := ⟨_, List.getElem?_eq_getElem (by rw [HLN.out]; exact hkn)⟩
      obtain ⟨r, hp⟩ : ∃ r, popL c.todo = ((k : Int), r) := ⟨(popL c.todo).2, Prod.ext hpk rfl⟩
      have HP := Lib.hid (pop_any HF.out.todo hpos (by omega))
      rw [hp] at HP hl
      simp only [Int.toNat_natCast] at hl
      have HPI := Lib.hid (HI.out.pop htd)
      rw [hp] at HPI
      have HPP := Lib.hid hp
      obtain ⟨tl, htl⟩ : ∃ tl, c.todo.length = tl := ⟨_, rfl⟩
      rw [htl] at t0 hpos
      have dl : decide (0 < (tl : Int)) = true := by simp; omega
      by_cases hsn : c.seen.getD k false = true
      · rw [if_pos hsn] at hl
        have HL2 := Lib.hid hl
        clear hl htl hp hpk hx
        go_wp2_with (go_at_call 60; refine HP.out.mono ?_; rintro e w1 ⟨rfl, ht1, hf1⟩; have hF1 := HF.out.pop (by rw [HPP.out]; exact ht1) hf1; rw [HPP.out] at hF1; obtain ⟨q1, _⟩ := hF1.seenAt hkn; simp only at q1; rw [hsn] at q1; simp only [seenV, if_true] at q1; have HF1 := Lib.hid hF1; clear hF1 ht1 hf1; try dsimp only)
        -- ROUND
        go_roundg gf
        case rel => exact ⟨g, cap, T, _, HF1, Lib.hid HPI.out.1, by have := HPI.out.2; omega, by omega, HL2⟩
        case measure => omega
      · have hsn2 : c.seen.getD k false = false := by simpa using hsn
        rw [if_neg hsn] at hl
        have hcell := ins_at HC.out hx
        have hfx := HFI.out k x hx
        have hxc := HCN.out x (List.mem_of_getElem? hx)
        have HLK := Lib.hid (HPI.out.1.look (k := k) (by rw [HLN.out]; exact hkn) hsn2)
        obtain ⟨c2, hc2⟩ : ∃ c2 : Cst, ({ c with todo := r, seen := c.seen.set k true } : Cst) = c2 := ⟨_, rfl⟩
        have hc2' : ({ ({ c with todo := r } : Cst) with seen := c.seen.set k true } : Cst) = c2 := hc2
        have hat2 : c2.at_.getD k none = some s := by rw [← hc2]; exact hs
        rw [hc2, round_eq hx hat2] at hl
        rw [hc2'] at HLK
        have hmu3 : c2.mu + 4 = c.mu := by
          have h1 : ({ c with todo := r } : Cst).mu + 1 = c.mu := HPI.out.2
          have h2 : c2.mu + 3 = ({ c with todo := r } : Cst).mu := HLK.out.2
          omega
        have hm2 : c2.todo.length ≤ c2.mu := by unfold Cst.mu; omega
        have hIR := HLK.out.1.round HFI.out k
        rw [round_eq hx hat2] at hIR
        have HIR := Lib.hid hIR
        have hs3 : s.length ≤ 30000 := HF.out.deep k s hs
        have HFX := Lib.hid hfx
        have HXC := Lib.hid hxc
        have HL2 := Lib.hid hl
        have HPCL : Hid (∀ {W : World}, FtAt w0 (s0 + 1) (s0 + 1 + 1) (s0 + 1 + 1 + 1 + 1) n g cap T { c with todo := r } W → FtAt w0 (s0 + 1) (s0 + 1 + 1) (s0 + 1 + 1 + 1 + 1) n g cap T c2 (W.setCell ⟨s0 + 1 + 1, k, none⟩ (.int .i64 1))) := Lib.hid fun h => by
          have := h.look hkn
          rw [← hc2]
          exact this
        have HCELL := Lib.hid hcell
        have hcne : (ca = s0 + 1 + 1) = False := by simp; omega
        have hsne : (s0 = s0 + 1 + 1) = False := eq_false (by omega)
        clear hl htl hp hpk hx hfx hxc hc2 hc2' hIR hcell
        go_upto_region 10 with (go_at_call 60; refine HP.out.mono ?_; rintro e w1 ⟨rfl, ht1, hf1⟩; have hF1 := HF.out.pop (by rw [HPP.out]; exact ht1) hf1; rw [HPP.out] at hF1; obtain ⟨q1, q2⟩ := hF1.seenAt hkn; simp only at q1; rw [hsn2] at q1; simp only [seenV, Bool.false_eq_true, if_false] at q1; have hk1 := fun i (hi : i < w0.heap.size) => hF1.below.block i hi; have u5 : w1.cell? ⟨s0, 5, none⟩ = some (.slice (some ⟨ca, o, none⟩) n v.cc) := cell_of_row w1 s0 5 _ _ _ ((hk1 s0 (by omega)).trans HW0.out); have hcx : ∀ j, w1.cell? ⟨ca, j, none⟩ = w.cell? ⟨ca, j, none⟩ := fun j => World.cell?_of_block (w := w) (a := ⟨ca, j, none⟩) ((hk1 ca (by omega)).trans (HBW.out.block ca hcb)); obtain ⟨x0, x1, x2, x3, x4⟩ := HCELL.out; rw [← hcx] at x0 x1 x2 x3 x4; have HF1 := Lib.hid hF1; clear hF1 ht1 hf1 hk1 hcx; try dsimp only)
        have hF2 := HPCL.out HF1.out
        have hF3 := hF2.alloc (.cells #[.int .i64 x.op, .int .i64 x.a, .int .i64 x.b, .string x.text, .int .i64 x.at_] 46 (0, 0))
        have hxr := heap_alloc_new (w1.setCell ⟨s0 + 1 + 1, k, none⟩ (.int .i64 1)) (.cells #[.int .i64 x.op, .int .i64 x.a, .int .i64 x.b, .string x.text, .int .i64 x.at_] 46 (0, 0))
        obtain ⟨xb, hxb⟩ : ∃ xb, (w1.setCell ⟨s0 + 1 + 1, k, none⟩ (.int .i64 1)).heap.size = xb := ⟨_, rfl⟩
        have hxb1 : w1.heap.size = xb := by rw [← hxb]; simp
        have hxn : ∀ s, (xb, s) ∉ T := fun s hs => by have := (hF2.stk.node _ s hs).2.1; omega
        obtain ⟨l1, l2, l3, l4⟩ := hF2.alt
        have hxne : xb ≠ s0 + 1 ∧ xb ≠ s0 + 1 + 1 + 1 + 1 ∧ xb ≠ g := by omega
        rw [hxb] at hxr
        obtain ⟨W3, hW3⟩ : ∃ W3, (w1.setCell ⟨s0 + 1 + 1, k, none⟩ (.int .i64 1)).alloc (.cells #[.int .i64 x.op, .int .i64 x.a, .int .i64 x.b, .string x.text, .int .i64 x.at_] 46 (0, 0)) = W3 := ⟨_, rfl⟩
        rw [hW3] at hxr hF3
        simp only [hW3, hxb1]
        have hxlt : xb < W3.heap.size := (Array.getElem?_eq_some_iff.1 hxr).1
        have y0 := cell_of_row W3 xb 0 _ _ _ hxr
        have y1 := cell_of_row W3 xb 1 _ _ _ hxr
        have y2 := cell_of_row W3 xb 2 _ _ _ hxr
        have y3 := cell_of_row W3 xb 3 _ _ _ hxr
        have y4 := cell_of_row W3 xb 4 _ _ _ hxr
        simp only [List.getElem?_toArray, List.getElem?_cons_zero, List.getElem?_cons_succ] at y0 y1 y2 y3 y4
        obtain ⟨va, a0, hva, _⟩ := hF3.at_ (k := k) (by omega)
        rw [hat2] at hva
        obtain ⟨bk, rfl, hbk⟩ := hva
        have HF3 := Lib.hid hF3
        have HXR := Lib.hid hxr
        clear hF2 hF3 hxr hW3 hxb hxb1 x0 x1 x2 x3 x4 u5 l1 l2 l3 l4 q1 q2 HP t0 dl
        have hbd : ((k : Int) < (n : Int) + 1) = True := eq_true (by omega)
        have HDR : Hid (FtAt w0 (s0 + 1) (s0 + 1 + 1) (s0 + 1 + 1 + 1 + 1) n g cap T c2 W3.drew) := Lib.hid (HF3.out.under ⟨rfl, rfl, rfl, Nat.le_refl _, fun _ _ => rfl⟩)
        cases hlv : leavesP x s with
        | none =>
          rw [hlv] at HL2
          have hR2 : R = some (k : Int) := HL2.out.symm
          have HR2 := Lib.hid hR2
          clear hR2
          refine wp_region_G [] (fun y => y.cell? ⟨xb, 0, none⟩ = some (.int .i64 x.op) ∧ y.cell? ⟨xb, 1, none⟩ = some (.int .i64 x.a) ∧ y.cell? ⟨xb, 2, none⟩ = some (.int .i64 x.b) ∧ y.cell? ⟨xb, 3, none⟩ = some (.string x.text) ∧ y.cell? ⟨xb, 4, none⟩ = some (.int .i64 x.at_) ∧ y.cell? ⟨s0 + 1, k, none⟩ = some (.pointer (some ⟨bk, 0, none⟩))) (by rfl) ?_ (fun hHeld => ?_)
          · exact ⟨y0, y1, y2, y3, y4, a0⟩
          refine wpAnyG_take (i := 0) (v := ?_) rfl (by kernel_rfl) (by kernel_rfl) (by kernel_rfl) (by kernel_rfl) (by kernel_rfl) (fun _ _ _ h => h) (Or.inl ⟨by rfl, ?_⟩) (by assumption) ?_
          rotate_left
          · (intro w hSw; (try dsimp only at hSw); go_simp; try with_reducible rfl)
          try simp only [nmC]
          refine wpAnyG_take (i := 1) (v := ?_) rfl (by kernel_rfl) (by kernel_rfl) (by kernel_rfl) (by kernel_rfl) (by kernel_rfl) (fun _ _ _ h => h) (Or.inl ⟨by rfl, ?_⟩) (by assumption) ?_
          rotate_left
          · (intro w hSw; (try dsimp only at hSw); go_simp; try with_reducible rfl)
          try simp only [nmC]
          refine wpAnyG_take (i := 2) (v := ?_) rfl (by kernel_rfl) (by kernel_rfl) (by kernel_rfl) (by kernel_rfl) (by kernel_rfl) (fun _ _ _ h => h) (Or.inl ⟨by rfl, ?_⟩) (by assumption) ?_
          rotate_left
          · (intro w hSw; (try dsimp only at hSw); go_simp; try with_reducible rfl)
          try simp only [nmC]
          refine wpAnyG_take (i := 3) (v := ?_) rfl (by kernel_rfl) (by kernel_rfl) (by kernel_rfl) (by kernel_rfl) (by kernel_rfl) (fun _ _ _ h => h) (Or.inl ⟨by rfl, ?_⟩) (by assumption) ?_
          rotate_left
          · (intro w hSw; (try dsimp only at hSw); go_simp; try with_reducible rfl)
          try simp only [nmC]
          refine wpAnyG_take (i := 4) (v := ?_) rfl (by kernel_rfl) (by kernel_rfl) (by kernel_rfl) (by kernel_rfl) (by kernel_rfl) (fun _ _ _ h => h) (Or.inl ⟨by rfl, ?_⟩) (by assumption) ?_
          rotate_left
          · (intro w hSw; (try dsimp only at hSw); go_simp; try with_reducible rfl)
          try simp only [nmC]
          refine wpAnyG_ready (rs := [5]) (by kernel_rfl) (by simp) ?_
          refine AllReadyG.cons rfl (fun KK hKK => ?_) AllReadyG.nil
          go_simp
          go_at_call 61
          refine (leaves_any HXC.out HFX.out.count HDR.out.stk hbk hs3).mono ?_
          intro e w5 hpost
          rw [hlv] at hpost
          obtain ⟨T5, hs5, hsub5, hnew5, hf5, hres⟩ := hpost
          obtain ⟨vb, rfl⟩ := hres
          have hF5 := HDR.out.more hs5 hsub5 hnew5 hf5
          have hxr5 := (hf5.block xb hxlt (fun ⟨s, hs⟩ => hxn s hs)).trans HXR.out
          have z0 := cell_of_row w5 xb 0 _ _ _ hxr5
          have z1 := cell_of_row w5 xb 1 _ _ _ hxr5
          have z2 := cell_of_row w5 xb 2 _ _ _ hxr5
          have z3 := cell_of_row w5 xb 3 _ _ _ hxr5
          have z4 := cell_of_row w5 xb 4 _ _ _ hxr5
          simp only [List.getElem?_toArray, List.getElem?_cons_zero, List.getElem?_cons_succ] at z0 z1 z2 z3 z4
          obtain ⟨va, z5, hva, _⟩ := hF5.at_ (k := k) (by omega)
          rw [hat2] at hva
          obtain ⟨bk5, rfl, hbk5⟩ := hva
          obtain rfl := hs5.one _ _ _ (hsub5 _ hbk) hbk5
          have HF5 := Lib.hid hF5
          have HXR5 := Lib.hid hxr5
          have hxl5 := Nat.lt_of_lt_of_le hxlt hf5.size
          clear hF5 hxr5 hs5 hf5 hbk5
          try dsimp only
          refine hKK.out _ _ (⟨z0, z1, z2, z3, z4, z5⟩) (fun hHeld => ?_)
          clear hKK KK
          try simp only [nmC]
          refine wpAnyG_take (i := 6) (v := ?_) rfl (by kernel_rfl) (by kernel_rfl) (by kernel_rfl) (by kernel_rfl) (by kernel_rfl) (fun _ _ _ h => h) (Or.inl ⟨by rfl, ?_⟩) (by assumption) ?_
          rotate_left
          · (intro w hSw; (try dsimp only at hSw); go_simp; try with_reducible rfl)
          try simp only [nmC]
          refine wpAnyG_take (i := 7) (v := ?_) rfl (by kernel_rfl) (by kernel_rfl) (by kernel_rfl) (by kernel_rfl) (by kernel_rfl) (fun _ _ _ h => h) (Or.inl ⟨by rfl, ?_⟩) (by assumption) ?_
          rotate_left
          · (intro w hSw; (try dsimp only at hSw); go_simp; try with_reducible rfl)
          try simp only [nmC]
          refine wpAnyG_take (i := 8) (v := ?_) rfl (by kernel_rfl) (by kernel_rfl) (by kernel_rfl) (by kernel_rfl) (by kernel_rfl) (fun _ _ _ h => h) (Or.inl ⟨by rfl, ?_⟩) (by assumption) ?_
          rotate_left
          · (intro w hSw; (try dsimp only at hSw); go_simp; try with_reducible rfl)
          try simp only [nmC]
          refine wpAnyG_take (i := 9) (v := ?_) rfl (by kernel_rfl) (by kernel_rfl) (by kernel_rfl) (by kernel_rfl) (by kernel_rfl) (fun _ _ _ h => h) (Or.inl ⟨by rfl, ?_⟩) (by assumption) ?_
          rotate_left
          · (intro w hSw; (try dsimp only at hSw); go_simp; try with_reducible rfl)
          try simp only [nmC]
          refine wpAnyG_take (i := 10) (v := ?_) rfl (by kernel_rfl) (by kernel_rfl) (by kernel_rfl) (by kernel_rfl) (by kernel_rfl) (fun _ _ _ h => h) (Or.inl ⟨by rfl, ?_⟩) (by assumption) ?_
          rotate_left
          · (intro w hSw; (try dsimp only at hSw); go_simp; try with_reducible rfl)
          try simp only [nmC]
          refine wpAnyG_done (by kernel_rfl) ?_ _
          go_wp2_with fail
          try rw [Exit.noGoto_ret]
          go_ret
          rw [HR2.out]
          exact ⟨rfl, HBW.out.trans (HF5.out.below.mono hwl)⟩
        | some pr =>
          obtain ⟨nx, th⟩ := pr
          obtain ⟨hn3, ht3⟩ := leaves_len hlv hs3
          rw [hlv] at HL2 HIR
          have hl := HL2.out
          have hir := HIR.out
          dsimp only at hl hir
          refine wp_region_G [] (fun y => y.cell? ⟨xb, 0, none⟩ = some (.int .i64 x.op) ∧ y.cell? ⟨xb, 1, none⟩ = some (.int .i64 x.a) ∧ y.cell? ⟨xb, 2, none⟩ = some (.int .i64 x.b) ∧ y.cell? ⟨xb, 3, none⟩ = some (.string x.text) ∧ y.cell? ⟨xb, 4, none⟩ = some (.int .i64 x.at_) ∧ y.cell? ⟨s0 + 1, k, none⟩ = some (.pointer (some ⟨bk, 0, none⟩))) (by rfl) ?_ (fun hHeld => ?_)
          · exact ⟨y0, y1, y2, y3, y4, a0⟩
          refine wpAnyG_take (i := 0) (v := ?_) rfl (by kernel_rfl) (by kernel_rfl) (by kernel_rfl) (by kernel_rfl) (by kernel_rfl) (fun _ _ _ h => h) (Or.inl ⟨by rfl, ?_⟩) (by assumption) ?_
          rotate_left
          · (intro w hSw; (try dsimp only at hSw); go_simp; try with_reducible rfl)
          try simp only [nmC]
          refine wpAnyG_take (i := 1) (v := ?_) rfl (by kernel_rfl) (by kernel_rfl) (by kernel_rfl) (by kernel_rfl) (by kernel_rfl) (fun _ _ _ h => h) (Or.inl ⟨by rfl, ?_⟩) (by assumption) ?_
          rotate_left
          · (intro w hSw; (try dsimp only at hSw); go_simp; try with_reducible rfl)
          try simp only [nmC]
          refine wpAnyG_take (i := 2) (v := ?_) rfl (by kernel_rfl) (by kernel_rfl) (by kernel_rfl) (by kernel_rfl) (by kernel_rfl) (fun _ _ _ h => h) (Or.inl ⟨by rfl, ?_⟩) (by assumption) ?_
          rotate_left
          · (intro w hSw; (try dsimp only at hSw); go_simp; try with_reducible rfl)
          try simp only [nmC]
          refine wpAnyG_take (i := 3) (v := ?_) rfl (by kernel_rfl) (by kernel_rfl) (by kernel_rfl) (by kernel_rfl) (by kernel_rfl) (fun _ _ _ h => h) (Or.inl ⟨by rfl, ?_⟩) (by assumption) ?_
          rotate_left
          · (intro w hSw; (try dsimp only at hSw); go_simp; try with_reducible rfl)
          try simp only [nmC]
          refine wpAnyG_take (i := 4) (v := ?_) rfl (by kernel_rfl) (by kernel_rfl) (by kernel_rfl) (by kernel_rfl) (by kernel_rfl) (fun _ _ _ h => h) (Or.inl ⟨by rfl, ?_⟩) (by assumption) ?_
          rotate_left
          · (intro w hSw; (try dsimp only at hSw); go_simp; try with_reducible rfl)
          try simp only [nmC]
          refine wpAnyG_ready (rs := [5]) (by kernel_rfl) (by simp) ?_
          refine AllReadyG.cons rfl (fun KK hKK => ?_) AllReadyG.nil
          go_simp
          go_at_call 61
          refine (leaves_any HXC.out HFX.out.count HDR.out.stk hbk hs3).mono ?_
          intro e w5 hpost
          rw [hlv] at hpost
          obtain ⟨T5, hs5, hsub5, hnew5, hf5, hres⟩ := hpost
          obtain ⟨ga, gb, rfl, hga, hgb⟩ := hres
          have hF5 := HDR.out.more hs5 hsub5 hnew5 hf5
          have hxr5 := (hf5.block xb hxlt (fun ⟨s, hs⟩ => hxn s hs)).trans HXR.out
          have z0 := cell_of_row w5 xb 0 _ _ _ hxr5
          have z1 := cell_of_row w5 xb 1 _ _ _ hxr5
          have z2 := cell_of_row w5 xb 2 _ _ _ hxr5
          have z3 := cell_of_row w5 xb 3 _ _ _ hxr5
          have z4 := cell_of_row w5 xb 4 _ _ _ hxr5
          simp only [List.getElem?_toArray, List.getElem?_cons_zero, List.getElem?_cons_succ] at z0 z1 z2 z3 z4
          obtain ⟨va, z5, hva, _⟩ := hF5.at_ (k := k) (by omega)
          rw [hat2] at hva
          obtain ⟨bk5, rfl, hbk5⟩ := hva
          obtain rfl := hs5.one _ _ _ (hsub5 _ hbk) hbk5
          have HF5 := Lib.hid hF5
          have HXR5 := Lib.hid hxr5
          have hxl5 := Nat.lt_of_lt_of_le hxlt hf5.size
          clear hF5 hxr5 hs5 hf5 hbk5
          try dsimp only
          refine hKK.out _ _ (⟨z0, z1, z2, z3, z4, z5⟩) (fun hHeld => ?_)
          clear hKK KK
          try simp only [nmC]
          refine wpAnyG_take (i := 6) (v := ?_) rfl (by kernel_rfl) (by kernel_rfl) (by kernel_rfl) (by kernel_rfl) (by kernel_rfl) (fun _ _ _ h => h) (Or.inl ⟨by rfl, ?_⟩) (by assumption) ?_
          rotate_left
          · (intro w hSw; (try dsimp only at hSw); go_simp; try with_reducible rfl)
          try simp only [nmC]
          refine wpAnyG_take (i := 7) (v := ?_) rfl (by kernel_rfl) (by kernel_rfl) (by kernel_rfl) (by kernel_rfl) (by kernel_rfl) (fun _ _ _ h => h) (Or.inl ⟨by rfl, ?_⟩) (by assumption) ?_
          rotate_left
          · (intro w hSw; (try dsimp only at hSw); go_simp; try with_reducible rfl)
          try simp only [nmC]
          refine wpAnyG_take (i := 8) (v := ?_) rfl (by kernel_rfl) (by kernel_rfl) (by kernel_rfl) (by kernel_rfl) (by kernel_rfl) (fun _ _ _ h => h) (Or.inl ⟨by rfl, ?_⟩) (by assumption) ?_
          rotate_left
          · (intro w hSw; (try dsimp only at hSw); go_simp; try with_reducible rfl)
          try simp only [nmC]
          refine wpAnyG_take (i := 9) (v := ?_) rfl (by kernel_rfl) (by kernel_rfl) (by kernel_rfl) (by kernel_rfl) (by kernel_rfl) (fun _ _ _ h => h) (Or.inl ⟨by rfl, ?_⟩) (by assumption) ?_
          rotate_left
          · (intro w hSw; (try dsimp only at hSw); go_simp; try with_reducible rfl)
          try simp only [nmC]
          refine wpAnyG_take (i := 10) (v := ?_) rfl (by kernel_rfl) (by kernel_rfl) (by kernel_rfl) (by kernel_rfl) (by kernel_rfl) (fun _ _ _ h => h) (Or.inl ⟨by rfl, ?_⟩) (by assumption) ?_
          rotate_left
          · (intro w hSw; (try dsimp only at hSw); go_simp; try with_reducible rfl)
          try simp only [nmC]
          refine wpAnyG_done (by kernel_rfl) ?_ _
          have hq0 : c2.todo.length ≤ 900000 := by omega
          by_cases h34 : x.op = 34
          · have e1 : (x.op != 34) = false := by simp [h34]
            have hgo : goesB x.op = true := by rw [h34]; decide
            simp only [if_pos (Or.inl h34 : x.op = 34 ∨ x.op = 50), hgo, if_true, Bool.true_eq_false, if_false] at hl hir
            obtain ⟨hxa0, hxa1⟩ := HFX.out.goes hgo
            rw [HLN.out] at hxa1
            obtain ⟨xa, hxa⟩ := Int.eq_ofNat_of_zero_le hxa0
            have hxan : xa ≤ n := by omega
            rw [hxa, Int.toNat_natCast] at hl hir
            obtain ⟨c4, b4, h4⟩ : ∃ c4 b4, handP c2 xa th = (c4, b4) := ⟨_, _, rfl⟩
            rw [h4] at hl hir
            dsimp only at hl hir
            clear h34
            cases b4 with
            | false =>
              have hR2 : R = some (xa : Int) := by rw [if_pos rfl] at hl; exact hl.symm
              have HR2 := Lib.hid hR2
              clear hR2 hl hir
              go_wp2_with (first
                | (go_at_call 59; refine (goes_any _ _).mono ?_; rintro e w7 ⟨rfl, hb7⟩; rw [hgo]; have hF7 := HF5.out.under hb7; have hxr7 := (hb7.block xb hxl5).trans HXR5.out; have r0 := cell_of_row w7 xb 0 _ _ _ hxr7; have r1 := cell_of_row w7 xb 1 _ _ _ hxr7; simp only [List.getElem?_toArray, List.getElem?_cons_zero, List.getElem?_cons_succ] at r0 r1; rw [hxa] at r1; have HH7 := Lib.hid (hand_any hF7 (k := xa) hxan hgb ht3 hq0); rw [h4] at HH7; dsimp only at HH7; have hs7 := hb7.size; clear hb7 hF7)
                | (go_at_call 62; refine HH7.out.mono ?_; rintro e w8 ⟨rfl, ⟨g8, cap8, hF8, _⟩, hfo8⟩; have hr8 := (World.cell?_of_block (w := w7) (a := ⟨xb, 1, none⟩) (hfo8.block xb (Nat.lt_of_lt_of_le hxl5 hs7) (by rintro (e | e | e); exact hxne.1 e; exact hxne.2.1 e; exact hxne.2.2 e))).trans r1; have HF8 := Lib.hid hF8; clear hF8 hfo8))
              try rw [Exit.noGoto_ret]
              go_ret
              rw [HR2.out]
              exact ⟨rfl, HBW.out.trans (HF8.out.below.mono hwl)⟩
            | true =>
              simp only [Bool.true_eq_false, if_false] at hl hir
              have HLZ := Lib.hid hl
              have HIZ := Lib.hid (hir trivial)
              clear hl hir
              go_wp2_with (first
                | (go_at_call 59; refine (goes_any _ _).mono ?_; rintro e w7 ⟨rfl, hb7⟩; rw [hgo]; have hF7 := HF5.out.under hb7; have hxr7 := (hb7.block xb hxl5).trans HXR5.out; have r0 := cell_of_row w7 xb 0 _ _ _ hxr7; have r1 := cell_of_row w7 xb 1 _ _ _ hxr7; simp only [List.getElem?_toArray, List.getElem?_cons_zero, List.getElem?_cons_succ] at r0 r1; rw [hxa] at r1; have HH7 := Lib.hid (hand_any hF7 (k := xa) hxan hgb ht3 hq0); rw [h4] at HH7; dsimp only at HH7; have hs7 := hb7.size; clear hb7 hF7)
                | (go_at_call 62; refine HH7.out.mono ?_; rintro e w8 ⟨rfl, ⟨g8, cap8, hF8, _⟩, hfo8⟩; have hr8 := (World.cell?_of_block (w := w7) (a := ⟨xb, 1, none⟩) (hfo8.block xb (Nat.lt_of_lt_of_le hxl5 hs7) (by rintro (e | e | e); exact hxne.1 e; exact hxne.2.1 e; exact hxne.2.2 e))).trans r1; have HF8 := Lib.hid hF8; clear hF8 hfo8))
              go_roundg gf
              case rel => exact ⟨g8, cap8, T5, c4, HF8, Lib.hid HIZ.out.1, by have := HIZ.out.2; omega, by omega, HLZ⟩
              case measure => omega
          · have e1 : (x.op != 34) = true := by simp [h34]
            by_cases h50 : x.op = 50
            · have e2 : (x.op != 50) = false := by simp [h50]
              have hgo : goesB x.op = false := by rw [h50]; decide
              simp only [if_pos (Or.inr h50 : x.op = 34 ∨ x.op = 50), hgo, if_false, Bool.true_eq_false, Bool.false_eq_true] at hl hir
              have HLZ := Lib.hid hl
              have HIZ := Lib.hid (hir trivial)
              clear hl hir h34 h50
              go_wp2_with (go_at_call 59; refine (goes_any _ _).mono ?_; rintro e w6 ⟨rfl, hb6⟩; rw [hgo]; have HF6 := Lib.hid (HF5.out.under hb6))
              go_roundg gf
              case rel => exact ⟨g, cap, T5, c2, HF6, Lib.hid HIZ.out.1, by omega, by omega, HLZ⟩
              case measure => omega
            · have e2 : (x.op != 50) = true := by simp [h50]
              have hj : ¬ (x.op = 34 ∨ x.op = 50) := by rintro (e | e); exact h34 e; exact h50 e
              have hlast := HFX.out.last h34 h50
              rw [HLN.out] at hlast
              simp only [if_neg hj] at hl hir
              have hh1 := (HLK.out.1.hand (k := k + 1) (by rw [HLN.out]; omega) nx).2
              obtain ⟨c3, b3, h3⟩ : ∃ c3 b3, handP c2 (k + 1) nx = (c3, b3) := ⟨_, _, rfl⟩
              have HH := Lib.hid (hand_any HF5.out (k := k + 1) (by omega) hga hn3 hq0)
              rw [h3] at HH hl hir hh1
              dsimp only at HH hl hir hh1
              have hq1 : c3.todo.length ≤ 900000 := by have : c3.todo.length ≤ c3.mu := by (unfold Cst.mu; omega)
                                                       omega
              clear h34 h50 hj h3
              cases b3 with
              | false =>
                have hR2 : R = some ((k : Int) + 1) := by rw [if_pos rfl] at hl; exact hl.symm
                have HR2 := Lib.hid hR2
                clear hR2 hl hir
                go_wp2_with (go_at_call 62; refine HH.out.mono ?_; rintro e w6 ⟨rfl, ⟨g6, cap6, hF6, hgn6⟩, hfo6⟩; have HF6 := Lib.hid hF6; clear hF6 hfo6)
                try rw [Exit.noGoto_ret]
                go_ret
                rw [HR2.out]
                exact ⟨rfl, HBW.out.trans (HF6.out.below.mono hwl)⟩
              | true =>
                simp only [Bool.true_eq_false, if_false] at hl hir
                cases hgo : goesB x.op with
                | false =>
                  simp only [hgo, Bool.false_eq_true, if_false, Bool.true_eq_false] at hl hir
                  have HLZ := Lib.hid hl
                  have HIZ := Lib.hid (hir trivial)
                  clear hl hir
                  go_wp2_with (first
                    | (go_at_call 62; refine HH.out.mono ?_; rintro e w6 ⟨rfl, ⟨g6, cap6, hF6, hgn6⟩, hfo6⟩; have hxr6 := (hfo6.block xb hxl5 (by rintro (e | e | e); exact hxne.1 e; exact hxne.2.1 e; exact hxne.2.2 e)).trans HXR5.out; have p0 := cell_of_row w6 xb 0 _ _ _ hxr6; simp only [List.getElem?_toArray, List.getElem?_cons_zero] at p0; have hxl6 := Nat.lt_of_lt_of_le hxl5 hfo6.size; have hg6 : xb ≠ g6 := (by have := hxne.2.2; rcases hgn6 with e | e <;> omega); have HXR6 := Lib.hid hxr6; have HF6 := Lib.hid hF6; clear hF6 hxr6 hfo6)
                    | (go_at_call 59; refine (goes_any _ _).mono ?_; rintro e w7 ⟨rfl, hb7⟩; rw [hgo]; have HF7 := Lib.hid (HF6.out.under hb7)))
                  go_roundg gf
                  case rel => exact ⟨g6, cap6, T5, c3, HF7, Lib.hid HIZ.out.1, by have := HIZ.out.2; omega, by omega, HLZ⟩
                  case measure => omega
                | true =>
                  obtain ⟨hxa0, hxa1⟩ := HFX.out.goes hgo
                  rw [HLN.out] at hxa1
                  obtain ⟨xa, hxa⟩ := Int.eq_ofNat_of_zero_le hxa0
                  have hxan : xa ≤ n := by omega
                  simp only [hgo, if_true] at hl hir
                  rw [hxa, Int.toNat_natCast] at hl hir
                  obtain ⟨c4, b4, h4⟩ : ∃ c4 b4, handP c3 xa th = (c4, b4) := ⟨_, _, rfl⟩
                  rw [h4] at hl hir
                  dsimp only at hl hir
                  cases b4 with
                  | false =>
                    have hR2 : R = some (xa : Int) := by rw [if_pos rfl] at hl; exact hl.symm
                    have HR2 := Lib.hid hR2
                    clear hR2 hl hir
                    go_wp2_with (first
                      | (go_at_call 59; refine (goes_any _ _).mono ?_; rintro e w7 ⟨rfl, hb7⟩; rw [hgo]; have hF7 := HF6.out.under hb7; have hxr7 := (hb7.block xb hxl6).trans HXR6.out; have r0 := cell_of_row w7 xb 0 _ _ _ hxr7; have r1 := cell_of_row w7 xb 1 _ _ _ hxr7; simp only [List.getElem?_toArray, List.getElem?_cons_zero, List.getElem?_cons_succ] at r0 r1; rw [hxa] at r1; have HH7 := Lib.hid (hand_any hF7 (k := xa) hxan hgb ht3 hq1); rw [h4] at HH7; dsimp only at HH7; have hs7 := hb7.size; clear hb7 hF7)
                      | (go_at_call 62; first | (refine HH7.out.mono ?_; rintro e w8 ⟨rfl, ⟨g8, cap8, hF8, _⟩, hfo8⟩; have hr8 := (World.cell?_of_block (w := w7) (a := ⟨xb, 1, none⟩) (hfo8.block xb (Nat.lt_of_lt_of_le hxl6 hs7) (by rintro (e | e | e); exact hxne.1 e; exact hxne.2.1 e; exact hg6 e))).trans r1; have HF8 := Lib.hid hF8; clear hF8 hfo8) | (refine HH.out.mono ?_; rintro e w6 ⟨rfl, ⟨g6, cap6, hF6, hgn6⟩, hfo6⟩; have hxr6 := (hfo6.block xb hxl5 (by rintro (e | e | e); exact hxne.1 e; exact hxne.2.1 e; exact hxne.2.2 e)).trans HXR5.out; have p0 := cell_of_row w6 xb 0 _ _ _ hxr6; simp only [List.getElem?_toArray, List.getElem?_cons_zero] at p0; have hxl6 := Nat.lt_of_lt_of_le hxl5 hfo6.size; have hg6 : xb ≠ g6 := (by have := hxne.2.2; rcases hgn6 with e | e <;> omega); have HXR6 := Lib.hid hxr6; have HF6 := Lib.hid hF6; clear hF6 hxr6 hfo6)))
                    try rw [Exit.noGoto_ret]
                    go_ret
                    rw [HR2.out]
                    exact ⟨rfl, HBW.out.trans (HF8.out.below.mono hwl)⟩
                  | true =>
                    simp only [Bool.true_eq_false, if_false] at hl hir
                    have HLZ := Lib.hid hl
                    have HIZ := Lib.hid (hir trivial)
                    clear hl hir
                    go_wp2_with (first
                      | (go_at_call 59; refine (goes_any _ _).mono ?_; rintro e w7 ⟨rfl, hb7⟩; rw [hgo]; have hF7 := HF6.out.under hb7; have hxr7 := (hb7.block xb hxl6).trans HXR6.out; have r0 := cell_of_row w7 xb 0 _ _ _ hxr7; have r1 := cell_of_row w7 xb 1 _ _ _ hxr7; simp only [List.getElem?_toArray, List.getElem?_cons_zero, List.getElem?_cons_succ] at r0 r1; rw [hxa] at r1; have HH7 := Lib.hid (hand_any hF7 (k := xa) hxan hgb ht3 hq1); rw [h4] at HH7; dsimp only at HH7; have hs7 := hb7.size; clear hb7 hF7)
                      | (go_at_call 62; first | (refine HH7.out.mono ?_; rintro e w8 ⟨rfl, ⟨g8, cap8, hF8, _⟩, hfo8⟩; have hr8 := (World.cell?_of_block (w := w7) (a := ⟨xb, 1, none⟩) (hfo8.block xb (Nat.lt_of_lt_of_le hxl6 hs7) (by rintro (e | e | e); exact hxne.1 e; exact hxne.2.1 e; exact hg6 e))).trans r1; have HF8 := Lib.hid hF8; clear hF8 hfo8) | (refine HH.out.mono ?_; rintro e w6 ⟨rfl, ⟨g6, cap6, hF6, hgn6⟩, hfo6⟩; have hxr6 := (hfo6.block xb hxl5 (by rintro (e | e | e); exact hxne.1 e; exact hxne.2.1 e; exact hxne.2.2 e)).trans HXR5.out; have p0 := cell_of_row w6 xb 0 _ _ _ hxr6; simp only [List.getElem?_toArray, List.getElem?_cons_zero] at p0; have hxl6 := Nat.lt_of_lt_of_le hxl5 hfo6.size; have hg6 : xb ≠ g6 := (by have := hxne.2.2; rcases hgn6 with e | e <;> omega); have HXR6 := Lib.hid hxr6; have HF6 := Lib.hid hF6; clear hF6 hxr6 hfo6)))
                    go_roundg gf
                    case rel => exact ⟨g8, cap8, T5, c4, HF8, Lib.hid HIZ.out.1, by have := HIZ.out.2; omega, by omega, HLZ⟩
                    case measure => omega
end Go.Proofs.YtdjbkppdppdcgaaGreatDoor
