/- code.opened of any parts of a line. -/
import Derived.Test.YtdjbkppdppdcgaaGreatDoorSqC
import Derived.Test.YtdjbkppdppdcgaaGreatDoorMCyG
import Derived.Test.YtdjbkppdppdcgaaGreatDoorMUnB
namespace Go.Proofs.YtdjbkppdppdcgaaGreatDoor
open Go.RowKit

def OpdPost (w : World) (o : Option Cf) (e : Ending) (w' : World) : Prop := Below w.heap.size w w' ∧ match o with
  | none => e = .returned (.tuple #[.agg #[.string ⟨#[]⟩, .int .i64 0, .int .i64 0, .slice none 0 0, .int .i64 0, .slice none 0 0], .bool false])
  | some f => ∃ A ic, e = .returned (.tuple #[.agg #[.string f.name, .int .i64 f.params, .int .i64 f.slots, .slice A f.taken.length ic, .int .i64 f.around, .slice none 0 0], .bool true]) ∧ f.code = [] ∧ RowIs w' w'.heap.size A (f.taken.map (Value.int .i64)) ∧ f.taken.length ≤ ic ∧ ∀ a, A = some a → w.heap.size ≤ a.block
theorem opd_fail {w W : World} (hb : Below w.heap.size w W) (hr : W.heap[w.heap.size]? = some (.cells #[.string ⟨#[]⟩, .int .i64 0, .int .i64 0, .slice none 0 0, .int .i64 0, .slice none 0 0] 43 (0, 0))) :
    (∀ j : Nat, j < 6 → W.frozen? ⟨w.heap.size, j, none⟩ = false) ∧ W.cell? ⟨w.heap.size, 0, none⟩ = some (.string ⟨#[]⟩) ∧ W.cell? ⟨w.heap.size, 1, none⟩ = some (.int .i64 0) ∧ W.cell? ⟨w.heap.size, 2, none⟩ = some (.int .i64 0) ∧ W.cell? ⟨w.heap.size, 3, none⟩ = some (.slice none 0 0) ∧ W.cell? ⟨w.heap.size, 4, none⟩ = some (.int .i64 0) ∧ W.cell? ⟨w.heap.size, 5, none⟩ = some (.slice none 0 0) ∧
    ∀ v0 v1 v2 v3 v4 v5 : Value, OpdPost w none (.returned (.tuple #[.agg #[.string ⟨#[]⟩, .int .i64 0, .int .i64 0, .slice none 0 0, .int .i64 0, .slice none 0 0], .bool false])) ((((((W.setCell ⟨w.heap.size, 0, none⟩ v0).setCell ⟨w.heap.size, 1, none⟩ v1).setCell ⟨w.heap.size, 2, none⟩ v2).setCell ⟨w.heap.size, 3, none⟩ v3).setCell ⟨w.heap.size, 4, none⟩ v4).setCell ⟨w.heap.size, 5, none⟩ v5) :=
  ⟨fun j _ => frozen_of_row W _ j _ _ hr, cell_of_row W _ 0 _ _ _ hr, cell_of_row W _ 1 _ _ _ hr, cell_of_row W _ 2 _ _ _ hr, cell_of_row W _ 3 _ _ _ hr, cell_of_row W _ 4 _ _ _ hr, cell_of_row W _ 5 _ _ _ hr, fun _ _ _ _ _ _ => ⟨((((((hb.setCell (Nat.le_refl _) _).setCell (Nat.le_refl _) _).setCell (Nat.le_refl _) _).setCell (Nat.le_refl _) _).setCell (Nat.le_refl _) _).setCell (Nat.le_refl _) _), rfl⟩⟩
theorem openedL_eq (wd nm a b c : List UInt8) (r : List (List UInt8)) : openedL (wd :: nm :: a :: b :: c :: r) = if wd ≠ [102, 117, 110, 99] ∨ nm = [] then none else match intsL (a :: b :: c :: r) with
    | some (p :: s :: o :: t) => some ⟨⟨⟨if nm = [45] then [] else nm⟩⟩, p, s, t, o, []⟩
    | _ => none := rfl

set_option maxRecDepth 100000 in
set_option maxHeartbeats 8000000 in
theorem opened_any {w : World} (hG : Gc w) {SA : Option Addr} {l : List (List UInt8)} {m cap : Nat} (hm : l.length = m) (h : RowIs w w.heap.size SA (l.map fun s => Value.string ⟨⟨s⟩⟩)) (hcap : m ≤ cap) (hlen : ∀ s ∈ l, s.length ≤ 140737488351232) (hmb : m ≤ 1000000000) :
    Calls Tryz.prog 72 #[.slice SA m cap] w (OpdPost w (openedL l)) := by
  obtain ⟨R, HR⟩ : ∃ R, Hid (openedL l = R) := ⟨_, rfl⟩
  rw [HR.out]
  have hB0 : Below w.heap.size w (w.alloc (.cells #[.string ⟨#[]⟩, .int .i64 0, .int .i64 0, .slice none 0 0, .int .i64 0, .slice none 0 0] 43 (0, 0))) := (Below.refl _ _).alloc (Nat.le_refl _) _
  have hr0 := heap_alloc_new w (.cells #[.string ⟨#[]⟩, .int .i64 0, .int .i64 0, .slice none 0 0, .int .i64 0, .slice none 0 0] 43 (0, 0))
  obtain ⟨W0, hW0⟩ : ∃ W0, w.alloc (.cells #[.string ⟨#[]⟩, .int .i64 0, .int .i64 0, .slice none 0 0, .int .i64 0, .slice none 0 0] 43 (0, 0)) = W0 := ⟨_, rfl⟩
  have hW0s : W0.heap.size = w.heap.size + 1 := by rw [← hW0]; simp
  have HW0 := Lib.hid hW0
  rw [hW0] at hB0 hr0
  clear hW0
  have HB0 := Lib.hid hB0
  have HR0 := Lib.hid hr0
  by_cases h5 : m < 5
  · have hR : R = none := by
      rw [← HR.out]
      match l, hm with
      | [], _ => rfl
      | [_], _ => rfl
      | [_, _], _ => rfl
      | [_, _, _], _ => rfl
      | [_, _, _, _], _ => rfl
      | _ :: _ :: _ :: _ :: _ :: _, hm => simp at hm; omega
    subst hR
    have d : decide ((m : Int) < 5) = true := by simp; omega
    obtain ⟨hfr, c0, c1, c2, c3, c4, c5, hfin⟩ := opd_fail hB0 hr0
    have f0 := hfr 0 (by decide)
    have f1 := hfr 1 (by decide)
    have f2 := hfr 2 (by decide)
    have f3 := hfr 3 (by decide)
    have f4 := hfr 4 (by decide)
    have f5 := hfr 5 (by decide)
    have HFIN := Lib.hid hfin
    clear hB0 hr0 hfr hfin h hm
    go_enter Tryz.func72, Tryz.ntmps72
    go_upto_region 1 with fail
    simp only [HW0.out]
    go_wp2_with fail
    refine bodyPost_ret (opened_result _ _ w.heap.size (.string ⟨#[]⟩) (.int .i64 0) (.int .i64 0) (.slice none 0 0) (.int .i64 0) (.slice none 0 0) (.bool false) rfl rfl ?_ ?_ ?_ ?_ ?_ ?_) rfl (HFIN.out _ _ _ _ _ _)
    iterate 6 (· first | (simp [c0, c1, c2, c3, c4, c5]; done) | (go_simp; done))
  · obtain ⟨wd, nm, a, b, c, r, rfl⟩ : ∃ wd nm a b c r, l = wd :: nm :: a :: b :: c :: r := by
      match l, hm with
      | [], hm => simp at hm; omega
      | [_], hm => simp at hm; omega
      | [_, _], hm => simp at hm; omega
      | [_, _, _], hm => simp at hm; omega
      | [_, _, _, _], hm => simp at hm; omega
      | wd :: nm :: a :: b :: c :: r, _ => exact ⟨wd, nm, a, b, c, r, rfl⟩
    obtain ⟨M, hM⟩ : ∃ M, r.length = M := ⟨_, rfl⟩
    obtain rfl : m = M + 5 := by simp only [List.length_cons, hM] at hm; omega
    have HM := Lib.hid hM
    have HRE := HR.out
    rw [openedL_eq] at HRE
    obtain ⟨g, o, rfl, hg, hc⟩ := h.at (by simp)
    have c0 := hc 0 (.string ⟨⟨wd⟩⟩) rfl
    simp only [Nat.add_zero] at c0
    have c1 := hc 1 (.string ⟨⟨nm⟩⟩) rfl
    have d : decide (((M : Int) + 5) < 5) = false := by simp; omega
    have HRW : Hid (RowIs w w.heap.size (some ⟨g, o + 2, none⟩) ((a :: b :: c :: r).map fun s => Value.string ⟨⟨s⟩⟩)) := Lib.hid (.inr ⟨g, o + 2, rfl, hg, fun j v hj => by
      have := hc (2 + j) v (by rw [Nat.add_comm]; exact hj)
      rw [Nat.add_assoc]
      exact this⟩)
    have HG := Lib.hid hG
    have HL : Hid (∀ t ∈ a :: b :: c :: r, t.length ≤ 140737488351232) := Lib.hid fun t ht => hlen t (List.mem_cons_of_mem _ (List.mem_cons_of_mem _ ht))
    have hgl : g < W0.heap.size := by omega
    have c0 := old_cell0 c0 hB0
    have c1 := old_cell0 c1 hB0
    by_cases hwd : wd = [102, 117, 110, 99]
    · subst hwd
      by_cases hnm : nm = []
      · subst hnm
        have hR : R = none := by rw [← HRE, if_pos (.inr rfl)]
        subst hR
        obtain ⟨hfr, r0, r1, r2, r3, r4, r5, hfin⟩ := opd_fail hB0 hr0
        have f0 := hfr 0 (by decide)
        have f1 := hfr 1 (by decide)
        have f2 := hfr 2 (by decide)
        have f3 := hfr 3 (by decide)
        have f4 := hfr 4 (by decide)
        have f5 := hfr 5 (by decide)
        have HFIN := Lib.hid hfin
        clear hB0 hr0 hfr hfin h hm HRE hc hlen hG
        go_enter Tryz.func72, Tryz.ntmps72
        go_upto_region 1 with fail
        simp only [HW0.out]
        go_wp2_with fail
        refine bodyPost_ret (opened_result _ _ w.heap.size (.string ⟨#[]⟩) (.int .i64 0) (.int .i64 0) (.slice none 0 0) (.int .i64 0) (.slice none 0 0) (.bool false) rfl rfl ?_ ?_ ?_ ?_ ?_ ?_) rfl (HFIN.out _ _ _ _ _ _)
        iterate 6 (· first | (simp [r0, r1, r2, r3, r4, r5]; done) | (go_simp; done))
      · have e3 : nm.isEmpty = false := by simpa using hnm
        rw [if_neg (by simp [hnm])] at HRE
        have HRW0 : Hid (RowIs W0 W0.heap.size (some ⟨g, o + 2, none⟩) ((a :: b :: c :: r).map fun s => Value.string ⟨⟨s⟩⟩)) := Lib.hid ((HRW.out.keep hB0.block).more hB0.size)
        have HG0 : Hid (Gc W0) := Lib.hid (HG.out.up hB0)
        have hml : (a :: b :: c :: r).length = M + 3 := by simp [hM]
        clear h hm hc hlen hG HRW
        cases hi : intsL (a :: b :: c :: r) with
        | none =>
          rw [hi] at HRE
          have hR : R = none := HRE.symm
          subst hR
          have HI := Lib.hid hi
          have hpost : ∀ w2, Below W0.heap.size W0 w2 → Below w.heap.size w w2 ∧ w2.heap[w.heap.size]? = some (.cells #[.string ⟨#[]⟩, .int .i64 0, .int .i64 0, .slice none 0 0, .int .i64 0, .slice none 0 0] 43 (0, 0)) := fun w2 h => ⟨HB0.out.trans (h.mono HB0.out.size), (h.block _ (Array.getElem?_eq_some_iff.1 HR0.out).1).trans HR0.out⟩
          have HPO := Lib.hid hpost
          clear hB0 hr0 HRE hi hpost
          go_enter Tryz.func72, Tryz.ntmps72
          go_upto_region 1 with fail
          simp only [HW0.out]
          go_wp2_with (go_at_call 97; refine (ints_none (l := a :: b :: c :: r) HG0.out hml HRW0.out HI.out HL.out (by omega)).mono ?_; rintro e w2 ⟨rfl, hb2⟩; obtain ⟨hfr, r0, r1, r2, r3, r4, r5, hfin⟩ := opd_fail (HPO.out _ hb2).1 (HPO.out _ hb2).2; have f0 := hfr 0 (by decide); have f1 := hfr 1 (by decide); have f2 := hfr 2 (by decide); have f3 := hfr 3 (by decide); have f4 := hfr 4 (by decide); have f5 := hfr 5 (by decide); have HFIN := Lib.hid hfin; clear hfr hfin hb2)
          refine bodyPost_ret (opened_result _ _ w.heap.size (.string ⟨#[]⟩) (.int .i64 0) (.int .i64 0) (.slice none 0 0) (.int .i64 0) (.slice none 0 0) (.bool false) rfl rfl ?_ ?_ ?_ ?_ ?_ ?_) rfl (HFIN.out _ _ _ _ _ _)
          iterate 6 (· first | (simp [r0, r1, r2, r3, r4, r5]; done) | (go_simp; done))
        | some ns =>
          have hnl := ints_len hi
          rw [hml] at hnl
          obtain ⟨x, y, z, ts, rfl⟩ : ∃ x y z ts, ns = x :: y :: z :: ts := by
            match ns, hnl with
            | [], hnl => simp at hnl
            | [_], hnl => simp at hnl
            | [_, _], hnl => simp at hnl
            | x :: y :: z :: ts, _ => exact ⟨x, y, z, ts, rfl⟩
          have htl : ts.length = M := by simpa using hnl
          rw [hi] at HRE
          have hR : R = some ⟨⟨⟨if nm = [45] then [] else nm⟩⟩, x, y, ts, z, []⟩ := HRE.symm
          subst hR
          have HTL := Lib.hid htl
          have HI := Lib.hid hi
          clear HRE hi hnl htl
          go_enter Tryz.func72, Tryz.ntmps72
          go_upto_region 1 with fail
          simp only [HW0.out]
          go_upto_region 4 with (go_at_call 97; refine (ints_some (l := a :: b :: c :: r) HG0.out hml HRW0.out HI.out HL.out (by omega)).mono ?_; rintro e w2 ⟨v2, rfl, ho2, hb2⟩)
          obtain ⟨ig, icap, rfl, hig1, hig2⟩ := ho2.form (show 0 < M + 3 by omega)
          have hic := (own_row ho2).2
          have j0 := ho2.cells (g := ig) rfl 0 (.int .i64 x) rfl
          have j1 := ho2.cells (g := ig) rfl 1 (.int .i64 y) rfl
          have j2 := ho2.cells (g := ig) rfl 2 (.int .i64 z) rfl
          simp only [Addr.add_lit, Nat.zero_add] at j0 j1 j2
          have hij : ∀ j v, (ts.map (Value.int .i64))[j]? = some v → w2.cell? ⟨ig, 3 + j, none⟩ = some v := fun j v hj => by
            have := ho2.cells (g := ig) rfl (j + 3) v hj
            rwa [Addr.add_lit, Nat.zero_add, Nat.add_comm] at this
          have hic3 : 3 ≤ icap := by omega
          have d1 := old_cell0 c1 hb2
          have hr2 := (hb2.block w.heap.size (Array.getElem?_eq_some_iff.1 hr0).1).trans hr0
          have hB2 := hB0.trans (hb2.mono hB0.size)
          obtain ⟨rb, hrb⟩ : ∃ rb, w.heap.size = rb := ⟨_, rfl⟩
          simp only [hrb] at hr2 hB2 hW0s ⊢
          have hrl := (Array.getElem?_eq_some_iff.1 hr2).1
          have hrig : rb < ig := by omega
          have HB := Lib.hid hB2
          have HR := Lib.hid hr2
          have HIJ := Lib.hid hij
          clear ho2 hb2 hB0 hr0 HRW0 HG HG0 HI HL c0 c1 hg hB2 hr2 hij HB0 HR0 HW0 hgl hig1 hW0s
          have b5 : (1 : Int) < (M : Int) + 5 := by omega
          have b0 : (0 : Int) < (M : Int) + 3 := by omega
          have b1 : (1 : Int) < (M : Int) + 3 := by omega
          have b2 : (2 : Int) < (M : Int) + 3 := by omega
          have b3 : (3 : Int) ≤ (M : Int) + 3 := by omega
          go_upto_region 6 with fail
          go_cut [6] (fun s6 wx => ∃ (xb : Nat) (A : Option Addr) (ic : Nat), s6 = .pointer (some ⟨xb, 0, none⟩) ∧ rb < xb ∧ Hid (Below rb w wx) ∧ Hid (wx.heap[rb]? = some (.cells #[.string ⟨#[]⟩, .int .i64 0, .int .i64 0, .slice none 0 0, .int .i64 0, .slice none 0 0] 43 (0, 0))) ∧ Hid (wx.heap[xb]? = some (.cells #[.string ⟨⟨nm⟩⟩, .int .i64 x, .int .i64 y, .slice A M ic, .int .i64 z, .slice none 0 0] 43 (0, 0))) ∧ M ≤ ic ∧ Hid (∀ a, A = some a → rb < a.block ∧ a.block ≠ xb) ∧ Hid (RowIs wx wx.heap.size A (ts.map (Value.int .i64))))
          case first =>
            have HB : Hid (Below rb w w2.drew) := Lib.hid ⟨HB.out.os, HB.out.tape, HB.out.output, HB.out.size, HB.out.block⟩
            have HR := Lib.hid (show w2.drew.heap[rb]? = some (.cells #[.string ⟨#[]⟩, .int .i64 0, .int .i64 0, .slice none 0 0, .int .i64 0, .slice none 0 0] 43 (0, 0)) from HR.out)
            have HIJ := Lib.hid (show ∀ j v, (ts.map (Value.int .i64))[j]? = some v → w2.drew.cell? ⟨ig, 3 + j, none⟩ = some v from HIJ.out)
            have d1 : w2.drew.cell? ⟨g, o + 1, none⟩ = some (.string ⟨⟨nm⟩⟩) := d1
            have i0 : w2.drew.cell? ⟨ig, 0, none⟩ = some (.int .i64 x) := j0
            have i1 : w2.drew.cell? ⟨ig, 1, none⟩ = some (.int .i64 y) := j1
            have i2 : w2.drew.cell? ⟨ig, 2, none⟩ = some (.int .i64 z) := j2
            have hrl : rb < w2.drew.heap.size := hrl
            have hig2 : ig < w2.drew.heap.size := hig2
            clear j0 j1 j2
            rcases Nat.lt_or_eq_of_le hic3 with h3 | rfl
            · refine wp_region_G [] (fun u => u.cell? ⟨g, o + 1, none⟩ = some (.string ⟨⟨nm⟩⟩) ∧ u.cell? ⟨ig, 0, none⟩ = some (.int .i64 x) ∧ u.cell? ⟨ig, 1, none⟩ = some (.int .i64 y) ∧ u.cell? ⟨ig, 2, none⟩ = some (.int .i64 z)) (by rfl) ?_ (fun hHeld => ?_)
              · exact ⟨d1, i0, i1, i2⟩
              generalize hwd : World.drew w2 = wd2 at HB HR HIJ d1 i0 i1 i2 hrl hig2 hHeld ⊢
              refine wpAnyG_take (i := 0) (v := ?_) rfl (by kernel_rfl) (by kernel_rfl) (by kernel_rfl) (by kernel_rfl) (by kernel_rfl) (fun _ _ _ h => h) (Or.inl ⟨by rfl, ?_⟩) (by assumption) ?_
              rotate_left
              · (intro w hSw; (try dsimp only at hSw); go_simp; try with_reducible rfl)
              try simp only [nmC]
              refine wpAnyG_take (i := 1) (v := ?_) rfl (by kernel_rfl) (by kernel_rfl) (by kernel_rfl) (by kernel_rfl) (by kernel_rfl) (fun _ _ _ h => h) (Or.inl ⟨by rfl, ?_⟩) (by assumption) ?_
              rotate_left
              · (intro w hSw; (try dsimp only at hSw); go_simp; try with_reducible rfl)
              try simp only [nmC]
              refine wpAnyG_take (i := 2) (v := ?_) rfl (by kernel_rfl) (by kernel_rfl) (by kernel_rfl) (by kernel_rfl) (by kernel_rfl) (fun _ _ _ h => h) (Or.inl ⟨by rfl, ?_⟩) (by assumption) ?_
              rotate_left
              · (intro w hSw; (try dsimp only at hSw); go_simp; try with_reducible rfl)
              try simp only [nmC]
              refine wpAnyG_take (i := 3) (v := ?_) rfl (by kernel_rfl) (by kernel_rfl) (by kernel_rfl) (by kernel_rfl) (by kernel_rfl) (fun _ _ _ h => h) (Or.inl ⟨by rfl, ?_⟩) (by assumption) ?_
              rotate_left
              · (intro w hSw; (try dsimp only at hSw); go_simp; try with_reducible rfl)
              try simp only [nmC]
              refine wpAnyG_take (i := 4) (v := ?_) rfl (by kernel_rfl) (by kernel_rfl) (by kernel_rfl) (by kernel_rfl) (by kernel_rfl) (fun _ _ _ h => h) (Or.inl ⟨by rfl, ?_⟩) (by assumption) ?_
              rotate_left
              · (intro w hSw; (try dsimp only at hSw); go_simp; try with_reducible rfl)
              try simp only [nmC]
              refine wpAnyG_take (i := 5) (v := ?_) rfl (by kernel_rfl) (by kernel_rfl) (by kernel_rfl) (by kernel_rfl) (by kernel_rfl) (fun _ _ _ h => h) (Or.inl ⟨by rfl, ?_⟩) (by assumption) ?_
              rotate_left
              · (intro w hSw; (try dsimp only at hSw); go_simp; try with_reducible rfl)
              try simp only [nmC]
              refine wpAnyG_take (i := 6) (v := ?_) rfl (by kernel_rfl) (by kernel_rfl) (by kernel_rfl) (by kernel_rfl) (by kernel_rfl) (fun _ _ _ h => h) (Or.inl ⟨by rfl, ?_⟩) (by assumption) ?_
              rotate_left
              · (intro w hSw; (try dsimp only at hSw); go_simp; try with_reducible rfl)
              try simp only [nmC]
              refine wpAnyG_take (i := 7) (v := ?_) rfl (by kernel_rfl) (by kernel_rfl) (by kernel_rfl) (by kernel_rfl) (by kernel_rfl) (fun _ _ _ h => h) (Or.inl ⟨by rfl, ?_⟩) (by assumption) ?_
              rotate_left
              · (intro w hSw; (try dsimp only at hSw); go_simp; try with_reducible rfl)
              try simp only [nmC]
              refine wpAnyG_take (i := 8) (v := ?_) rfl (by kernel_rfl) (by kernel_rfl) (by kernel_rfl) (by kernel_rfl) (by kernel_rfl) (fun _ _ _ h => h) (Or.inl ⟨by rfl, ?_⟩) (by assumption) ?_
              rotate_left
              · (intro w hSw; (try dsimp only at hSw); go_simp; try with_reducible rfl)
              try simp only [nmC]
              refine wpAnyG_take (i := 9) (v := ?_) rfl (by kernel_rfl) (by kernel_rfl) (by kernel_rfl) (by kernel_rfl) (by kernel_rfl) (fun _ _ _ h => h) (Or.inl ⟨by rfl, ?_⟩) (by assumption) ?_
              rotate_left
              · (intro w hSw; (try dsimp only at hSw); go_simp; try with_reducible rfl)
              try simp only [nmC]
              refine wpAnyG_take (i := 10) (v := ?_) rfl (by kernel_rfl) (by kernel_rfl) (by kernel_rfl) (by kernel_rfl) (by kernel_rfl) (fun _ _ _ h => h) (Or.inl ⟨by rfl, ?_⟩) (by assumption) ?_
              rotate_left
              · (intro w hSw; (try dsimp only at hSw); go_simp; try with_reducible rfl)
              try simp only [nmC]
              refine wpAnyG_take (i := 11) (v := ?_) rfl (by kernel_rfl) (by kernel_rfl) (by kernel_rfl) (by kernel_rfl) (by kernel_rfl) (fun _ _ _ h => h) (Or.inl ⟨by rfl, ?_⟩) (by assumption) ?_
              rotate_left
              · (intro w hSw; (try dsimp only at hSw); go_simp; try with_reducible rfl)
              try simp only [nmC]
              refine wpAnyG_take (i := 12) (v := ?_) rfl (by kernel_rfl) (by kernel_rfl) (by kernel_rfl) (by kernel_rfl) (by kernel_rfl) (fun _ _ _ h => h) (Or.inl ⟨by rfl, ?_⟩) (by assumption) ?_
              rotate_left
              · (intro w hSw; (try dsimp only at hSw); go_simp; try with_reducible rfl)
              try simp only [nmC]
              refine wpAnyG_take (i := 13) (v := ?_) rfl (by kernel_rfl) (by kernel_rfl) (by kernel_rfl) (by kernel_rfl) (by kernel_rfl) (fun _ _ _ h => h) (Or.inl ⟨by rfl, ?_⟩) (by assumption) ?_
              rotate_left
              · (intro w hSw; (try dsimp only at hSw); go_simp; try with_reducible rfl)
              try simp only [nmC]
              refine wpAnyG_take (i := 14) (v := ?_) rfl (by kernel_rfl) (by kernel_rfl) (by kernel_rfl) (by kernel_rfl) (by kernel_rfl) (fun _ _ _ h => h) (Or.inl ⟨by rfl, ?_⟩) (by assumption) ?_
              rotate_left
              · (intro w hSw; (try dsimp only at hSw); go_simp; try with_reducible rfl)
              try simp only [nmC]
              refine wpAnyG_ready (rs := [15]) (by kernel_rfl) (by simp) ?_
              refine AllReadyG.cons rfl (fun KK hKK => ?_) AllReadyG.nil
              go_simp
              have hle : rb ≤ wd2.heap.size := by omega
              have HBo := HB
              refine hKK.out _ _ (⟨(World.cell?_of_block (a := ⟨g, o + 1, none⟩) (heap_alloc_old _ _ (World.block_lt_of_cell? wd2 _ d1))).trans d1, (World.cell?_of_block (a := ⟨ig, 0, none⟩) (heap_alloc_old _ _ hig2)).trans i0, (World.cell?_of_block (a := ⟨ig, 1, none⟩) (heap_alloc_old _ _ hig2)).trans i1, (World.cell?_of_block (a := ⟨ig, 2, none⟩) (heap_alloc_old _ _ hig2)).trans i2⟩) (fun hHeld => ?_)
              clear hKK KK
              try simp only [nmC]
              refine wpAnyG_ready (rs := [16]) (by kernel_rfl) (by simp) ?_
              refine AllReadyG.cons rfl (fun KK hKK => ?_) AllReadyG.nil
              go_simp
              have hle : rb ≤ wd2.heap.size := by omega
              refine hKK.out _ _ (⟨(World.cell?_of_block (a := ⟨g, o + 1, none⟩) (heap_alloc_old _ _ (World.block_lt_of_cell? wd2 _ d1))).trans d1, (World.cell?_of_block (a := ⟨ig, 0, none⟩) (heap_alloc_old _ _ hig2)).trans i0, (World.cell?_of_block (a := ⟨ig, 1, none⟩) (heap_alloc_old _ _ hig2)).trans i1, (World.cell?_of_block (a := ⟨ig, 2, none⟩) (heap_alloc_old _ _ hig2)).trans i2⟩) (fun hHeld => ?_)
              clear hKK KK
              try simp only [nmC]
              refine wpAnyG_done (by kernel_rfl) ?_ _
              try go_wp2_with fail
              go_meet
              refine ⟨wd2.heap.size, _, _, rfl, hrl, Lib.hid (HBo.out.alloc hle _), Lib.hid ((heap_alloc_old _ _ hrl).trans HR.out), Lib.hid (heap_alloc_new _ _), by omega, Lib.hid fun a ha => ?_, Lib.hid ?_⟩
              · obtain rfl := Option.some.inj ha
                exact ⟨hrig, by show ig ≠ wd2.heap.size; omega⟩
              · first
                  | exact .inl (by rw [List.eq_nil_of_length_eq_zero HTL.out]; rfl)
                  | exact .inr ⟨ig, 3, rfl, by rw [World.size_alloc]; omega, fun j v hj => (World.cell?_of_block (a := ⟨ig, 3 + j, none⟩) (heap_alloc_old _ _ hig2)).trans (HIJ.out j v hj)⟩
            · obtain rfl : M = 0 := by omega
              refine wp_region_G [] (fun u => u.cell? ⟨g, o + 1, none⟩ = some (.string ⟨⟨nm⟩⟩) ∧ u.cell? ⟨ig, 0, none⟩ = some (.int .i64 x) ∧ u.cell? ⟨ig, 1, none⟩ = some (.int .i64 y) ∧ u.cell? ⟨ig, 2, none⟩ = some (.int .i64 z)) (by rfl) ?_ (fun hHeld => ?_)
              · exact ⟨d1, i0, i1, i2⟩
              generalize hwd : World.drew w2 = wd2 at HB HR HIJ d1 i0 i1 i2 hrl hig2 hHeld ⊢
              refine wpAnyG_take (i := 0) (v := ?_) rfl (by kernel_rfl) (by kernel_rfl) (by kernel_rfl) (by kernel_rfl) (by kernel_rfl) (fun _ _ _ h => h) (Or.inl ⟨by rfl, ?_⟩) (by assumption) ?_
              rotate_left
              · (intro w hSw; (try dsimp only at hSw); go_simp; try with_reducible rfl)
              try simp only [nmC]
              refine wpAnyG_take (i := 1) (v := ?_) rfl (by kernel_rfl) (by kernel_rfl) (by kernel_rfl) (by kernel_rfl) (by kernel_rfl) (fun _ _ _ h => h) (Or.inl ⟨by rfl, ?_⟩) (by assumption) ?_
              rotate_left
              · (intro w hSw; (try dsimp only at hSw); go_simp; try with_reducible rfl)
              try simp only [nmC]
              refine wpAnyG_take (i := 2) (v := ?_) rfl (by kernel_rfl) (by kernel_rfl) (by kernel_rfl) (by kernel_rfl) (by kernel_rfl) (fun _ _ _ h => h) (Or.inl ⟨by rfl, ?_⟩) (by assumption) ?_
              rotate_left
              · (intro w hSw; (try dsimp only at hSw); go_simp; try with_reducible rfl)
              try simp only [nmC]
              refine wpAnyG_take (i := 3) (v := ?_) rfl (by kernel_rfl) (by kernel_rfl) (by kernel_rfl) (by kernel_rfl) (by kernel_rfl) (fun _ _ _ h => h) (Or.inl ⟨by rfl, ?_⟩) (by assumption) ?_
              rotate_left
              · (intro w hSw; (try dsimp only at hSw); go_simp; try with_reducible rfl)
              try simp only [nmC]
              refine wpAnyG_take (i := 4) (v := ?_) rfl (by kernel_rfl) (by kernel_rfl) (by kernel_rfl) (by kernel_rfl) (by kernel_rfl) (fun _ _ _ h => h) (Or.inl ⟨by rfl, ?_⟩) (by assumption) ?_
              rotate_left
              · (intro w hSw; (try dsimp only at hSw); go_simp; try with_reducible rfl)
              try simp only [nmC]
              refine wpAnyG_take (i := 5) (v := ?_) rfl (by kernel_rfl) (by kernel_rfl) (by kernel_rfl) (by kernel_rfl) (by kernel_rfl) (fun _ _ _ h => h) (Or.inl ⟨by rfl, ?_⟩) (by assumption) ?_
              rotate_left
              · (intro w hSw; (try dsimp only at hSw); go_simp; try with_reducible rfl)
              try simp only [nmC]
              refine wpAnyG_take (i := 6) (v := ?_) rfl (by kernel_rfl) (by kernel_rfl) (by kernel_rfl) (by kernel_rfl) (by kernel_rfl) (fun _ _ _ h => h) (Or.inl ⟨by rfl, ?_⟩) (by assumption) ?_
              rotate_left
              · (intro w hSw; (try dsimp only at hSw); go_simp; try with_reducible rfl)
              try simp only [nmC]
              refine wpAnyG_take (i := 7) (v := ?_) rfl (by kernel_rfl) (by kernel_rfl) (by kernel_rfl) (by kernel_rfl) (by kernel_rfl) (fun _ _ _ h => h) (Or.inl ⟨by rfl, ?_⟩) (by assumption) ?_
              rotate_left
              · (intro w hSw; (try dsimp only at hSw); go_simp; try with_reducible rfl)
              try simp only [nmC]
              refine wpAnyG_take (i := 8) (v := ?_) rfl (by kernel_rfl) (by kernel_rfl) (by kernel_rfl) (by kernel_rfl) (by kernel_rfl) (fun _ _ _ h => h) (Or.inl ⟨by rfl, ?_⟩) (by assumption) ?_
              rotate_left
              · (intro w hSw; (try dsimp only at hSw); go_simp; try with_reducible rfl)
              try simp only [nmC]
              refine wpAnyG_take (i := 9) (v := ?_) rfl (by kernel_rfl) (by kernel_rfl) (by kernel_rfl) (by kernel_rfl) (by kernel_rfl) (fun _ _ _ h => h) (Or.inl ⟨by rfl, ?_⟩) (by assumption) ?_
              rotate_left
              · (intro w hSw; (try dsimp only at hSw); go_simp; try with_reducible rfl)
              try simp only [nmC]
              refine wpAnyG_take (i := 10) (v := ?_) rfl (by kernel_rfl) (by kernel_rfl) (by kernel_rfl) (by kernel_rfl) (by kernel_rfl) (fun _ _ _ h => h) (Or.inl ⟨by rfl, ?_⟩) (by assumption) ?_
              rotate_left
              · (intro w hSw; (try dsimp only at hSw); go_simp; try with_reducible rfl)
              try simp only [nmC]
              refine wpAnyG_take (i := 11) (v := ?_) rfl (by kernel_rfl) (by kernel_rfl) (by kernel_rfl) (by kernel_rfl) (by kernel_rfl) (fun _ _ _ h => h) (Or.inl ⟨by rfl, ?_⟩) (by assumption) ?_
              rotate_left
              · (intro w hSw; (try dsimp only at hSw); go_simp; try with_reducible rfl)
              try simp only [nmC]
              refine wpAnyG_take (i := 12) (v := ?_) rfl (by kernel_rfl) (by kernel_rfl) (by kernel_rfl) (by kernel_rfl) (by kernel_rfl) (fun _ _ _ h => h) (Or.inl ⟨by rfl, ?_⟩) (by assumption) ?_
              rotate_left
              · (intro w hSw; (try dsimp only at hSw); go_simp; try with_reducible rfl)
              try simp only [nmC]
              refine wpAnyG_take (i := 13) (v := ?_) rfl (by kernel_rfl) (by kernel_rfl) (by kernel_rfl) (by kernel_rfl) (by kernel_rfl) (fun _ _ _ h => h) (Or.inl ⟨by rfl, ?_⟩) (by assumption) ?_
              rotate_left
              · (intro w hSw; (try dsimp only at hSw); go_simp; try with_reducible rfl)
              try simp only [nmC]
              refine wpAnyG_take (i := 14) (v := ?_) rfl (by kernel_rfl) (by kernel_rfl) (by kernel_rfl) (by kernel_rfl) (by kernel_rfl) (fun _ _ _ h => h) (Or.inl ⟨by rfl, ?_⟩) (by assumption) ?_
              rotate_left
              · (intro w hSw; (try dsimp only at hSw); go_simp; try with_reducible rfl)
              try simp only [nmC]
              refine wpAnyG_ready (rs := [15]) (by kernel_rfl) (by simp) ?_
              refine AllReadyG.cons rfl (fun KK hKK => ?_) AllReadyG.nil
              go_simp
              have hle : rb ≤ wd2.heap.size := by omega
              have HBo := HB
              refine hKK.out _ _ (⟨(World.cell?_of_block (a := ⟨g, o + 1, none⟩) (heap_alloc_old _ _ (World.block_lt_of_cell? wd2 _ d1))).trans d1, (World.cell?_of_block (a := ⟨ig, 0, none⟩) (heap_alloc_old _ _ hig2)).trans i0, (World.cell?_of_block (a := ⟨ig, 1, none⟩) (heap_alloc_old _ _ hig2)).trans i1, (World.cell?_of_block (a := ⟨ig, 2, none⟩) (heap_alloc_old _ _ hig2)).trans i2⟩) (fun hHeld => ?_)
              clear hKK KK
              try simp only [nmC]
              refine wpAnyG_ready (rs := [16]) (by kernel_rfl) (by simp) ?_
              refine AllReadyG.cons rfl (fun KK hKK => ?_) AllReadyG.nil
              go_simp
              have hle : rb ≤ wd2.heap.size := by omega
              refine hKK.out _ _ (⟨(World.cell?_of_block (a := ⟨g, o + 1, none⟩) (heap_alloc_old _ _ (World.block_lt_of_cell? wd2 _ d1))).trans d1, (World.cell?_of_block (a := ⟨ig, 0, none⟩) (heap_alloc_old _ _ hig2)).trans i0, (World.cell?_of_block (a := ⟨ig, 1, none⟩) (heap_alloc_old _ _ hig2)).trans i1, (World.cell?_of_block (a := ⟨ig, 2, none⟩) (heap_alloc_old _ _ hig2)).trans i2⟩) (fun hHeld => ?_)
              clear hKK KK
              try simp only [nmC]
              refine wpAnyG_done (by kernel_rfl) ?_ _
              try go_wp2_with fail
              go_meet
              refine ⟨wd2.heap.size, _, _, rfl, hrl, Lib.hid (HBo.out.alloc hle _), Lib.hid ((heap_alloc_old _ _ hrl).trans HR.out), Lib.hid (heap_alloc_new _ _), by omega, Lib.hid fun a ha => ?_, Lib.hid ?_⟩
              · obtain rfl := Option.some.inj ha
                exact ⟨hrig, by show ig ≠ wd2.heap.size; omega⟩
              · first
                  | exact .inl (by rw [List.eq_nil_of_length_eq_zero HTL.out]; rfl)
                  | exact .inr ⟨ig, 3, rfl, by rw [World.size_alloc]; omega, fun j v hj => (World.cell?_of_block (a := ⟨ig, 3 + j, none⟩) (heap_alloc_old _ _ hig2)).trans (HIJ.out j v hj)⟩
          case rest =>
            clear HB HR d1 j0 j1 j2 HIJ
            obtain ⟨xb, A, ic, rfl, hrx, HB, HR, HX, hMic, HAB, HRI⟩ := hcut
            have y0 := cell_of_row wc xb 0 _ _ _ HX.out
            have y1 := cell_of_row wc xb 1 _ _ _ HX.out
            have y2 := cell_of_row wc xb 2 _ _ _ HX.out
            have y3 := cell_of_row wc xb 3 _ _ _ HX.out
            have y4 := cell_of_row wc xb 4 _ _ _ HX.out
            have y5 := cell_of_row wc xb 5 _ _ _ HX.out
            have g0 := frozen_of_row wc xb 0 _ _ HX.out
            have r0 := cell_of_row wc rb 0 _ _ _ HR.out
            have r1 := cell_of_row wc rb 1 _ _ _ HR.out
            have r2 := cell_of_row wc rb 2 _ _ _ HR.out
            have r3 := cell_of_row wc rb 3 _ _ _ HR.out
            have r4 := cell_of_row wc rb 4 _ _ _ HR.out
            have r5 := cell_of_row wc rb 5 _ _ _ HR.out
            have f0 := frozen_of_row wc rb 0 _ _ HR.out
            have f1 := frozen_of_row wc rb 1 _ _ HR.out
            have f2 := frozen_of_row wc rb 2 _ _ HR.out
            have f3 := frozen_of_row wc rb 3 _ _ HR.out
            have f4 := frozen_of_row wc rb 4 _ _ HR.out
            have f5 := frozen_of_row wc rb 5 _ _ HR.out
            simp only [List.getElem?_toArray, List.getElem?_cons_zero, List.getElem?_cons_succ] at y0 y1 y2 y3 y4 y5 r0 r1 r2 r3 r4 r5
            have hxr : xb ≠ rb := by omega
            have hrx2 : rb ≠ xb := by omega
            have hle : rb ≤ xb := by omega
            have HROW : Hid (∀ (W : World), (∀ k, k ≠ rb → k ≠ xb → W.heap[k]? = wc.heap[k]?) → W.heap.size = wc.heap.size → RowIs W W.heap.size A (ts.map (Value.int .i64))) := Lib.hid fun W hk hsz => by
              rcases HRI.out with h | ⟨g, o, hA, hg, hc⟩
              · exact .inl h
              · have := HAB.out _ hA
                exact .inr ⟨g, o, hA, by rw [hsz]; exact hg, fun j v hj => (World.cell?_of_block (w := wc) (a := ⟨g, o + j, none⟩) (hk g (by have := this.1; simp only at this; omega) this.2)).trans (hc j v hj)⟩
            have hAB2 : ∀ a, A = some a → w.heap.size ≤ a.block := fun a ha => by rw [hrb]; exact Nat.le_of_lt (HAB.out a ha).1
            have HAB2 := Lib.hid hAB2
            clear hAB2
            by_cases h45 : nm = [45]
            · subst h45
              go_wp2_with fail
              refine bodyPost_ret (opened_result _ _ rb (.string ⟨#[]⟩) (.int .i64 x) (.int .i64 y) (.slice A M ic) (.int .i64 z) (.slice none 0 0) (.bool true) rfl rfl ?_ ?_ ?_ ?_ ?_ ?_) rfl ⟨?_, A, ic, by simp only [HTL.out], rfl, ?_, by rw [HTL.out]; exact hMic, HAB2.out⟩
              iterate 6 (· first | (simp [r0, r1, r2, r3, r4, r5]; done) | (go_simp; done))
              · rw [hrb]
                exact ((((((HB.out.setCell hle _).setCell (Nat.le_refl _) _).setCell (Nat.le_refl _) _).setCell (Nat.le_refl _) _).setCell (Nat.le_refl _) _).setCell (Nat.le_refl _) _).setCell (Nat.le_refl _) _
              · refine HROW.out _ (fun k h1 h2 => ?_) (by simp only [World.size_setCell])
                iterate 6 rw [Below.heap_setCell _ _ _ _ h1]
                exact Below.heap_setCell _ _ _ _ h2
            · have e45 : (nm == [45]) = false := by simpa using h45
              go_wp2_with fail
              refine bodyPost_ret (opened_result _ _ rb (.string ⟨⟨nm⟩⟩) (.int .i64 x) (.int .i64 y) (.slice A M ic) (.int .i64 z) (.slice none 0 0) (.bool true) rfl rfl ?_ ?_ ?_ ?_ ?_ ?_) rfl ⟨?_, A, ic, by simp only [HTL.out], rfl, ?_, by rw [HTL.out]; exact hMic, HAB2.out⟩
              iterate 6 (· first | (simp [r0, r1, r2, r3, r4, r5]; done) | (go_simp; done))
              · rw [hrb]
                exact (((((HB.out.setCell (Nat.le_refl _) _).setCell (Nat.le_refl _) _).setCell (Nat.le_refl _) _).setCell (Nat.le_refl _) _).setCell (Nat.le_refl _) _).setCell (Nat.le_refl _) _
              · refine HROW.out _ (fun k h1 h2 => ?_) (by simp only [World.size_setCell])
                iterate 6 rw [Below.heap_setCell _ _ _ _ h1]
    · have hR : R = none := by rw [← HRE, if_pos (.inl hwd)]
      subst hR
      have e1 : (wd == [102, 117, 110, 99]) = false := by simpa using hwd
      have e2 : (wd != [102, 117, 110, 99]) = true := by simpa using hwd
      obtain ⟨hfr, r0, r1, r2, r3, r4, r5, hfin⟩ := opd_fail hB0 hr0
      have f0 := hfr 0 (by decide)
      have f1 := hfr 1 (by decide)
      have f2 := hfr 2 (by decide)
      have f3 := hfr 3 (by decide)
      have f4 := hfr 4 (by decide)
      have f5 := hfr 5 (by decide)
      have HFIN := Lib.hid hfin
      clear hB0 hr0 hfr hfin h hm HRE hc hlen hG hwd
      go_enter Tryz.func72, Tryz.ntmps72
      go_upto_region 1 with fail
      simp only [HW0.out]
      go_wp2_with fail
      refine bodyPost_ret (opened_result _ _ w.heap.size (.string ⟨#[]⟩) (.int .i64 0) (.int .i64 0) (.slice none 0 0) (.int .i64 0) (.slice none 0 0) (.bool false) rfl rfl ?_ ?_ ?_ ?_ ?_ ?_) rfl (HFIN.out _ _ _ _ _ _)
      iterate 6 (· first | (simp [r0, r1, r2, r3, r4, r5]; done) | (go_simp; done))
end Go.Proofs.YtdjbkppdppdcgaaGreatDoor
