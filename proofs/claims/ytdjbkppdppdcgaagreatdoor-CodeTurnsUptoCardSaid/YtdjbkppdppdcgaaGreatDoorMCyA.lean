/- Whether two programs of code are one: instructions, guiseref13.ints, slices.Equal of instructions. Whether two programs of code are one: slices.Equal of instructions; guiseref13.Same. code.forms, code.goes. code.goes. -/
import Derived.BigQuiet
import Derived.Deep.DeepCutAuto
import Derived.Laws.StructEq
import Derived.Laws.Tables
import Derived.Test.YtdjbkppdppdcgaaGreatDoorMScan1
import Derived.Test.YtdjbkppdppdcgaaGreatDoorMCdE
import Derived.Test.YtdjbkppdppdcgaaGreatDoorCount
namespace Go.Proofs.YtdjbkppdppdcgaaGreatDoor
open Go.RowKit

theorem neq_inst (x y : Ci) (w : World) : (binOp .neq 46 (.agg #[.int .i64 x.op, .int .i64 x.a, .int .i64 x.b, .string x.text, .int .i64 x.at_]) (.agg #[.int .i64 y.op, .int .i64 y.a, .int .i64 y.b, .string y.text, .int .i64 y.at_])).run Tryz.prog w = .ok (.bool (!sameI x y)) w := by
  have hS : Tryz.prog.underlying 46 = some (.struct (Tryz.prog.fieldsOf 46)) := by kernel_rfl
  have hp : Tryz.prog.stoodInHeld 46 = false := by kernel_rfl
  rw [run_neq_struct, show (10000 : Nat) = 9999 + 1 from rfl, run_equalIn_agg w 9999 _ _ _ hS hp]
  simp only [Program.fieldsOf, Tryz.underlying46]
  go_simp
  have ht : x.text.toList = y.text.toList ↔ x.text = y.text := ⟨toList_inj, congrArg _⟩
  unfold sameI
  by_cases h1 : x.op = y.op <;> by_cases h2 : x.a = y.a <;> by_cases h3 : x.b = y.b <;> by_cases h4 : x.text = y.text <;> by_cases h5 : x.at_ = y.at_ <;> simp [ht, h1, h2, h3, h4, h5]
theorem int_cells {w : World} {A : Option Addr} {l : List Int} (h : RowIs w w.heap.size A (l.map (Value.int .i64))) {j : Nat} {x : Int} (hx : l[j]? = some x) :
    ∃ g o, A = some ⟨g, o, none⟩ ∧ ∀ wr, Below w.heap.size w wr → ∀ n, (wr.drewN n).cell? ⟨g, o + j, none⟩ = some (.int .i64 x) := by
  have hj : j < l.length := (List.getElem?_eq_some_iff.1 hx).1
  obtain ⟨g, o, rfl, hg, hc⟩ := h.at (by rw [List.length_map]; omega)
  exact ⟨g, o, rfl, fun wr hb n => (World.cell?_of_block (w := w) (a := ⟨g, o + j, none⟩) (hb.block g hg)).trans (hc j _ (by simp [hx]))⟩
theorem beq_cons (x y : Int) (l r : List Int) : (x :: l == y :: r) = (x == y && l == r) := rfl

set_option maxRecDepth 100000 in
set_option maxHeartbeats 4000000 in
theorem ints13_any {w : World} {A A' : Option Addr} {l l' : List Int} {c c' n m : Nat} (hn : l.length = n) (hm : l'.length = m) (h : RowIs w w.heap.size A (l.map (Value.int .i64))) (h' : RowIs w w.heap.size A' (l'.map (Value.int .i64))) (hb : n ≤ 140737488351232) :
    Calls Tryz.prog 20 #[.slice A n c, .slice A' m c'] w fun e w' => e = .returned (.bool (l == l')) ∧ Below w.heap.size w w' := by
  have H := Lib.hid h
  have H' := Lib.hid h'
  have HN := Lib.hid hn
  have HM := Lib.hid hm
  obtain ⟨R, HR⟩ : ∃ R, Hid ((l == l') = R) := ⟨_, rfl⟩
  rw [HR.out]
  clear h h' hn hm
  by_cases e : n = m
  · subst e
    have e1 : ((n : Int) != (n : Int)) = false := by simp
    go_enter Tryz.func20, Tryz.ntmps20
    go_wp2_with fail
    go_loopw [5] (fun i wr => ∃ j : Nat, i = .int .i64 j ∧ j ≤ n ∧ Hid (Below w.heap.size w wr) ∧ Hid ((l.drop j == l'.drop j) = R)) (fun i _ => n - (intOf i).toNat)
    case atStart => exact ⟨0, rfl, Nat.zero_le _, Lib.hid (Below.refl _ _), by simpa using HR⟩
    case round =>
      obtain ⟨j, rfl, hj, HB, HQ⟩ := hrel
      by_cases hlt : j < n
      · obtain ⟨x, hx⟩ : ∃ x, l[j]? = some x := ⟨_, List.getElem?_eq_getElem (by rw [HN.out]; exact hlt)⟩
        obtain ⟨y, hy⟩ : ∃ y, l'[j]? = some y := ⟨_, List.getElem?_eq_getElem (by rw [HM.out]; exact hlt)⟩
        obtain ⟨g, o, rfl, hc⟩ := int_cells H.out hx
        obtain ⟨g', o', rfl, hc'⟩ := int_cells H'.out hy
        have c1 := hc wr HB.out
        have c2 := hc' wr HB.out
        have hq := HQ.out
        rw [drop_cons hx, drop_cons hy, beq_cons] at hq
        clear hc hc' hx hy
        by_cases hxy : x = y
        · have e2 : (x != y) = false := by simp [hxy]
          have HQ2 : Hid ((l.drop (j + 1) == l'.drop (j + 1)) = R) := Lib.hid (by rw [← hq, hxy]; simp)
          clear hq
          go_upto_region 6 with fail
          go_quiet (fail)
          go_wp2_with fail
          go_roundw
          case rel => exact ⟨j + 1, by simp, by omega, Lib.hid ⟨HB.out.os, HB.out.tape, HB.out.output, HB.out.size, HB.out.block⟩, HQ2⟩
          case measure => simp [intOf]; omega
        · have e2 : (x != y) = true := by simp [hxy]
          have hR : R = false := by rw [← hq]; simp [hxy]
          clear hq
          subst hR
          go_upto_region 6 with fail
          go_quiet (fail)
          go_wp2_with fail
          go_ret
          exact ⟨rfl, ⟨HB.out.os, HB.out.tape, HB.out.output, HB.out.size, HB.out.block⟩⟩
      · obtain rfl : j = n := by omega
        have hR : R = true := by
          rw [← HQ.out, List.drop_of_length_le (by rw [HN.out]; exact Nat.le_refl _), List.drop_of_length_le (by rw [HM.out]; exact Nat.le_refl _)]
          rfl
        subst hR
        go_wp2_with fail
        go_ret
        exact ⟨rfl, HB.out⟩
  · have e1 : ((n : Int) != (m : Int)) = true := by simp; omega
    have hR : R = false := by
      rw [← HR.out, beq_eq_false_iff_ne]
      intro h
      rw [h] at HN
      exact e (HN.out.symm.trans HM.out)
    subst hR
    go_enter Tryz.func20, Tryz.ntmps20
    go_wp2_with fail
    go_ret
    exact ⟨rfl, Below.refl _ _⟩
end Go.Proofs.YtdjbkppdppdcgaaGreatDoor

namespace Go.Proofs.YtdjbkppdppdcgaaGreatDoor
open Go.RowKit

theorem old_cell {W wr : World} {p : Addr} {v : Value} (h : W.cell? p = some v) (hb : Below W.heap.size W wr) : ∀ n, (wr.drewN n).cell? p = some v :=
  fun _ => (World.cell?_of_block (w := W) (a := p) (hb.block p.block (World.block_lt_of_cell? W _ h))).trans h
theorem old_cell0 {W wr : World} {p : Addr} {v : Value} (h : W.cell? p = some v) (hb : Below W.heap.size W wr) : wr.cell? p = some v := old_cell h hb 0
theorem under_drew {B : Nat} {w W : World} (h : Below B w W) (n : Nat) : Below B w (W.drewN n) := ⟨h.os, h.tape, h.output, h.size, h.block⟩
theorem ins_row {w : World} {A : Option Addr} {l : List Ci} (h : RowIs w w.heap.size A (l.flatMap insCells)) {j : Nat} {x : Ci} (hx : l[j]? = some x) :
    ∃ g o, A = some ⟨g, o, none⟩ ∧ w.cell? ⟨g, o + j * 5, none⟩ = some (.int .i64 x.op) ∧ w.cell? ⟨g, o + j * 5 + 1, none⟩ = some (.int .i64 x.a) ∧ w.cell? ⟨g, o + j * 5 + 2, none⟩ = some (.int .i64 x.b) ∧ w.cell? ⟨g, o + j * 5 + 3, none⟩ = some (.string x.text) ∧ w.cell? ⟨g, o + j * 5 + 4, none⟩ = some (.int .i64 x.at_) := by
  have hj : j < l.length := (List.getElem?_eq_some_iff.1 hx).1
  obtain ⟨g, o, rfl, hg, hc⟩ := h.at (by rw [flat_len ins_len]; omega)
  exact ⟨g, o, rfl, ins_at hc hx⟩
theorem sameIs_cons (x y : Ci) (l r : List Ci) : sameIs (x :: l) (y :: r) = (sameI x y && sameIs l r) := rfl
theorem sameIs_len {l r : List Ci} (h : l.length ≠ r.length) : sameIs l r = false := by
  rw [Bool.eq_false_iff]
  intro e
  rw [sameIs_iff] at e
  exact h (by rw [e])

set_option maxRecDepth 100000 in
set_option maxHeartbeats 4000000 in
theorem equalIns_any {w : World} {A A' : Option Addr} {l l' : List Ci} {c c' n m : Nat} (hn : l.length = n) (hm : l'.length = m) (h : RowIs w w.heap.size A (l.flatMap insCells)) (h' : RowIs w w.heap.size A' (l'.flatMap insCells)) (hb : n ≤ 140737488351232) :
    Calls Tryz.prog 25 #[.slice A n c, .slice A' m c'] w fun e w' => e = .returned (.bool (sameIs l l')) ∧ Below w.heap.size w w' := by
  have H := Lib.hid h
  have H' := Lib.hid h'
  have HN := Lib.hid hn
  have HM := Lib.hid hm
  obtain ⟨R, HR⟩ : ∃ R, Hid (sameIs l l' = R) := ⟨_, rfl⟩
  rw [HR.out]
  clear h h' hn hm
  by_cases e : n = m
  · subst e
    have e1 : ((n : Int) != (n : Int)) = false := by simp
    go_enter Tryz.func25, Tryz.ntmps25
    go_wp2_with fail
    go_loopw [13] (fun i wr => ∃ j : Nat, i = .int .i64 j ∧ j ≤ n ∧ Hid (Below w.heap.size w wr) ∧ Hid (sameIs (l.drop j) (l'.drop j) = R)) (fun i _ => n - (intOf i).toNat)
    case atStart => exact ⟨0, rfl, Nat.zero_le _, Lib.hid (Below.refl _ _), by simpa using HR⟩
    case round =>
      obtain ⟨j, rfl, hj, HB, HQ⟩ := hrel
      by_cases hlt : j < n
      · obtain ⟨x, hx⟩ : ∃ x, l[j]? = some x := ⟨_, List.getElem?_eq_getElem (by rw [HN.out]; exact hlt)⟩
        obtain ⟨y, hy⟩ : ∃ y, l'[j]? = some y := ⟨_, List.getElem?_eq_getElem (by rw [HM.out]; exact hlt)⟩
        obtain ⟨g, o, rfl, x0, x1, x2, x3, x4⟩ := ins_row H.out hx
        obtain ⟨g', o', rfl, y0, y1, y2, y3, y4⟩ := ins_row H'.out hy
        have c0 := old_cell x0 HB.out
        have c1 := old_cell x1 HB.out
        have c2 := old_cell x2 HB.out
        have c3 := old_cell x3 HB.out
        have c4 := old_cell x4 HB.out
        have d0 := old_cell y0 HB.out
        have d1 := old_cell y1 HB.out
        have d2 := old_cell y2 HB.out
        have d3 := old_cell y3 HB.out
        have d4 := old_cell y4 HB.out
        have hq := HQ.out
        rw [drop_cons hx, drop_cons hy, sameIs_cons] at hq
        clear hx hy x0 x1 x2 x3 x4 y0 y1 y2 y3 y4
        have hne := neq_inst x y
        cases hxy : sameI x y with
        | true =>
          rw [hxy] at hne
          have HQ2 : Hid (sameIs (l.drop (j + 1)) (l'.drop (j + 1)) = R) := Lib.hid (by rw [← hq, hxy]; simp)
          clear hq hxy
          go_upto_region 6 with fail
          go_quiet (fail)
          go_wp2_with fail
          go_roundw
          case rel => exact ⟨j + 1, by simp, by omega, Lib.hid (under_drew HB.out _), HQ2⟩
          case measure => simp [intOf]; omega
        | false =>
          rw [hxy] at hne
          have hR : R = false := by rw [← hq]; simp [hxy]
          clear hq hxy
          subst hR
          go_upto_region 6 with fail
          go_quiet (fail)
          go_wp2_with fail
          go_ret
          exact ⟨rfl, under_drew HB.out _⟩
      · obtain rfl : j = n := by omega
        have hR : R = true := by
          rw [← HQ.out, List.drop_of_length_le (by rw [HN.out]; exact Nat.le_refl _), List.drop_of_length_le (by rw [HM.out]; exact Nat.le_refl _)]
          rfl
        subst hR
        go_wp2_with fail
        go_ret
        exact ⟨rfl, HB.out⟩
  · have e1 : ((n : Int) != (m : Int)) = true := by simp; omega
    have hR : R = false := by
      rw [← HR.out]
      exact sameIs_len (by rw [HN.out, HM.out]; exact e)
    subst hR
    go_enter Tryz.func25, Tryz.ntmps25
    go_wp2_with fail
    go_ret
    exact ⟨rfl, Below.refl _ _⟩
end Go.Proofs.YtdjbkppdppdcgaaGreatDoor

namespace Go.Proofs.YtdjbkppdppdcgaaGreatDoor
open Go.RowKit

def formCells (f : Cform) : List Value := [.string ⟨⟨f.word⟩⟩, .int .i64 f.a, .int .i64 f.text, .string ⟨⟨f.takes⟩⟩, .string ⟨⟨f.lays⟩⟩]
def formV (f : Cform) : Value := .agg #[.string ⟨⟨f.word⟩⟩, .int .i64 f.a, .int .i64 f.text, .string ⟨⟨f.takes⟩⟩, .string ⟨⟨f.lays⟩⟩]
theorem form_len (f : Cform) : (formCells f).length = 5 := rfl

theorem forms_result (tmps : Array Value) (W : World) (g : Nat) (v0 v1 v2 v3 v4 : Value) (h2 : tmps.getD 2 undef = .pointer (some ⟨g, 0, none⟩)) (e0 : W.cell? ⟨g, 0, none⟩ = some v0) (e1 : W.cell? ⟨g, 1, none⟩ = some v1) (e2 : W.cell? ⟨g, 2, none⟩ = some v2) (e3 : W.cell? ⟨g, 3, none⟩ = some v3) (e4 : W.cell? ⟨g, 4, none⟩ = some v4) :
    (results Tryz.f39 tmps).run Tryz.prog W = .ok (.agg #[v0, v1, v2, v3, v4]) W := by
  have h2' : tmps[2]?.getD undef = .pointer (some ⟨g, 0, none⟩) := by simpa using h2
  have hres : Tryz.f39.results = #[ResultVar.cell 2 80] := rfl
  simp [results, go_sem, h2', e0, e1, e2, e3, e4]

set_option maxRecDepth 100000 in
set_option maxHeartbeats 4000000 in
theorem forms_any (op : Int) (w : World) : Calls Tryz.prog 39 #[.int .i64 op] w fun e w' => e = .returned (formV (formOf op)) ∧ Below w.heap.size w w' := by
  go_enter Tryz.func39, Tryz.ntmps39
  go_upto_region 2 with fail
  refine wp_build _ _ rfl (by kernel_rfl) ?_
  obtain ⟨T, hT⟩ : ∃ T : Array Value, (formsT.flatMap formCells).toArray = T := ⟨_, rfl⟩
  have hb : ∀ (x : Array Value), x = (formsT.flatMap formCells).toArray → x = T := fun x h => h.trans hT
  rw [hb (Option.getD _ #[]) (by kernel_rfl)]
  clear hb
  have hsz : T.size = 270 := by rw [← hT]; kernel_rfl
  have h1 : ∀ v ∈ T.toList, v.oneCell' = true := by rw [← hT]; exact of_decide_eq_true (by kernel_rfl)
  have hst : (storeCells ⟨w.heap.size + 1, 0, none⟩ T.toList).run Tryz.prog ((w.alloc (.cells #[.string ⟨#[]⟩, .int .i64 0, .int .i64 0, .string ⟨#[]⟩, .string ⟨#[]⟩] 80)).alloc (.cells Tryz.zeroCells118 118)) =
      .ok () (((w.alloc (.cells #[.string ⟨#[]⟩, .int .i64 0, .int .i64 0, .string ⟨#[]⟩, .string ⟨#[]⟩] 80)).alloc (.cells Tryz.zeroCells118 118)).setRow (w.heap.size + 1) T) := by
    have hg := heap_alloc_new (w.alloc (.cells #[.string ⟨#[]⟩, .int .i64 0, .int .i64 0, .string ⟨#[]⟩, .string ⟨#[]⟩] 80)) (.cells Tryz.zeroCells118 118)
    rw [World.size_alloc] at hg
    have := run_storeCells_from (P := Tryz.prog) (w.heap.size + 1) 118 T.toList 0 _ _ hg (by rw [Array.length_toList, hsz]; kernel_rfl) h1
    simpa using this
  obtain ⟨W2, hW2⟩ : ∃ W2, ((w.alloc (.cells #[.string ⟨#[]⟩, .int .i64 0, .int .i64 0, .string ⟨#[]⟩, .string ⟨#[]⟩] 80)).alloc (.cells Tryz.zeroCells118 118)).setRow (w.heap.size + 1) T = W2 := ⟨_, rfl⟩
  rw [hW2] at hst
  obtain ⟨hsz2, hg2, hg1, hbel⟩ := setRow_facts _ _ _ _ _ _ _ hW2
  have e0 := cell_of_row W2 w.heap.size 0 _ _ _ hg1
  have e1 := cell_of_row W2 w.heap.size 1 _ _ _ hg1
  have e2 := cell_of_row W2 w.heap.size 2 _ _ _ hg1
  have e3 := cell_of_row W2 w.heap.size 3 _ _ _ hg1
  have e4 := cell_of_row W2 w.heap.size 4 _ _ _ hg1
  simp only [List.getElem?_toArray, List.getElem?_cons_zero, List.getElem?_cons_succ] at e0 e1 e2 e3 e4
  have HB := Lib.hid hbel
  have HG := Lib.hid hg2
  have HT := Lib.hid hT
  clear hT h1 hW2 hbel hg2
  have hfz : ∀ i, W2.frozen? ⟨w.heap.size, i, none⟩ = false := fun i => by simp [World.frozen?, hg1]
  have f0 := hfz 0
  have f1 := hfz 1
  have f2 := hfz 2
  have f3 := hfz 3
  have f4 := hfz 4
  have HG1 := Lib.hid hg1
  clear hg1 hfz
  by_cases hlo : op < 1
  · have d0 : decide (op < 1) = true := decide_eq_true hlo
    go_wp2_with fail
    refine bodyPost_ret (forms_result _ _ w.heap.size (.string ⟨#[]⟩) (.int .i64 0) (.int .i64 0) (.string ⟨#[]⟩) (.string ⟨#[]⟩) rfl ?_ ?_ ?_ ?_ ?_) rfl ⟨?_, ?_⟩
    iterate 5 (· first | (simp [e0, e1, e2, e3, e4]; done) | (go_simp; done))
    · rw [show formOf op = .no from if_neg (by omega)]; rfl
    · exact ((((HB.out.setCell (Nat.le_refl _) _).setCell (Nat.le_refl _) _).setCell (Nat.le_refl _) _).setCell (Nat.le_refl _) _).setCell (Nat.le_refl _) _
  · by_cases hhi : 53 < op
    · have d0 : decide (op < 1) = false := decide_eq_false hlo
      have d1 : decide (53 < op) = true := decide_eq_true hhi
      go_wp2_with fail
      refine bodyPost_ret (forms_result _ _ w.heap.size (.string ⟨#[]⟩) (.int .i64 0) (.int .i64 0) (.string ⟨#[]⟩) (.string ⟨#[]⟩) rfl ?_ ?_ ?_ ?_ ?_) rfl ⟨?_, ?_⟩
      iterate 5 (· first | (simp [e0, e1, e2, e3, e4]; done) | (go_simp; done))
      · rw [show formOf op = .no from if_neg (by omega)]; rfl
      · exact ((((HB.out.setCell (Nat.le_refl _) _).setCell (Nat.le_refl _) _).setCell (Nat.le_refl _) _).setCell (Nat.le_refl _) _).setCell (Nat.le_refl _) _
    · obtain ⟨n, rfl⟩ : ∃ n : Nat, op = n := ⟨op.toNat, by omega⟩
      have hn : n < 54 := by omega
      obtain ⟨F, hF⟩ : ∃ F, formsT[n]? = some F := ⟨_, List.getElem?_eq_getElem (show n < formsT.length from hn)⟩
      have hform : formOf n = F := by
        unfold formOf
        rw [if_pos (by omega), List.getD_eq_getElem?_getD]
        simp [hF]
      have hcell : ∀ k, k < 5 → W2.cell? ⟨w.heap.size + 1, n * 5 + k, none⟩ = (formCells F)[k]? := by
        intro k hk
        rw [cell_of_row W2 (w.heap.size + 1) (n * 5 + k) _ _ _ HG.out, ← HT.out, List.getElem?_toArray]
        exact flat_at form_len formsT n F hF k hk
      have t0 := hcell 0 (by omega)
      have t1 := hcell 1 (by omega)
      have t2 := hcell 2 (by omega)
      have t3 := hcell 3 (by omega)
      have t4 := hcell 4 (by omega)
      simp only [formCells, List.getElem?_cons_zero, List.getElem?_cons_succ, Nat.add_zero] at t0 t1 t2 t3 t4
      have HF := Lib.hid hform
      clear hcell hF hform
      have d0 : decide ((n : Int) < 1) = false := decide_eq_false hlo
      have d1 : decide (53 < (n : Int)) = false := decide_eq_false hhi
      have hn5 : n * 5 + 5 ≤ 270 := by omega
      go_wp2_with fail
      refine bodyPost_ret (forms_result _ _ w.heap.size (.string ⟨⟨F.word⟩⟩) (.int .i64 F.a) (.int .i64 F.text) (.string ⟨⟨F.takes⟩⟩) (.string ⟨⟨F.lays⟩⟩) rfl ?_ ?_ ?_ ?_ ?_) rfl ⟨?_, ?_⟩
      iterate 5 (· first | (simp [e0, e1, e2, e3, e4]; done) | (go_simp; done))
      · rw [HF.out]; rfl
      · exact ((((HB.out.setCell (Nat.le_refl _) _).setCell (Nat.le_refl _) _).setCell (Nat.le_refl _) _).setCell (Nat.le_refl _) _).setCell (Nat.le_refl _) _

end Go.Proofs.YtdjbkppdppdcgaaGreatDoor

namespace Go.Proofs.YtdjbkppdppdcgaaGreatDoor
open Go.RowKit

theorem forms_call (op : Int) (w : World) : Calls Tryz.prog 39 #[.int .i64 op] w fun e w' => e = .returned (.agg #[.string ⟨⟨(formOf op).word⟩⟩, .int .i64 (formOf op).a, .int .i64 (formOf op).text, .string ⟨⟨(formOf op).takes⟩⟩, .string ⟨⟨(formOf op).lays⟩⟩]) ∧ Below w.heap.size w w' := forms_any op w
section
variable (a b c d e : Value) (w : World)
theorem fieldFm0 : Sem.run Tryz.prog (Instr.field 80 (.agg #[a, b, c, d, e]) 0) w = .ok a w := by kernel_rfl
theorem fieldFm1 : Sem.run Tryz.prog (Instr.field 80 (.agg #[a, b, c, d, e]) 1) w = .ok b w := by kernel_rfl
theorem fieldFm2 : Sem.run Tryz.prog (Instr.field 80 (.agg #[a, b, c, d, e]) 2) w = .ok c w := by kernel_rfl
end
attribute [local go_sem] fieldFm1
set_option maxRecDepth 100000 in
theorem goes_any (op : Int) (w : World) : Calls Tryz.prog 59 #[.int .i64 op] w fun e w' => e = .returned (.bool (goesB op)) ∧ Below w.heap.size w w' := by
  have HF := Lib.hid (forms_call op)
  have HG : Hid (goesB op = ((formOf op).a == 10)) := rfl
  generalize formOf op = F at HF HG
  go_enter Tryz.func59, Tryz.ntmps59
  go_wp2_with (go_at_call 39; refine (HF.out _).mono ?_; rintro e w1 ⟨rfl, hb1⟩)
  go_ret
  exact ⟨ret_bool (by rw [HG.out]; rw [Bool.eq_iff_iff]; simp; omega), hb1⟩
end Go.Proofs.YtdjbkppdppdcgaaGreatDoor
