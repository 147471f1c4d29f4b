/- guiselaw2.word, both. guiselaw2.examples. -/
import Derived.Deep.RegionWith
import Derived.Deep.RegionHeld3
import Derived.Deep.DrawnRows
import Derived.Deep.DeepCutAuto
import Derived.Deep.Cut
import Derived.Deep.CutRange
import Derived.Test.YtjpmghgmmeemkaaGreatDoorExPlain
import Derived.Test.YtjpmghgmmeemkaaGreatDoorTold
import Derived.Test.YtjpmghgmmeemkaaGreatDoorJSame
namespace Go.Proofs.YtjpmghgmmeemkaaGreatDoor
open Go.RowKit

set_option maxRecDepth 100000 in
theorem word_any (s : ByteArray) (w : World) (hs : s.size ≤ 140737488351232) : Calls Tryz.prog 23 #[.string s] w fun e w' =>
    e = .returned (.agg #[.int .i64 14, .string s, .int .i64 0, .int .i64 0, .slice none 0 0]) ∧ Below w.heap.size w w' ∧ Lies w' w'.heap.size (.mk 14 s 0 0 []) (.agg #[.int .i64 14, .string s, .int .i64 0, .int .i64 0, .slice none 0 0]) := by
  have hl : ∀ W : World, Lies W W.heap.size (.mk 14 s 0 0 []) (.agg #[.int .i64 14, .string s, .int .i64 0, .int .i64 0, .slice none 0 0]) := fun W => by
    unfold Lies
    exact ⟨none, 0, rfl, by unfold okI; omega, by unfold okI; omega, by unfold okI; omega, hs, by simp, by omega, .inl rfl⟩
  have HL := Lib.hid hl
  clear hl
  go_enter Tryz.func23, Tryz.ntmps23
  go_wp2
  exact bodyPost_ret (results_cell_row rfl _ _ w.heap.size 24 _ _ _ rfl (heap_alloc_new w _) Tryz.underlying24 rfl (by kernel_rfl)) rfl ⟨rfl, (Below.refl _ _).alloc (Nat.le_refl _) _, HL.out _⟩

set_option maxRecDepth 100000 in
set_option maxHeartbeats 1000000 in
theorem both_any (op : ByteArray) (k1 : Int) (s1 : ByteArray) (n1 a1 : Int) (A1 : Option Addr) (l1 c1 : Nat) (k2 : Int) (s2 : ByteArray) (n2 a2 : Int) (A2 : Option Addr) (l2 c2 : Nat) (t1 t2 : Nd) (w : World) (hs : op.size ≤ 140737488351232)
    (h1 : Lies w w.heap.size t1 (.agg #[.int .i64 k1, .string s1, .int .i64 n1, .int .i64 a1, .slice A1 l1 c1])) (h2 : Lies w w.heap.size t2 (.agg #[.int .i64 k2, .string s2, .int .i64 n2, .int .i64 a2, .slice A2 l2 c2])) :
    Calls Tryz.prog 22 #[.string op, .agg #[.int .i64 k1, .string s1, .int .i64 n1, .int .i64 a1, .slice A1 l1 c1], .agg #[.int .i64 k2, .string s2, .int .i64 n2, .int .i64 a2, .slice A2 l2 c2]] w fun e w' =>
      ∃ b, e = .returned (.agg #[.int .i64 51, .string op, .int .i64 0, .int .i64 0, .slice (some ⟨b, 0, none⟩) 2 2]) ∧ Below w.heap.size w w' ∧ Lies w' w'.heap.size (.mk 51 op 0 0 [t1, t2]) (.agg #[.int .i64 51, .string op, .int .i64 0, .int .i64 0, .slice (some ⟨b, 0, none⟩) 2 2]) := by
  have H1 := Lib.hid h1
  have H2 := Lib.hid h2
  clear h1 h2
  go_enter Tryz.func22, Tryz.ntmps22
  go_wp2
  have hb : Below w.heap.size w ((((w.alloc (.cells #[.int .i64 k1, .string s1, .int .i64 n1, .int .i64 a1, .slice A1 l1 c1] 24)).alloc (.cells #[.int .i64 k2, .string s2, .int .i64 n2, .int .i64 a2, .slice A2 l2 c2] 24)).alloc (.cells #[.int .i64 51, .string op, .int .i64 0, .int .i64 0, .slice (some ⟨w.heap.size + 1 + 1 + 1, 0, none⟩) 2 2] 24)).alloc (.cells #[.int .i64 k1, .string s1, .int .i64 n1, .int .i64 a1, .slice A1 l1 c1, .int .i64 k2, .string s2, .int .i64 n2, .int .i64 a2, .slice A2 l2 c2] 24)) :=
    ((((Below.refl _ _).alloc (Nat.le_refl _) _).alloc (by simp) _).alloc (by simp; omega) _).alloc (by simp; omega) _
  have hrow : ((((w.alloc (.cells #[.int .i64 k1, .string s1, .int .i64 n1, .int .i64 a1, .slice A1 l1 c1] 24)).alloc (.cells #[.int .i64 k2, .string s2, .int .i64 n2, .int .i64 a2, .slice A2 l2 c2] 24)).alloc (.cells #[.int .i64 51, .string op, .int .i64 0, .int .i64 0, .slice (some ⟨w.heap.size + 1 + 1 + 1, 0, none⟩) 2 2] 24)).alloc (.cells #[.int .i64 k1, .string s1, .int .i64 n1, .int .i64 a1, .slice A1 l1 c1, .int .i64 k2, .string s2, .int .i64 n2, .int .i64 a2, .slice A2 l2 c2] 24)).heap[w.heap.size + 1 + 1]? = some (.cells #[.int .i64 51, .string op, .int .i64 0, .int .i64 0, .slice (some ⟨w.heap.size + 1 + 1 + 1, 0, none⟩) 2 2] 24) := by
    rw [heap_alloc_old _ _ (by simp)]
    have h := heap_alloc_new ((w.alloc (.cells #[.int .i64 k1, .string s1, .int .i64 n1, .int .i64 a1, .slice A1 l1 c1] 24)).alloc (.cells #[.int .i64 k2, .string s2, .int .i64 n2, .int .i64 a2, .slice A2 l2 c2] 24)) (.cells #[.int .i64 51, .string op, .int .i64 0, .int .i64 0, .slice (some ⟨w.heap.size + 1 + 1 + 1, 0, none⟩) 2 2] 24)
    simp only [World.size_alloc] at h
    exact h
  have hkid := heap_alloc_new (((w.alloc (.cells #[.int .i64 k1, .string s1, .int .i64 n1, .int .i64 a1, .slice A1 l1 c1] 24)).alloc (.cells #[.int .i64 k2, .string s2, .int .i64 n2, .int .i64 a2, .slice A2 l2 c2] 24)).alloc (.cells #[.int .i64 51, .string op, .int .i64 0, .int .i64 0, .slice (some ⟨w.heap.size + 1 + 1 + 1, 0, none⟩) 2 2] 24)) (.cells #[.int .i64 k1, .string s1, .int .i64 n1, .int .i64 a1, .slice A1 l1 c1, .int .i64 k2, .string s2, .int .i64 n2, .int .i64 a2, .slice A2 l2 c2] 24)
  simp only [World.size_alloc] at hkid
  have g1 := H1.out.up hb
  have g2 := H2.out.up hb
  have hsz : ((((w.alloc (.cells #[.int .i64 k1, .string s1, .int .i64 n1, .int .i64 a1, .slice A1 l1 c1] 24)).alloc (.cells #[.int .i64 k2, .string s2, .int .i64 n2, .int .i64 a2, .slice A2 l2 c2] 24)).alloc (.cells #[.int .i64 51, .string op, .int .i64 0, .int .i64 0, .slice (some ⟨w.heap.size + 1 + 1 + 1, 0, none⟩) 2 2] 24)).alloc (.cells #[.int .i64 k1, .string s1, .int .i64 n1, .int .i64 a1, .slice A1 l1 c1, .int .i64 k2, .string s2, .int .i64 n2, .int .i64 a2, .slice A2 l2 c2] 24)).heap.size = w.heap.size + 4 := by simp
  generalize ((((w.alloc (.cells #[.int .i64 k1, .string s1, .int .i64 n1, .int .i64 a1, .slice A1 l1 c1] 24)).alloc (.cells #[.int .i64 k2, .string s2, .int .i64 n2, .int .i64 a2, .slice A2 l2 c2] 24)).alloc (.cells #[.int .i64 51, .string op, .int .i64 0, .int .i64 0, .slice (some ⟨w.heap.size + 1 + 1 + 1, 0, none⟩) 2 2] 24)).alloc (.cells #[.int .i64 k1, .string s1, .int .i64 n1, .int .i64 a1, .slice A1 l1 c1, .int .i64 k2, .string s2, .int .i64 n2, .int .i64 a2, .slice A2 l2 c2] 24)) = W at hb hrow hkid g1 g2 hsz ⊢
  refine bodyPost_ret (results_cell_row rfl _ _ (w.heap.size + 1 + 1) 24 _ _ _ rfl hrow Tryz.underlying24 rfl (by kernel_rfl)) rfl ⟨_, rfl, hb, ?_⟩
  have e : ∀ j, W.cell? ⟨w.heap.size + 1 + 1 + 1, j, none⟩ = (#[Value.int .i64 k1, .string s1, .int .i64 n1, .int .i64 a1, .slice A1 l1 c1, .int .i64 k2, .string s2, .int .i64 n2, .int .i64 a2, .slice A2 l2 c2])[j]? := fun j => cell_of_row W _ j _ _ _ hkid
  unfold Lies
  refine ⟨_, 2, rfl, by unfold okI; omega, by unfold okI; omega, by unfold okI; omega, hs, by simp, by omega, .inr ⟨w.heap.size + 1 + 1 + 1, 0, rfl, by omega, ?_⟩⟩
  unfold LiesL
  refine ⟨⟨_, _, _, _, _, e 0, e 1, e 2, e 3, e 4, g1⟩, ?_⟩
  unfold LiesL
  refine ⟨⟨_, _, _, _, _, e 5, e 6, e 7, e 8, e 9, g2⟩, ?_⟩
  unfold LiesL
  trivial

end Go.Proofs.YtjpmghgmmeemkaaGreatDoor

namespace Go.Proofs.YtjpmghgmmeemkaaGreatDoor
open Go.RowKit

/-- What lies while the examples go on: the sum in block B1. -/
structure Exs (B1 b1 : Nat) (w W : World) : Prop where
  below : Below w.heap.size w W
  h3 : 5 ≤ w.heap.size
  gl : Gl W
  gerr : Gerr W
  row : W.heap[B1]? = some (.cells #[.int .i64 51, .string sPlus, .int .i64 0, .int .i64 0, .slice (some ⟨b1, 0, none⟩) 2 2] 24)
  lies : Lies W W.heap.size xSum.nd (.agg #[.int .i64 51, .string sPlus, .int .i64 0, .int .i64 0, .slice (some ⟨b1, 0, none⟩) 2 2])
theorem Exs.step {B1 b1 : Nat} {w W W' : World} (h : Exs B1 b1 w W) (hb : Below W.heap.size W W') : Exs B1 b1 w W' :=
  ⟨h.below.trans (hb.mono h.below.size), h.h3, h.gl.up hb, h.gerr.below hb (by have := h.below.size; have := h.h3; omega), (hb.block _ (Array.getElem?_eq_some_iff.1 h.row).1).trans h.row, h.lies.up hb⟩
theorem Exs.cells {B1 b1 : Nat} {w W : World} (h : Exs B1 b1 w W) : W.cell? ⟨B1, 0, none⟩ = some (.int .i64 51) ∧ W.cell? ⟨B1, 1, none⟩ = some (.string sPlus) ∧ W.cell? ⟨B1, 2, none⟩ = some (.int .i64 0) ∧ W.cell? ⟨B1, 3, none⟩ = some (.int .i64 0) ∧ W.cell? ⟨B1, 4, none⟩ = some (.slice (some ⟨b1, 0, none⟩) 2 2) :=
  ⟨cell_of_row _ _ 0 _ _ _ h.row, cell_of_row _ _ 1 _ _ _ h.row, cell_of_row _ _ 2 _ _ _ h.row, cell_of_row _ _ 3 _ _ _ h.row, cell_of_row _ _ 4 _ _ _ h.row⟩
theorem Exs.drew {B1 b1 : Nat} {w W : World} (h : Exs B1 b1 w W) : Exs B1 b1 w W.drew := h.step (Below.drew (Below.refl _ _))

theorem each_01 : (Nd.mk 35 s01 0 7 []).Each (NumsAt fNo fNo) := by
  unfold Nd.Each EachL
  exact ⟨⟨fun _ w h => ints_01 w h, fun h => by cases h⟩, trivial⟩
theorem lies_01 (w : World) (B : Nat) : Lies w B (.mk 35 s01 0 7 []) (.agg #[.int .i64 35, .string s01, .int .i64 0, .int .i64 7, .slice none 0 0]) := by
  unfold Lies
  exact ⟨none, 0, rfl, by unfold okI; omega, by unfold okI; omega, by unfold okI; omega, by decide, by simp, by omega, .inl rfl⟩

theorem Count_sum (b1 : Nat) (W : World) (h : Lies W W.heap.size xSum.nd (.agg #[.int .i64 51, .string sPlus, .int .i64 0, .int .i64 0, .slice (some ⟨b1, 0, none⟩) 2 2])) : Calls Tryz.prog 10 #[(.agg #[.int .i64 51, .string sPlus, .int .i64 0, .int .i64 0, .slice (some ⟨b1, 0, none⟩) 2 2])] W fun e w' => e = .returned (.int .i64 3) ∧ Below W.heap.size W w' := by
  have h' := Count_any xSum.nd _ W h
  rw [count_sum] at h'
  exact h'
theorem Same_ss (b1 : Nat) (W : World) (h : Lies W W.heap.size xSum.nd (.agg #[.int .i64 51, .string sPlus, .int .i64 0, .int .i64 0, .slice (some ⟨b1, 0, none⟩) 2 2])) : Calls Tryz.prog 9 #[(.agg #[.int .i64 51, .string sPlus, .int .i64 0, .int .i64 0, .slice (some ⟨b1, 0, none⟩) 2 2]), (.agg #[.int .i64 51, .string sPlus, .int .i64 0, .int .i64 0, .slice (some ⟨b1, 0, none⟩) 2 2])] W fun e w' => e = .returned (.bool true) ∧ Below W.heap.size W w' := by
  have h' := Same_any xSum.nd xSum.nd _ _ W h h
  rw [same_sum] at h'
  exact h'
theorem Same_sa (b1 : Nat) (W : World) (h : Lies W W.heap.size xSum.nd (.agg #[.int .i64 51, .string sPlus, .int .i64 0, .int .i64 0, .slice (some ⟨b1, 0, none⟩) 2 2])) : Calls Tryz.prog 9 #[(.agg #[.int .i64 51, .string sPlus, .int .i64 0, .int .i64 0, .slice (some ⟨b1, 0, none⟩) 2 2]), .agg #[.int .i64 14, .string sA, .int .i64 0, .int .i64 0, .slice none 0 0]] W fun e w' => e = .returned (.bool false) ∧ Below W.heap.size W w' := by
  have hl : Lies W W.heap.size (.mk 14 sA 0 0 []) (.agg #[.int .i64 14, .string sA, .int .i64 0, .int .i64 0, .slice none 0 0]) := by
    unfold Lies
    exact ⟨none, 0, rfl, by unfold okI; omega, by unfold okI; omega, by unfold okI; omega, by decide, by simp, by omega, .inl rfl⟩
  have h' := Same_any xSum.nd (.mk 14 sA 0 0 []) _ _ W h hl
  rw [same_a] at h'
  exact h'
theorem word_a (w : World) : Calls Tryz.prog 23 #[.string sA] w fun e w' => e = .returned (.agg #[.int .i64 14, .string sA, .int .i64 0, .int .i64 0, .slice none 0 0]) ∧ Below w.heap.size w w' :=
  (word_any sA w (by decide)).mono (fun _ _ h => ⟨h.1, h.2.1⟩)
theorem eq_w (W : World) : (binOp .eql 31 (.agg #[.int .i64 20, .int .i64 7, .string ⟨#[48, 49]⟩]) (.agg #[.int .i64 20, .int .i64 7, .string ⟨#[48, 49]⟩])).run Tryz.prog W = .ok (.bool true) W := by kernel_rfl
theorem eq_s1 (W : World) : (binOp .eql 9 (.string ⟨#[40, 97, 32, 43, 32, 98, 41, 32, 42, 32, 99]⟩) (.string ⟨#[40, 97, 32, 43, 32, 98, 41, 32, 42, 32, 99]⟩)).run Tryz.prog W = .ok (.bool true) W := by kernel_rfl
theorem eq_s2 (W : World) : (binOp .eql 9 (.string ⟨#[97, 32, 43, 32, 40, 97, 32, 43, 32, 98, 41]⟩) (.string ⟨#[97, 32, 43, 32, 40, 97, 32, 43, 32, 98, 41]⟩)).run Tryz.prog W = .ok (.bool true) W := by kernel_rfl

set_option maxRecDepth 100000 in
set_option maxHeartbeats 4000000 in
theorem examples_any (w : World) (hgl : Gl w) (hge : Gerr w) : Calls Tryz.prog 7 #[] w fun e w' => e = .returned (.bool true) ∧ Below w.heap.size w w' := by
  have HWA := Lib.hid (fun w => word_any sA w (by decide))
  have HWB := Lib.hid (fun w => word_any sB w (by decide))
  have HG := Lib.hid hgl
  have HGE := Lib.hid hge
  clear hgl hge
  go_enter Tryz.func7, Tryz.ntmps7
  go_wp2_with (first
    | (go_at_call 23; refine (HWA.out _).mono ?_; clear HWA
       rintro e w1 ⟨rfl, hb, hl⟩
       have HB1 := Lib.hid hb
       have HL1 := Lib.hid hl
       clear hb hl)
    | (go_at_call 23; refine (HWB.out _).mono ?_; clear HWB
       rintro e w2 ⟨rfl, hb, hl⟩
       have HBO := Lib.hid (both_any sPlus 14 sA 0 0 none 0 0 14 sB 0 0 none 0 0 _ _ w2 (by decide) (HL1.out.up hb) hl)
       have HB2 := Lib.hid (below_step HB1.out hb)
       clear hb hl)
    | (go_at_call 22; refine HBO.out.mono ?_; clear HBO
       rintro e w3 ⟨b1, rfl, hb, hl⟩
       have HB3 := Lib.hid (below_step HB2.out hb)
       have HL3 := Lib.hid hl
       clear hb hl))
  have ex : Exs w3.heap.size b1 w (w3.alloc (.cells #[.int .i64 51, .string sPlus, .int .i64 0, .int .i64 0, .slice (some ⟨b1, 0, none⟩) 2 2] 24)) := by
    have hb := HB3.out.alloc HB3.out.size (.cells #[.int .i64 51, .string sPlus, .int .i64 0, .int .i64 0, .slice (some ⟨b1, 0, none⟩) 2 2] 24)
    exact ⟨hb, HG.out.2.2, HG.out.up hb, HGE.out.below hb (by have := HG.out.2.2; omega), heap_alloc_new _ _, HL3.out.up ((Below.refl _ _).alloc (Nat.le_refl _) _)⟩
  have EX := Lib.hid ex
  have HW0 := Lib.hid ex.below
  clear HB1 HB2 HB3 HL1 HL3 HG HGE ex
  generalize (w3.alloc (.cells #[.int .i64 51, .string sPlus, .int .i64 0, .int .i64 0, .slice (some ⟨b1, 0, none⟩) 2 2] 24)) = X0 at EX ⊢
  generalize w3.heap.size = B1 at EX ⊢
  have HWC := Lib.hid (fun w => word_any sC w (by decide))
  have HWA := Lib.hid (fun w => word_any sA w (by decide))
  obtain ⟨g0, g1, g2, g3, g4⟩ := EX.out.cells
  go_cut [2, 3] (fun s2 s3 wx => s2 = .string ⟨#[40, 97, 32, 43, 32, 98, 41, 32, 42, 32, 99]⟩ ∧ s3 = .nilIface ∧ Below X0.heap.size X0 wx)
  case first =>
    go_region_with (first
      | (go_at_call 23; refine (HWC.out _).mono ?_; clear HWC
         rintro e w4 ⟨rfl, hb, hl⟩
         have hb' : Below X0.heap.size X0 w4 := ⟨hb.os, hb.tape, hb.output, hb.size, hb.block⟩
         have ex4 := EX.out.step hb'
         obtain ⟨g0, g1, g2, g3, g4⟩ := ex4.cells
         have HBO := Lib.hid (both_any sTimes 51 sPlus 0 0 (some ⟨b1, 0, none⟩) 2 2 14 sC 0 0 none 0 0 _ _ w4 (by decide) ex4.lies hl)
         have EX4 := Lib.hid ex4
         have HB4 := Lib.hid hb'
         clear hb hb' hl ex4)
      | (go_at_call 22; refine HBO.out.mono ?_; clear HBO
         rintro e w5 ⟨b5, rfl, hb, hl⟩
         have ex5 := EX4.out.step hb
         have HPR := Lib.hid (Print_both fNo fNo sTimes 0 0 xSum (.name sC 0 0) (each_small (.both sTimes 0 0 xSum (.name sC 0 0))) _ w5 ex5.gl hl look_prod _ bare_prod (by simp))
         have HB5 := Lib.hid (below_step HB4.out hb)
         clear hb hl ex5)
      | (go_at_call 15; refine HPR.out.mono ?_; clear HPR
         rintro e w6 ⟨rfl, hb⟩
         have HB6 := Lib.hid (below_step HB5.out hb)
         clear hb))
    all_goals (try go_wp2_with fail)
    all_goals go_meet
    all_goals exact ⟨rfl, rfl, HB6.out⟩
  case rest =>
    obtain ⟨rfl, rfl, hb⟩ := hcut
    have EX := Lib.hid (EX.out.step hb)
    clear hb g0 g1 g2 g3 g4 HWC HW0
    generalize wc = X1 at EX ⊢
    obtain ⟨g0, g1, g2, g3, g4⟩ := EX.out.cells
    have HWA' := HWA
    go_wp2_with fail
    go_cut [4, 5] (fun s4 s5 wx => s4 = .string ⟨#[97, 32, 43, 32, 40, 97, 32, 43, 32, 98, 41]⟩ ∧ s5 = .nilIface ∧ Below X1.heap.size X1 wx)
    case first =>
      go_region_with (first
        | (go_at_call 23; refine (HWA.out _).mono ?_; clear HWA
           rintro e w4 ⟨rfl, hb, hl⟩
           have hb' : Below X1.heap.size X1 w4 := ⟨hb.os, hb.tape, hb.output, hb.size, hb.block⟩
           have ex4 := EX.out.step hb'
           obtain ⟨g0, g1, g2, g3, g4⟩ := ex4.cells
           have HBO := Lib.hid (both_any sPlus 14 sA 0 0 none 0 0 51 sPlus 0 0 (some ⟨b1, 0, none⟩) 2 2 _ _ w4 (by decide) hl ex4.lies)
           have EX4 := Lib.hid ex4
           have HB4 := Lib.hid hb'
           clear hb hb' hl ex4)
        | (go_at_call 22; refine HBO.out.mono ?_; clear HBO
           rintro e w5 ⟨b5, rfl, hb, hl⟩
           have ex5 := EX4.out.step hb
           have HPR := Lib.hid (Print_both fNo fNo sPlus 0 0 (.name sA 0 0) xSum (each_small (.both sPlus 0 0 (.name sA 0 0) xSum)) _ w5 ex5.gl hl look_plus _ bare_plus (by simp))
           have HB5 := Lib.hid (below_step HB4.out hb)
           clear hb hl ex5)
        | (go_at_call 15; refine HPR.out.mono ?_; clear HPR
           rintro e w6 ⟨rfl, hb⟩
           have HB6 := Lib.hid (below_step HB5.out hb)
           clear hb))
      all_goals (try go_wp2_with fail)
      all_goals go_meet
      all_goals exact ⟨rfl, rfl, HB6.out⟩
    case rest =>
      obtain ⟨rfl, rfl, hb⟩ := hcut
      have EX := Lib.hid (EX.out.step hb)
      clear hb g0 g1 g2 g3 g4 HWA'
      generalize wc = X2 at EX ⊢
      obtain ⟨g0, g1, g2, g3, g4⟩ := EX.out.cells
      have hri := Right_any fNo fNo _ each_01 _ X2 EX.out.gl (lies_01 X2 _)
      rw [look_01] at hri
      have HRI := Lib.hid hri
      clear hri
      go_wp2_with (first
        | (go_at_call 14; refine HRI.out.mono ?_; clear HRI
           rintro e w7 ⟨hb, hres⟩
           have ex7 := EX.out.step hb
           obtain ⟨x, b, hx, rfl, hb1, hb2, hwr⟩ : ∃ x b, some (⟨20, 7, s01⟩ : Wr) = some x ∧ e = .returned (.iface 55 (.pointer (some ⟨b, 0, none⟩))) ∧ X2.heap.size ≤ b ∧ b < w7.heap.size ∧ WrongAt w7 b x.code x.at_ x.name := by
             rcases hres with ⟨h, _⟩ | h
             · cases h
             · exact h
           cases hx
           have HTD := Lib.hid (told_wrong b 20 7 s01 w7 ex7.gerr (by have := ex7.gl.2.2; omega) hb2 hwr (by decide))
           have EX7 := Lib.hid ex7
           clear hb ex7 hb1 hb2 hwr hres)
        | (go_at_call 13; refine HTD.out.mono ?_; clear HTD
           rintro e w8 ⟨rfl, hb⟩
           have EX8 := Lib.hid ((EX7.out.step hb).step ((Below.refl _ _).alloc (Nat.le_refl _) (.cells #[.int .i64 20, .int .i64 7, .string s01] 31)))
           clear hb))
      generalize hX3 : (w8.alloc (.cells #[.int .i64 20, .int .i64 7, .string s01] 31)) = X3 at EX8 ⊢
      have hr6 : X3.heap[w8.heap.size]? = some (.cells #[.int .i64 20, .int .i64 7, .string s01] 31) := by rw [← hX3]; exact heap_alloc_new _ _
      generalize w8.heap.size = B6 at hr6 ⊢
      have q0 : X3.cell? ⟨B6, 0, none⟩ = some (.int .i64 20) := cell_of_row _ _ 0 _ _ _ hr6
      have q1 : X3.cell? ⟨B6, 1, none⟩ = some (.int .i64 7) := cell_of_row _ _ 1 _ _ _ hr6
      have q2 : X3.cell? ⟨B6, 2, none⟩ = some (.string s01) := cell_of_row _ _ 2 _ _ _ hr6
      clear hr6 hX3 g0 g1 g2 g3 g4
      obtain ⟨g0, g1, g2, g3, g4⟩ := EX8.out.cells
      have hlow := EX8.out.below
      have K : ∀ W, Below X3.heap.size X3 W → Below X3.heap.size X3 W ∧ W.cell? ⟨B1, 0, none⟩ = some (.int .i64 51) ∧ W.cell? ⟨B1, 1, none⟩ = some (.string sPlus) ∧ W.cell? ⟨B1, 2, none⟩ = some (.int .i64 0) ∧ W.cell? ⟨B1, 3, none⟩ = some (.int .i64 0) ∧ W.cell? ⟨B1, 4, none⟩ = some (.slice (some ⟨b1, 0, none⟩) 2 2) ∧ W.cell? ⟨B6, 0, none⟩ = some (.int .i64 20) ∧ W.cell? ⟨B6, 1, none⟩ = some (.int .i64 7) ∧ W.cell? ⟨B6, 2, none⟩ = some (.string s01) := fun W hW => by
        have hc : ∀ b o v, X3.cell? ⟨b, o, none⟩ = some v → W.cell? ⟨b, o, none⟩ = some v := fun b o v h => (hW.cell (p := ⟨b, o, none⟩) (World.block_lt_of_cell? X3 _ h)).trans h
        exact ⟨hW, hc _ _ _ g0, hc _ _ _ g1, hc _ _ _ g2, hc _ _ _ g3, hc _ _ _ g4, hc _ _ _ q0, hc _ _ _ q1, hc _ _ _ q2⟩
      have K' := Lib.hid K
      have HX := Lib.hid EX8.out.lies
      have HLOW := Lib.hid hlow
      clear K hlow
      go_region_held3 (fun W => Below X3.heap.size X3 W ∧ W.cell? ⟨B1, 0, none⟩ = some (.int .i64 51) ∧ W.cell? ⟨B1, 1, none⟩ = some (.string sPlus) ∧ W.cell? ⟨B1, 2, none⟩ = some (.int .i64 0) ∧ W.cell? ⟨B1, 3, none⟩ = some (.int .i64 0) ∧ W.cell? ⟨B1, 4, none⟩ = some (.slice (some ⟨b1, 0, none⟩) 2 2) ∧ W.cell? ⟨B6, 0, none⟩ = some (.int .i64 20) ∧ W.cell? ⟨B6, 1, none⟩ = some (.int .i64 7) ∧ W.cell? ⟨B6, 2, none⟩ = some (.string s01))
        (first
          | exact K'.out _ ((Below.refl _ _).drew)
          | exact K'.out _ hB2)
        (first
          | (go_at_call 10; (with_reducible refine (Count_sum _ _ ?_).mono ?_); (refine HX.out.up ?_); (apply And.left; assumption); rintro e w9 ⟨rfl, hb2⟩; have hB2 : Below X3.heap.size X3 w9 := (by (refine below_step ?_ hb2); apply And.left; assumption))
          | (go_at_call 9; (with_reducible refine (Same_ss _ _ ?_).mono ?_); (refine HX.out.up ?_); (apply And.left; assumption); rintro e w9 ⟨rfl, hb2⟩; have hB2 : Below X3.heap.size X3 w9 := (by (refine below_step ?_ hb2); apply And.left; assumption))
          | (go_at_call 9; (with_reducible refine (Same_sa _ _ ?_).mono ?_); (refine HX.out.up ?_); (apply And.left; assumption); rintro e w9 ⟨rfl, hb2⟩; have hB2 : Below X3.heap.size X3 w9 := (by (refine below_step ?_ hb2); apply And.left; assumption))
          | (go_at_call 23; (with_reducible refine (word_a _).mono ?_); rintro e w9 ⟨rfl, hb2⟩; have hB2 : Below X3.heap.size X3 w9 := (by (refine below_step ?_ hb2); apply And.left; assumption)))
      go_wp2_with fail
      go_ret
      exact ⟨rfl, HLOW.out.trans (hB2.mono HLOW.out.size)⟩

end Go.Proofs.YtjpmghgmmeemkaaGreatDoor
