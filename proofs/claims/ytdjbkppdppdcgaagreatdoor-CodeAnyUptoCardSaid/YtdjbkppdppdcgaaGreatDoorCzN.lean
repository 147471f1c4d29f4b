/- code.counted of a slice's instruction. -/
import Derived.Test.YtdjbkppdppdcgaaGreatDoorSqC
import Derived.Test.YtdjbkppdppdcgaaGreatDoorMCwB
import Derived.Test.YtdjbkppdppdcgaaGreatDoorMScan1
namespace Go.Proofs.YtdjbkppdppdcgaaGreatDoor
open Go.RowKit

set_option maxRecDepth 100000 in
set_option maxHeartbeats 4000000 in
theorem counted_sl0 (a at_ : Int) (text : ByteArray) (ha : 0 ≤ a ∧ a ≤ 30000) (w : World) : Calls Tryz.prog 87 #[.agg #[.int .i64 26, .int .i64 a, .int .i64 0, .string text, .int .i64 at_]] w fun e w' => e = .returned (.tuple #[.int .u8 118, .int .i64 (a + 1)]) ∧ Below w.heap.size w w' := by
  have w1 : IntKind.i64.wrap (a + 1) = a + 1 := by rw [IntKind.wrap_i64]; omega
  have w2 : IntKind.i64.wrap (a - 1) = a - 1 := by rw [IntKind.wrap_i64]; omega
  go_enter Tryz.func87, Tryz.ntmps87
  go_upto_region 12 with fail
  have hx := heap_alloc_new w (.cells #[.int .i64 26, .int .i64 a, .int .i64 0, .string text, .int .i64 at_] 46 (0, 0))
  have hB0 : Below w.heap.size w (World.drew (w.alloc (.cells #[.int .i64 26, .int .i64 a, .int .i64 0, .string text, .int .i64 at_] 46 (0, 0)))) := Below.drewN' ((Below.refl _ _).alloc (Nat.le_refl _) _) 1
  have hsz : (World.drew (w.alloc (.cells #[.int .i64 26, .int .i64 a, .int .i64 0, .string text, .int .i64 at_] 46 (0, 0)))).heap.size = w.heap.size + 1 := World.size_alloc _ _
  obtain ⟨W1, hW1⟩ : ∃ W1, w.alloc (.cells #[.int .i64 26, .int .i64 a, .int .i64 0, .string text, .int .i64 at_] 46 (0, 0)) = W1 := ⟨_, rfl⟩
  obtain ⟨xb, hxb0⟩ : ∃ xb, w.heap.size = xb := ⟨_, rfl⟩
  simp only [hW1, hxb0] at hx hB0 hsz ⊢
  have y1 : (World.drew W1).cell? ⟨xb, 1, none⟩ = some (.int .i64 a) := cell_of_row W1 xb 1 _ _ _ hx
  have y2 : (World.drew W1).cell? ⟨xb, 2, none⟩ = some (.int .i64 0) := cell_of_row W1 xb 2 _ _ _ hx
  have hxb : xb < (World.drew W1).heap.size := by omega
  have HB := Lib.hid hB0
  have HXB := Lib.hid hxb0
  clear hx hB0 hsz hW1 hxb0
  refine wp_region_G [] (fun u => u.cell? ⟨xb, 1, none⟩ = some (.int .i64 a) ∧ u.cell? ⟨xb, 2, none⟩ = some (.int .i64 0)) (by rfl) ?_ (fun hHeld => ?_)
  · exact ⟨y1, y2⟩
  generalize hwd : World.drew W1 = wd at HB y1 y2 hxb hHeld ⊢
  refine wpAnyG_take (i := 0) (v := ?_) rfl (by kernel_rfl) (by kernel_rfl) (by kernel_rfl) (by kernel_rfl) (by kernel_rfl) (fun _ _ _ h => h) (Or.inl ⟨by rfl, ?_⟩) (by assumption) ?_
  rotate_left
  · (intro w hSw; (try dsimp only at hSw); go_simp; try with_reducible rfl)
  try simp only [nmC]
  refine wpAnyG_take (i := 1) (v := ?_) rfl (by kernel_rfl) (by kernel_rfl) (by kernel_rfl) (by kernel_rfl) (by kernel_rfl) (fun _ _ _ h => h) (Or.inl ⟨by rfl, ?_⟩) (by assumption) ?_
  rotate_left
  · (intro w hSw; (try dsimp only at hSw); go_simp; try with_reducible rfl)
  try simp only [nmC]
  refine wpAnyG_take (i := 2) (v := ?_) rfl (by kernel_rfl) (by kernel_rfl) (by kernel_rfl) (by kernel_rfl) (by kernel_rfl) (fun _ _ _ h => h) (Or.inl ⟨by rfl, ?_⟩) (by assumption) ?_
  rotate_left
  · (intro w hSw; (try dsimp only at hSw); go_simp; try with_reducible rfl)
  try simp only [nmC]
  refine wpAnyG_take (i := 3) (v := ?_) rfl (by kernel_rfl) (by kernel_rfl) (by kernel_rfl) (by kernel_rfl) (by kernel_rfl) (fun _ _ _ h => h) (Or.inl ⟨by rfl, ?_⟩) (by assumption) ?_
  rotate_left
  · (intro w hSw; (try dsimp only at hSw); go_simp; try with_reducible rfl)
  try simp only [nmC]
  refine wpAnyG_take (i := 4) (v := ?_) rfl (by kernel_rfl) (by kernel_rfl) (by kernel_rfl) (by kernel_rfl) (by kernel_rfl) (fun _ _ _ h => h) (Or.inl ⟨by rfl, ?_⟩) (by assumption) ?_
  rotate_left
  · (intro w hSw; (try dsimp only at hSw); go_simp; try with_reducible rfl)
  try simp only [nmC]
  refine wpAnyG_take (i := 5) (v := ?_) rfl (by kernel_rfl) (by kernel_rfl) (by kernel_rfl) (by kernel_rfl) (by kernel_rfl) (fun _ _ _ h => h) (Or.inl ⟨by rfl, ?_⟩) (by assumption) ?_
  rotate_left
  · (intro w hSw; (try dsimp only at hSw); go_simp; try with_reducible rfl)
  try simp only [nmC]
  refine wpAnyG_take (i := 6) (v := ?_) rfl (by kernel_rfl) (by kernel_rfl) (by kernel_rfl) (by kernel_rfl) (by kernel_rfl) (fun _ _ _ h => h) (Or.inl ⟨by rfl, ?_⟩) (by assumption) ?_
  rotate_left
  · (intro w hSw; (try dsimp only at hSw); go_simp; try with_reducible rfl)
  try simp only [nmC]
  refine wpAnyG_take (i := 7) (v := ?_) rfl (by kernel_rfl) (by kernel_rfl) (by kernel_rfl) (by kernel_rfl) (by kernel_rfl) (fun _ _ _ h => h) (Or.inl ⟨by rfl, ?_⟩) (by assumption) ?_
  rotate_left
  · (intro w hSw; (try dsimp only at hSw); go_simp; try with_reducible rfl)
  try simp only [nmC]
  refine wpAnyG_take (i := 8) (v := ?_) rfl (by kernel_rfl) (by kernel_rfl) (by kernel_rfl) (by kernel_rfl) (by kernel_rfl) (fun _ _ _ h => h) (Or.inl ⟨by rfl, ?_⟩) (by assumption) ?_
  rotate_left
  · (intro w hSw; (try dsimp only at hSw); go_simp; try with_reducible rfl)
  try simp only [nmC]
  refine wpAnyG_take (i := 9) (v := ?_) rfl (by kernel_rfl) (by kernel_rfl) (by kernel_rfl) (by kernel_rfl) (by kernel_rfl) (fun _ _ _ h => h) (Or.inl ⟨by rfl, ?_⟩) (by assumption) ?_
  rotate_left
  · (intro w hSw; (try dsimp only at hSw); go_simp; try with_reducible rfl)
  try simp only [nmC]
  refine wpAnyG_take (i := 11) (v := ?_) rfl (by kernel_rfl) (by kernel_rfl) (by kernel_rfl) (by kernel_rfl) (by kernel_rfl) (fun _ _ _ h => h) (Or.inl ⟨by rfl, ?_⟩) (by assumption) ?_
  rotate_left
  · (intro w hSw; (try dsimp only at hSw); go_simp; try with_reducible rfl)
  try simp only [nmC]
  refine wpAnyG_take (i := 12) (v := ?_) rfl (by kernel_rfl) (by kernel_rfl) (by kernel_rfl) (by kernel_rfl) (by kernel_rfl) (fun _ _ _ h => h) (Or.inl ⟨by rfl, ?_⟩) (by assumption) ?_
  rotate_left
  · (intro w hSw; (try dsimp only at hSw); go_simp; try with_reducible rfl)
  try simp only [nmC]
  refine wpAnyG_take (i := 15) (v := ?_) rfl (by kernel_rfl) (by kernel_rfl) (by kernel_rfl) (by kernel_rfl) (by kernel_rfl) (fun _ _ _ h => h) (Or.inl ⟨by rfl, ?_⟩) (by assumption) ?_
  rotate_left
  · (intro w hSw; (try dsimp only at hSw); go_simp; try with_reducible rfl)
  try simp only [nmC]
  refine wpAnyG_ready (rs := [10]) (by kernel_rfl) (by simp) ?_
  refine AllReadyG.cons rfl (fun KK hKK => ?_) AllReadyG.nil
  go_simp
  have y1 := (((Below.refl wd.heap.size wd).alloc (Nat.le_refl _) (.cells #[.int .i64 (a + 1), .int .i64 a, .int .i64 a, .int .i64 (a - 1)] 3 (0, 0))).cell (p := ⟨xb, 1, none⟩) hxb).trans y1
  have y2 := (((Below.refl wd.heap.size wd).alloc (Nat.le_refl _) (.cells #[.int .i64 (a + 1), .int .i64 a, .int .i64 a, .int .i64 (a - 1)] 3 (0, 0))).cell (p := ⟨xb, 2, none⟩) hxb).trans y2
  have z := (cell_of_row _ _ 0 _ _ _ (heap_alloc_new wd (.cells #[.int .i64 (a + 1), .int .i64 a, .int .i64 a, .int .i64 (a - 1)] 3 (0, 0))))
  simp only [List.getElem?_toArray, List.getElem?_cons_zero] at z
  try dsimp only
  refine hKK.out _ _ (⟨y1, y2⟩) (fun hHeld => ?_)
  clear hKK KK
  try simp only [nmC]
  refine wpAnyG_take (i := 13) (v := ?_) rfl (by kernel_rfl) (by kernel_rfl) (by kernel_rfl) (by kernel_rfl) (by kernel_rfl) (fun _ _ _ h => h) (Or.inl ⟨by rfl, ?_⟩) (by assumption) ?_
  rotate_left
  · (intro w hSw; (try dsimp only at hSw); go_simp; try with_reducible rfl)
  try simp only [nmC]
  refine wpAnyG_ready (rs := [14]) (by kernel_rfl) (by simp) ?_
  refine AllReadyG.cons rfl (fun KK hKK => ?_) AllReadyG.nil
  go_simp
  try dsimp only
  refine hKK.out _ _ (⟨y1, y2⟩) (fun hHeld => ?_)
  clear hKK KK
  try simp only [nmC]
  refine wpAnyG_take (i := 16) (v := ?_) rfl (by kernel_rfl) (by kernel_rfl) (by kernel_rfl) (by kernel_rfl) (by kernel_rfl) (fun _ _ _ h => h) (Or.inl ⟨by rfl, ?_⟩) (by assumption) ?_
  rotate_left
  · (intro w hSw; (try dsimp only at hSw); go_simp; try with_reducible rfl)
  try simp only [nmC]
  refine wpAnyG_done (by kernel_rfl) ?_ _
  go_wp2_with fail
  go_ret2
  exact ⟨rfl, by rw [HXB.out]; exact HB.out.alloc (by omega) _⟩
set_option maxRecDepth 100000 in
set_option maxHeartbeats 4000000 in
theorem counted_sl1 (a at_ : Int) (text : ByteArray) (ha : 0 ≤ a ∧ a ≤ 30000) (w : World) : Calls Tryz.prog 87 #[.agg #[.int .i64 26, .int .i64 a, .int .i64 1, .string text, .int .i64 at_]] w fun e w' => e = .returned (.tuple #[.int .u8 118, .int .i64 (a)]) ∧ Below w.heap.size w w' := by
  have w1 : IntKind.i64.wrap (a + 1) = a + 1 := by rw [IntKind.wrap_i64]; omega
  have w2 : IntKind.i64.wrap (a - 1) = a - 1 := by rw [IntKind.wrap_i64]; omega
  go_enter Tryz.func87, Tryz.ntmps87
  go_upto_region 12 with fail
  have hx := heap_alloc_new w (.cells #[.int .i64 26, .int .i64 a, .int .i64 1, .string text, .int .i64 at_] 46 (0, 0))
  have hB0 : Below w.heap.size w (World.drew (w.alloc (.cells #[.int .i64 26, .int .i64 a, .int .i64 1, .string text, .int .i64 at_] 46 (0, 0)))) := Below.drewN' ((Below.refl _ _).alloc (Nat.le_refl _) _) 1
  have hsz : (World.drew (w.alloc (.cells #[.int .i64 26, .int .i64 a, .int .i64 1, .string text, .int .i64 at_] 46 (0, 0)))).heap.size = w.heap.size + 1 := World.size_alloc _ _
  obtain ⟨W1, hW1⟩ : ∃ W1, w.alloc (.cells #[.int .i64 26, .int .i64 a, .int .i64 1, .string text, .int .i64 at_] 46 (0, 0)) = W1 := ⟨_, rfl⟩
  obtain ⟨xb, hxb0⟩ : ∃ xb, w.heap.size = xb := ⟨_, rfl⟩
  simp only [hW1, hxb0] at hx hB0 hsz ⊢
  have y1 : (World.drew W1).cell? ⟨xb, 1, none⟩ = some (.int .i64 a) := cell_of_row W1 xb 1 _ _ _ hx
  have y2 : (World.drew W1).cell? ⟨xb, 2, none⟩ = some (.int .i64 1) := cell_of_row W1 xb 2 _ _ _ hx
  have hxb : xb < (World.drew W1).heap.size := by omega
  have HB := Lib.hid hB0
  have HXB := Lib.hid hxb0
  clear hx hB0 hsz hW1 hxb0
  refine wp_region_G [] (fun u => u.cell? ⟨xb, 1, none⟩ = some (.int .i64 a) ∧ u.cell? ⟨xb, 2, none⟩ = some (.int .i64 1)) (by rfl) ?_ (fun hHeld => ?_)
  · exact ⟨y1, y2⟩
  generalize hwd : World.drew W1 = wd at HB y1 y2 hxb hHeld ⊢
  refine wpAnyG_take (i := 0) (v := ?_) rfl (by kernel_rfl) (by kernel_rfl) (by kernel_rfl) (by kernel_rfl) (by kernel_rfl) (fun _ _ _ h => h) (Or.inl ⟨by rfl, ?_⟩) (by assumption) ?_
  rotate_left
  · (intro w hSw; (try dsimp only at hSw); go_simp; try with_reducible rfl)
  try simp only [nmC]
  refine wpAnyG_take (i := 1) (v := ?_) rfl (by kernel_rfl) (by kernel_rfl) (by kernel_rfl) (by kernel_rfl) (by kernel_rfl) (fun _ _ _ h => h) (Or.inl ⟨by rfl, ?_⟩) (by assumption) ?_
  rotate_left
  · (intro w hSw; (try dsimp only at hSw); go_simp; try with_reducible rfl)
  try simp only [nmC]
  refine wpAnyG_take (i := 2) (v := ?_) rfl (by kernel_rfl) (by kernel_rfl) (by kernel_rfl) (by kernel_rfl) (by kernel_rfl) (fun _ _ _ h => h) (Or.inl ⟨by rfl, ?_⟩) (by assumption) ?_
  rotate_left
  · (intro w hSw; (try dsimp only at hSw); go_simp; try with_reducible rfl)
  try simp only [nmC]
  refine wpAnyG_take (i := 3) (v := ?_) rfl (by kernel_rfl) (by kernel_rfl) (by kernel_rfl) (by kernel_rfl) (by kernel_rfl) (fun _ _ _ h => h) (Or.inl ⟨by rfl, ?_⟩) (by assumption) ?_
  rotate_left
  · (intro w hSw; (try dsimp only at hSw); go_simp; try with_reducible rfl)
  try simp only [nmC]
  refine wpAnyG_take (i := 4) (v := ?_) rfl (by kernel_rfl) (by kernel_rfl) (by kernel_rfl) (by kernel_rfl) (by kernel_rfl) (fun _ _ _ h => h) (Or.inl ⟨by rfl, ?_⟩) (by assumption) ?_
  rotate_left
  · (intro w hSw; (try dsimp only at hSw); go_simp; try with_reducible rfl)
  try simp only [nmC]
  refine wpAnyG_take (i := 5) (v := ?_) rfl (by kernel_rfl) (by kernel_rfl) (by kernel_rfl) (by kernel_rfl) (by kernel_rfl) (fun _ _ _ h => h) (Or.inl ⟨by rfl, ?_⟩) (by assumption) ?_
  rotate_left
  · (intro w hSw; (try dsimp only at hSw); go_simp; try with_reducible rfl)
  try simp only [nmC]
  refine wpAnyG_take (i := 6) (v := ?_) rfl (by kernel_rfl) (by kernel_rfl) (by kernel_rfl) (by kernel_rfl) (by kernel_rfl) (fun _ _ _ h => h) (Or.inl ⟨by rfl, ?_⟩) (by assumption) ?_
  rotate_left
  · (intro w hSw; (try dsimp only at hSw); go_simp; try with_reducible rfl)
  try simp only [nmC]
  refine wpAnyG_take (i := 7) (v := ?_) rfl (by kernel_rfl) (by kernel_rfl) (by kernel_rfl) (by kernel_rfl) (by kernel_rfl) (fun _ _ _ h => h) (Or.inl ⟨by rfl, ?_⟩) (by assumption) ?_
  rotate_left
  · (intro w hSw; (try dsimp only at hSw); go_simp; try with_reducible rfl)
  try simp only [nmC]
  refine wpAnyG_take (i := 8) (v := ?_) rfl (by kernel_rfl) (by kernel_rfl) (by kernel_rfl) (by kernel_rfl) (by kernel_rfl) (fun _ _ _ h => h) (Or.inl ⟨by rfl, ?_⟩) (by assumption) ?_
  rotate_left
  · (intro w hSw; (try dsimp only at hSw); go_simp; try with_reducible rfl)
  try simp only [nmC]
  refine wpAnyG_take (i := 9) (v := ?_) rfl (by kernel_rfl) (by kernel_rfl) (by kernel_rfl) (by kernel_rfl) (by kernel_rfl) (fun _ _ _ h => h) (Or.inl ⟨by rfl, ?_⟩) (by assumption) ?_
  rotate_left
  · (intro w hSw; (try dsimp only at hSw); go_simp; try with_reducible rfl)
  try simp only [nmC]
  refine wpAnyG_take (i := 11) (v := ?_) rfl (by kernel_rfl) (by kernel_rfl) (by kernel_rfl) (by kernel_rfl) (by kernel_rfl) (fun _ _ _ h => h) (Or.inl ⟨by rfl, ?_⟩) (by assumption) ?_
  rotate_left
  · (intro w hSw; (try dsimp only at hSw); go_simp; try with_reducible rfl)
  try simp only [nmC]
  refine wpAnyG_take (i := 12) (v := ?_) rfl (by kernel_rfl) (by kernel_rfl) (by kernel_rfl) (by kernel_rfl) (by kernel_rfl) (fun _ _ _ h => h) (Or.inl ⟨by rfl, ?_⟩) (by assumption) ?_
  rotate_left
  · (intro w hSw; (try dsimp only at hSw); go_simp; try with_reducible rfl)
  try simp only [nmC]
  refine wpAnyG_take (i := 15) (v := ?_) rfl (by kernel_rfl) (by kernel_rfl) (by kernel_rfl) (by kernel_rfl) (by kernel_rfl) (fun _ _ _ h => h) (Or.inl ⟨by rfl, ?_⟩) (by assumption) ?_
  rotate_left
  · (intro w hSw; (try dsimp only at hSw); go_simp; try with_reducible rfl)
  try simp only [nmC]
  refine wpAnyG_ready (rs := [10]) (by kernel_rfl) (by simp) ?_
  refine AllReadyG.cons rfl (fun KK hKK => ?_) AllReadyG.nil
  go_simp
  have y1 := (((Below.refl wd.heap.size wd).alloc (Nat.le_refl _) (.cells #[.int .i64 (a + 1), .int .i64 a, .int .i64 a, .int .i64 (a - 1)] 3 (0, 0))).cell (p := ⟨xb, 1, none⟩) hxb).trans y1
  have y2 := (((Below.refl wd.heap.size wd).alloc (Nat.le_refl _) (.cells #[.int .i64 (a + 1), .int .i64 a, .int .i64 a, .int .i64 (a - 1)] 3 (0, 0))).cell (p := ⟨xb, 2, none⟩) hxb).trans y2
  have z := (cell_of_row _ _ 1 _ _ _ (heap_alloc_new wd (.cells #[.int .i64 (a + 1), .int .i64 a, .int .i64 a, .int .i64 (a - 1)] 3 (0, 0))))
  simp only [List.getElem?_toArray, List.getElem?_cons_zero, List.getElem?_cons_succ] at z
  try dsimp only
  refine hKK.out _ _ (⟨y1, y2⟩) (fun hHeld => ?_)
  clear hKK KK
  try simp only [nmC]
  refine wpAnyG_take (i := 13) (v := ?_) rfl (by kernel_rfl) (by kernel_rfl) (by kernel_rfl) (by kernel_rfl) (by kernel_rfl) (fun _ _ _ h => h) (Or.inl ⟨by rfl, ?_⟩) (by assumption) ?_
  rotate_left
  · (intro w hSw; (try dsimp only at hSw); go_simp; try with_reducible rfl)
  try simp only [nmC]
  refine wpAnyG_ready (rs := [14]) (by kernel_rfl) (by simp) ?_
  refine AllReadyG.cons rfl (fun KK hKK => ?_) AllReadyG.nil
  go_simp
  try dsimp only
  refine hKK.out _ _ (⟨y1, y2⟩) (fun hHeld => ?_)
  clear hKK KK
  try simp only [nmC]
  refine wpAnyG_take (i := 16) (v := ?_) rfl (by kernel_rfl) (by kernel_rfl) (by kernel_rfl) (by kernel_rfl) (by kernel_rfl) (fun _ _ _ h => h) (Or.inl ⟨by rfl, ?_⟩) (by assumption) ?_
  rotate_left
  · (intro w hSw; (try dsimp only at hSw); go_simp; try with_reducible rfl)
  try simp only [nmC]
  refine wpAnyG_done (by kernel_rfl) ?_ _
  go_wp2_with fail
  go_ret2
  exact ⟨rfl, by rw [HXB.out]; exact HB.out.alloc (by omega) _⟩
set_option maxRecDepth 100000 in
set_option maxHeartbeats 4000000 in
theorem counted_sl2 (a at_ : Int) (text : ByteArray) (ha : 0 ≤ a ∧ a ≤ 30000) (w : World) : Calls Tryz.prog 87 #[.agg #[.int .i64 26, .int .i64 a, .int .i64 2, .string text, .int .i64 at_]] w fun e w' => e = .returned (.tuple #[.int .u8 118, .int .i64 (a)]) ∧ Below w.heap.size w w' := by
  have w1 : IntKind.i64.wrap (a + 1) = a + 1 := by rw [IntKind.wrap_i64]; omega
  have w2 : IntKind.i64.wrap (a - 1) = a - 1 := by rw [IntKind.wrap_i64]; omega
  go_enter Tryz.func87, Tryz.ntmps87
  go_upto_region 12 with fail
  have hx := heap_alloc_new w (.cells #[.int .i64 26, .int .i64 a, .int .i64 2, .string text, .int .i64 at_] 46 (0, 0))
  have hB0 : Below w.heap.size w (World.drew (w.alloc (.cells #[.int .i64 26, .int .i64 a, .int .i64 2, .string text, .int .i64 at_] 46 (0, 0)))) := Below.drewN' ((Below.refl _ _).alloc (Nat.le_refl _) _) 1
  have hsz : (World.drew (w.alloc (.cells #[.int .i64 26, .int .i64 a, .int .i64 2, .string text, .int .i64 at_] 46 (0, 0)))).heap.size = w.heap.size + 1 := World.size_alloc _ _
  obtain ⟨W1, hW1⟩ : ∃ W1, w.alloc (.cells #[.int .i64 26, .int .i64 a, .int .i64 2, .string text, .int .i64 at_] 46 (0, 0)) = W1 := ⟨_, rfl⟩
  obtain ⟨xb, hxb0⟩ : ∃ xb, w.heap.size = xb := ⟨_, rfl⟩
  simp only [hW1, hxb0] at hx hB0 hsz ⊢
  have y1 : (World.drew W1).cell? ⟨xb, 1, none⟩ = some (.int .i64 a) := cell_of_row W1 xb 1 _ _ _ hx
  have y2 : (World.drew W1).cell? ⟨xb, 2, none⟩ = some (.int .i64 2) := cell_of_row W1 xb 2 _ _ _ hx
  have hxb : xb < (World.drew W1).heap.size := by omega
  have HB := Lib.hid hB0
  have HXB := Lib.hid hxb0
  clear hx hB0 hsz hW1 hxb0
  refine wp_region_G [] (fun u => u.cell? ⟨xb, 1, none⟩ = some (.int .i64 a) ∧ u.cell? ⟨xb, 2, none⟩ = some (.int .i64 2)) (by rfl) ?_ (fun hHeld => ?_)
  · exact ⟨y1, y2⟩
  generalize hwd : World.drew W1 = wd at HB y1 y2 hxb hHeld ⊢
  refine wpAnyG_take (i := 0) (v := ?_) rfl (by kernel_rfl) (by kernel_rfl) (by kernel_rfl) (by kernel_rfl) (by kernel_rfl) (fun _ _ _ h => h) (Or.inl ⟨by rfl, ?_⟩) (by assumption) ?_
  rotate_left
  · (intro w hSw; (try dsimp only at hSw); go_simp; try with_reducible rfl)
  try simp only [nmC]
  refine wpAnyG_take (i := 1) (v := ?_) rfl (by kernel_rfl) (by kernel_rfl) (by kernel_rfl) (by kernel_rfl) (by kernel_rfl) (fun _ _ _ h => h) (Or.inl ⟨by rfl, ?_⟩) (by assumption) ?_
  rotate_left
  · (intro w hSw; (try dsimp only at hSw); go_simp; try with_reducible rfl)
  try simp only [nmC]
  refine wpAnyG_take (i := 2) (v := ?_) rfl (by kernel_rfl) (by kernel_rfl) (by kernel_rfl) (by kernel_rfl) (by kernel_rfl) (fun _ _ _ h => h) (Or.inl ⟨by rfl, ?_⟩) (by assumption) ?_
  rotate_left
  · (intro w hSw; (try dsimp only at hSw); go_simp; try with_reducible rfl)
  try simp only [nmC]
  refine wpAnyG_take (i := 3) (v := ?_) rfl (by kernel_rfl) (by kernel_rfl) (by kernel_rfl) (by kernel_rfl) (by kernel_rfl) (fun _ _ _ h => h) (Or.inl ⟨by rfl, ?_⟩) (by assumption) ?_
  rotate_left
  · (intro w hSw; (try dsimp only at hSw); go_simp; try with_reducible rfl)
  try simp only [nmC]
  refine wpAnyG_take (i := 4) (v := ?_) rfl (by kernel_rfl) (by kernel_rfl) (by kernel_rfl) (by kernel_rfl) (by kernel_rfl) (fun _ _ _ h => h) (Or.inl ⟨by rfl, ?_⟩) (by assumption) ?_
  rotate_left
  · (intro w hSw; (try dsimp only at hSw); go_simp; try with_reducible rfl)
  try simp only [nmC]
  refine wpAnyG_take (i := 5) (v := ?_) rfl (by kernel_rfl) (by kernel_rfl) (by kernel_rfl) (by kernel_rfl) (by kernel_rfl) (fun _ _ _ h => h) (Or.inl ⟨by rfl, ?_⟩) (by assumption) ?_
  rotate_left
  · (intro w hSw; (try dsimp only at hSw); go_simp; try with_reducible rfl)
  try simp only [nmC]
  refine wpAnyG_take (i := 6) (v := ?_) rfl (by kernel_rfl) (by kernel_rfl) (by kernel_rfl) (by kernel_rfl) (by kernel_rfl) (fun _ _ _ h => h) (Or.inl ⟨by rfl, ?_⟩) (by assumption) ?_
  rotate_left
  · (intro w hSw; (try dsimp only at hSw); go_simp; try with_reducible rfl)
  try simp only [nmC]
  refine wpAnyG_take (i := 7) (v := ?_) rfl (by kernel_rfl) (by kernel_rfl) (by kernel_rfl) (by kernel_rfl) (by kernel_rfl) (fun _ _ _ h => h) (Or.inl ⟨by rfl, ?_⟩) (by assumption) ?_
  rotate_left
  · (intro w hSw; (try dsimp only at hSw); go_simp; try with_reducible rfl)
  try simp only [nmC]
  refine wpAnyG_take (i := 8) (v := ?_) rfl (by kernel_rfl) (by kernel_rfl) (by kernel_rfl) (by kernel_rfl) (by kernel_rfl) (fun _ _ _ h => h) (Or.inl ⟨by rfl, ?_⟩) (by assumption) ?_
  rotate_left
  · (intro w hSw; (try dsimp only at hSw); go_simp; try with_reducible rfl)
  try simp only [nmC]
  refine wpAnyG_take (i := 9) (v := ?_) rfl (by kernel_rfl) (by kernel_rfl) (by kernel_rfl) (by kernel_rfl) (by kernel_rfl) (fun _ _ _ h => h) (Or.inl ⟨by rfl, ?_⟩) (by assumption) ?_
  rotate_left
  · (intro w hSw; (try dsimp only at hSw); go_simp; try with_reducible rfl)
  try simp only [nmC]
  refine wpAnyG_take (i := 11) (v := ?_) rfl (by kernel_rfl) (by kernel_rfl) (by kernel_rfl) (by kernel_rfl) (by kernel_rfl) (fun _ _ _ h => h) (Or.inl ⟨by rfl, ?_⟩) (by assumption) ?_
  rotate_left
  · (intro w hSw; (try dsimp only at hSw); go_simp; try with_reducible rfl)
  try simp only [nmC]
  refine wpAnyG_take (i := 12) (v := ?_) rfl (by kernel_rfl) (by kernel_rfl) (by kernel_rfl) (by kernel_rfl) (by kernel_rfl) (fun _ _ _ h => h) (Or.inl ⟨by rfl, ?_⟩) (by assumption) ?_
  rotate_left
  · (intro w hSw; (try dsimp only at hSw); go_simp; try with_reducible rfl)
  try simp only [nmC]
  refine wpAnyG_take (i := 15) (v := ?_) rfl (by kernel_rfl) (by kernel_rfl) (by kernel_rfl) (by kernel_rfl) (by kernel_rfl) (fun _ _ _ h => h) (Or.inl ⟨by rfl, ?_⟩) (by assumption) ?_
  rotate_left
  · (intro w hSw; (try dsimp only at hSw); go_simp; try with_reducible rfl)
  try simp only [nmC]
  refine wpAnyG_ready (rs := [10]) (by kernel_rfl) (by simp) ?_
  refine AllReadyG.cons rfl (fun KK hKK => ?_) AllReadyG.nil
  go_simp
  have y1 := (((Below.refl wd.heap.size wd).alloc (Nat.le_refl _) (.cells #[.int .i64 (a + 1), .int .i64 a, .int .i64 a, .int .i64 (a - 1)] 3 (0, 0))).cell (p := ⟨xb, 1, none⟩) hxb).trans y1
  have y2 := (((Below.refl wd.heap.size wd).alloc (Nat.le_refl _) (.cells #[.int .i64 (a + 1), .int .i64 a, .int .i64 a, .int .i64 (a - 1)] 3 (0, 0))).cell (p := ⟨xb, 2, none⟩) hxb).trans y2
  have z := (cell_of_row _ _ 2 _ _ _ (heap_alloc_new wd (.cells #[.int .i64 (a + 1), .int .i64 a, .int .i64 a, .int .i64 (a - 1)] 3 (0, 0))))
  simp only [List.getElem?_toArray, List.getElem?_cons_zero, List.getElem?_cons_succ] at z
  try dsimp only
  refine hKK.out _ _ (⟨y1, y2⟩) (fun hHeld => ?_)
  clear hKK KK
  try simp only [nmC]
  refine wpAnyG_take (i := 13) (v := ?_) rfl (by kernel_rfl) (by kernel_rfl) (by kernel_rfl) (by kernel_rfl) (by kernel_rfl) (fun _ _ _ h => h) (Or.inl ⟨by rfl, ?_⟩) (by assumption) ?_
  rotate_left
  · (intro w hSw; (try dsimp only at hSw); go_simp; try with_reducible rfl)
  try simp only [nmC]
  refine wpAnyG_ready (rs := [14]) (by kernel_rfl) (by simp) ?_
  refine AllReadyG.cons rfl (fun KK hKK => ?_) AllReadyG.nil
  go_simp
  try dsimp only
  refine hKK.out _ _ (⟨y1, y2⟩) (fun hHeld => ?_)
  clear hKK KK
  try simp only [nmC]
  refine wpAnyG_take (i := 16) (v := ?_) rfl (by kernel_rfl) (by kernel_rfl) (by kernel_rfl) (by kernel_rfl) (by kernel_rfl) (fun _ _ _ h => h) (Or.inl ⟨by rfl, ?_⟩) (by assumption) ?_
  rotate_left
  · (intro w hSw; (try dsimp only at hSw); go_simp; try with_reducible rfl)
  try simp only [nmC]
  refine wpAnyG_done (by kernel_rfl) ?_ _
  go_wp2_with fail
  go_ret2
  exact ⟨rfl, by rw [HXB.out]; exact HB.out.alloc (by omega) _⟩
set_option maxRecDepth 100000 in
set_option maxHeartbeats 4000000 in
theorem counted_sl3 (a at_ : Int) (text : ByteArray) (ha : 0 ≤ a ∧ a ≤ 30000) (w : World) : Calls Tryz.prog 87 #[.agg #[.int .i64 26, .int .i64 a, .int .i64 3, .string text, .int .i64 at_]] w fun e w' => e = .returned (.tuple #[.int .u8 118, .int .i64 (a - 1)]) ∧ Below w.heap.size w w' := by
  have w1 : IntKind.i64.wrap (a + 1) = a + 1 := by rw [IntKind.wrap_i64]; omega
  have w2 : IntKind.i64.wrap (a - 1) = a - 1 := by rw [IntKind.wrap_i64]; omega
  go_enter Tryz.func87, Tryz.ntmps87
  go_upto_region 12 with fail
  have hx := heap_alloc_new w (.cells #[.int .i64 26, .int .i64 a, .int .i64 3, .string text, .int .i64 at_] 46 (0, 0))
  have hB0 : Below w.heap.size w (World.drew (w.alloc (.cells #[.int .i64 26, .int .i64 a, .int .i64 3, .string text, .int .i64 at_] 46 (0, 0)))) := Below.drewN' ((Below.refl _ _).alloc (Nat.le_refl _) _) 1
  have hsz : (World.drew (w.alloc (.cells #[.int .i64 26, .int .i64 a, .int .i64 3, .string text, .int .i64 at_] 46 (0, 0)))).heap.size = w.heap.size + 1 := World.size_alloc _ _
  obtain ⟨W1, hW1⟩ : ∃ W1, w.alloc (.cells #[.int .i64 26, .int .i64 a, .int .i64 3, .string text, .int .i64 at_] 46 (0, 0)) = W1 := ⟨_, rfl⟩
  obtain ⟨xb, hxb0⟩ : ∃ xb, w.heap.size = xb := ⟨_, rfl⟩
  simp only [hW1, hxb0] at hx hB0 hsz ⊢
  have y1 : (World.drew W1).cell? ⟨xb, 1, none⟩ = some (.int .i64 a) := cell_of_row W1 xb 1 _ _ _ hx
  have y2 : (World.drew W1).cell? ⟨xb, 2, none⟩ = some (.int .i64 3) := cell_of_row W1 xb 2 _ _ _ hx
  have hxb : xb < (World.drew W1).heap.size := by omega
  have HB := Lib.hid hB0
  have HXB := Lib.hid hxb0
  clear hx hB0 hsz hW1 hxb0
  refine wp_region_G [] (fun u => u.cell? ⟨xb, 1, none⟩ = some (.int .i64 a) ∧ u.cell? ⟨xb, 2, none⟩ = some (.int .i64 3)) (by rfl) ?_ (fun hHeld => ?_)
  · exact ⟨y1, y2⟩
  generalize hwd : World.drew W1 = wd at HB y1 y2 hxb hHeld ⊢
  refine wpAnyG_take (i := 0) (v := ?_) rfl (by kernel_rfl) (by kernel_rfl) (by kernel_rfl) (by kernel_rfl) (by kernel_rfl) (fun _ _ _ h => h) (Or.inl ⟨by rfl, ?_⟩) (by assumption) ?_
  rotate_left
  · (intro w hSw; (try dsimp only at hSw); go_simp; try with_reducible rfl)
  try simp only [nmC]
  refine wpAnyG_take (i := 1) (v := ?_) rfl (by kernel_rfl) (by kernel_rfl) (by kernel_rfl) (by kernel_rfl) (by kernel_rfl) (fun _ _ _ h => h) (Or.inl ⟨by rfl, ?_⟩) (by assumption) ?_
  rotate_left
  · (intro w hSw; (try dsimp only at hSw); go_simp; try with_reducible rfl)
  try simp only [nmC]
  refine wpAnyG_take (i := 2) (v := ?_) rfl (by kernel_rfl) (by kernel_rfl) (by kernel_rfl) (by kernel_rfl) (by kernel_rfl) (fun _ _ _ h => h) (Or.inl ⟨by rfl, ?_⟩) (by assumption) ?_
  rotate_left
  · (intro w hSw; (try dsimp only at hSw); go_simp; try with_reducible rfl)
  try simp only [nmC]
  refine wpAnyG_take (i := 3) (v := ?_) rfl (by kernel_rfl) (by kernel_rfl) (by kernel_rfl) (by kernel_rfl) (by kernel_rfl) (fun _ _ _ h => h) (Or.inl ⟨by rfl, ?_⟩) (by assumption) ?_
  rotate_left
  · (intro w hSw; (try dsimp only at hSw); go_simp; try with_reducible rfl)
  try simp only [nmC]
  refine wpAnyG_take (i := 4) (v := ?_) rfl (by kernel_rfl) (by kernel_rfl) (by kernel_rfl) (by kernel_rfl) (by kernel_rfl) (fun _ _ _ h => h) (Or.inl ⟨by rfl, ?_⟩) (by assumption) ?_
  rotate_left
  · (intro w hSw; (try dsimp only at hSw); go_simp; try with_reducible rfl)
  try simp only [nmC]
  refine wpAnyG_take (i := 5) (v := ?_) rfl (by kernel_rfl) (by kernel_rfl) (by kernel_rfl) (by kernel_rfl) (by kernel_rfl) (fun _ _ _ h => h) (Or.inl ⟨by rfl, ?_⟩) (by assumption) ?_
  rotate_left
  · (intro w hSw; (try dsimp only at hSw); go_simp; try with_reducible rfl)
  try simp only [nmC]
  refine wpAnyG_take (i := 6) (v := ?_) rfl (by kernel_rfl) (by kernel_rfl) (by kernel_rfl) (by kernel_rfl) (by kernel_rfl) (fun _ _ _ h => h) (Or.inl ⟨by rfl, ?_⟩) (by assumption) ?_
  rotate_left
  · (intro w hSw; (try dsimp only at hSw); go_simp; try with_reducible rfl)
  try simp only [nmC]
  refine wpAnyG_take (i := 7) (v := ?_) rfl (by kernel_rfl) (by kernel_rfl) (by kernel_rfl) (by kernel_rfl) (by kernel_rfl) (fun _ _ _ h => h) (Or.inl ⟨by rfl, ?_⟩) (by assumption) ?_
  rotate_left
  · (intro w hSw; (try dsimp only at hSw); go_simp; try with_reducible rfl)
  try simp only [nmC]
  refine wpAnyG_take (i := 8) (v := ?_) rfl (by kernel_rfl) (by kernel_rfl) (by kernel_rfl) (by kernel_rfl) (by kernel_rfl) (fun _ _ _ h => h) (Or.inl ⟨by rfl, ?_⟩) (by assumption) ?_
  rotate_left
  · (intro w hSw; (try dsimp only at hSw); go_simp; try with_reducible rfl)
  try simp only [nmC]
  refine wpAnyG_take (i := 9) (v := ?_) rfl (by kernel_rfl) (by kernel_rfl) (by kernel_rfl) (by kernel_rfl) (by kernel_rfl) (fun _ _ _ h => h) (Or.inl ⟨by rfl, ?_⟩) (by assumption) ?_
  rotate_left
  · (intro w hSw; (try dsimp only at hSw); go_simp; try with_reducible rfl)
  try simp only [nmC]
  refine wpAnyG_take (i := 11) (v := ?_) rfl (by kernel_rfl) (by kernel_rfl) (by kernel_rfl) (by kernel_rfl) (by kernel_rfl) (fun _ _ _ h => h) (Or.inl ⟨by rfl, ?_⟩) (by assumption) ?_
  rotate_left
  · (intro w hSw; (try dsimp only at hSw); go_simp; try with_reducible rfl)
  try simp only [nmC]
  refine wpAnyG_take (i := 12) (v := ?_) rfl (by kernel_rfl) (by kernel_rfl) (by kernel_rfl) (by kernel_rfl) (by kernel_rfl) (fun _ _ _ h => h) (Or.inl ⟨by rfl, ?_⟩) (by assumption) ?_
  rotate_left
  · (intro w hSw; (try dsimp only at hSw); go_simp; try with_reducible rfl)
  try simp only [nmC]
  refine wpAnyG_take (i := 15) (v := ?_) rfl (by kernel_rfl) (by kernel_rfl) (by kernel_rfl) (by kernel_rfl) (by kernel_rfl) (fun _ _ _ h => h) (Or.inl ⟨by rfl, ?_⟩) (by assumption) ?_
  rotate_left
  · (intro w hSw; (try dsimp only at hSw); go_simp; try with_reducible rfl)
  try simp only [nmC]
  refine wpAnyG_ready (rs := [10]) (by kernel_rfl) (by simp) ?_
  refine AllReadyG.cons rfl (fun KK hKK => ?_) AllReadyG.nil
  go_simp
  have y1 := (((Below.refl wd.heap.size wd).alloc (Nat.le_refl _) (.cells #[.int .i64 (a + 1), .int .i64 a, .int .i64 a, .int .i64 (a - 1)] 3 (0, 0))).cell (p := ⟨xb, 1, none⟩) hxb).trans y1
  have y2 := (((Below.refl wd.heap.size wd).alloc (Nat.le_refl _) (.cells #[.int .i64 (a + 1), .int .i64 a, .int .i64 a, .int .i64 (a - 1)] 3 (0, 0))).cell (p := ⟨xb, 2, none⟩) hxb).trans y2
  have z := (cell_of_row _ _ 3 _ _ _ (heap_alloc_new wd (.cells #[.int .i64 (a + 1), .int .i64 a, .int .i64 a, .int .i64 (a - 1)] 3 (0, 0))))
  simp only [List.getElem?_toArray, List.getElem?_cons_zero, List.getElem?_cons_succ] at z
  try dsimp only
  refine hKK.out _ _ (⟨y1, y2⟩) (fun hHeld => ?_)
  clear hKK KK
  try simp only [nmC]
  refine wpAnyG_take (i := 13) (v := ?_) rfl (by kernel_rfl) (by kernel_rfl) (by kernel_rfl) (by kernel_rfl) (by kernel_rfl) (fun _ _ _ h => h) (Or.inl ⟨by rfl, ?_⟩) (by assumption) ?_
  rotate_left
  · (intro w hSw; (try dsimp only at hSw); go_simp; try with_reducible rfl)
  try simp only [nmC]
  refine wpAnyG_ready (rs := [14]) (by kernel_rfl) (by simp) ?_
  refine AllReadyG.cons rfl (fun KK hKK => ?_) AllReadyG.nil
  go_simp
  try dsimp only
  refine hKK.out _ _ (⟨y1, y2⟩) (fun hHeld => ?_)
  clear hKK KK
  try simp only [nmC]
  refine wpAnyG_take (i := 16) (v := ?_) rfl (by kernel_rfl) (by kernel_rfl) (by kernel_rfl) (by kernel_rfl) (by kernel_rfl) (fun _ _ _ h => h) (Or.inl ⟨by rfl, ?_⟩) (by assumption) ?_
  rotate_left
  · (intro w hSw; (try dsimp only at hSw); go_simp; try with_reducible rfl)
  try simp only [nmC]
  refine wpAnyG_done (by kernel_rfl) ?_ _
  go_wp2_with fail
  go_ret2
  exact ⟨rfl, by rw [HXB.out]; exact HB.out.alloc (by omega) _⟩
theorem counted_slice (x : Ci) (h26 : x.op = 26) (ha : 0 ≤ x.a ∧ x.a ≤ 30000) (hb : x.b = 0 ∨ x.b = 1 ∨ x.b = 2 ∨ x.b = 3) : CountedOk x := by
  intro w
  obtain ⟨op, a, b, text, at_⟩ := x
  dsimp only at h26 ha hb
  subst h26
  rcases hb with rfl | rfl | rfl | rfl
  · exact counted_sl0 a at_ text ha w
  · exact counted_sl1 a at_ text ha w
  · exact counted_sl2 a at_ text ha w
  · exact counted_sl3 a at_ text ha w
end Go.Proofs.YtdjbkppdppdcgaaGreatDoor
