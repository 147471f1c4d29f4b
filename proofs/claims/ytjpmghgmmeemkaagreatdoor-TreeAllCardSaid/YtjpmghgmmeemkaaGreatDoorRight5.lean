/- tree.shaped: the shape of every node. -/
import Derived.Test.YtjpmghgmmeemkaaGreatDoorRight4
namespace Go.Proofs.YtjpmghgmmeemkaaGreatDoor
open Go.RowKit


set_option maxRecDepth 100000 in
set_option maxHeartbeats 8000000 in
theorem shaped_any (k : Int) (s : ByteArray) (n a : Int) (A : Option Addr) (cap : Nat) (ks : List Nd) (q : Int) (w : World) (h : Gl w)
    (hl : Lies w w.heap.size (.mk k s n a ks) (.agg #[.int .i64 k, .string s, .int .i64 n, .int .i64 a, .slice A ks.length cap])) :
    Calls Tryz.prog 46 #[.agg #[.int .i64 k, .string s, .int .i64 n, .int .i64 a, .slice A ks.length cap], .int .i64 q] w fun e w' =>
      ∃ v, e = .returned v ∧ ShapeIs w.heap.size w' v (shapeOf k s ks q) ∧ Below w.heap.size w w' := by
  by_cases e47 : k = 47
  · subst e47; exact shaped_47 s n a A cap ks q w hl
  by_cases e40 : k = 40
  · subst e40; exact shaped_40 s n a A ks.length cap ks q w
  by_cases e38 : k = 38
  · subst e38; exact shaped_38 s n a A ks.length cap ks q w
  have b47 : (k == 47) = false := by simp [e47]
  have b40 : (k == 40) = false := by simp [e40]
  have b38 : (k == 38) = false := by simp [e38]
  clear e47 e40 e38
  have h1 : k = 1 → shapeOf k s ks q = rwS 1 [] := fun h => by subst h; rfl
  have H1 := Lib.hid h1
  clear h1
  have h2 : k = 2 → shapeOf k s ks q = fx [5] := fun h => by subst h; rfl
  have H2 := Lib.hid h2
  clear h2
  have h3 : k = 3 → shapeOf k s ks q = lim 2 30 := fun h => by subst h; rfl
  have H3 := Lib.hid h3
  clear h3
  have h4 : k = 4 → shapeOf k s ks q = lim 3 60 := fun h => by subst h; rfl
  have H4 := Lib.hid h4
  clear h4
  have h5 : k = 5 → shapeOf k s ks q = fx [8, 9] := fun h => by subst h; rfl
  have H5 := Lib.hid h5
  clear h5
  have h43 : k = 43 → shapeOf k s ks q = fx [8, 9] := fun h => by subst h; rfl
  have H43 := Lib.hid h43
  clear h43
  have h6 : k = 6 → shapeOf k s ks q = fx [7, 8, 9] := fun h => by subst h; rfl
  have H6 := Lib.hid h6
  clear h6
  have h7 : k = 7 → shapeOf k s ks q = fx [11] := fun h => by subst h; rfl
  have H7 := Lib.hid h7
  clear h7
  have h18 : k = 18 → shapeOf k s ks q = fx [11] := fun h => by subst h; rfl
  have H18 := Lib.hid h18
  clear h18
  have h45 : k = 45 → shapeOf k s ks q = fx [11] := fun h => by subst h; rfl
  have H45 := Lib.hid h45
  clear h45
  have h50 : k = 50 → shapeOf k s ks q = fx [11] := fun h => by subst h; rfl
  have H50 := Lib.hid h50
  clear h50
  have h12 : k = 12 → shapeOf k s ks q = fx [6] := fun h => by subst h; rfl
  have H12 := Lib.hid h12
  clear h12
  have h13 : k = 13 → shapeOf k s ks q = lim 4 12 := fun h => by subst h; rfl
  have H13 := Lib.hid h13
  clear h13
  have h15 : k = 15 → shapeOf k s ks q = fx [4] := fun h => by subst h; rfl
  have H15 := Lib.hid h15
  clear h15
  have h42 : k = 42 → shapeOf k s ks q = fx [28] := fun h => by subst h; rfl
  have H42 := Lib.hid h42
  clear h42
  have h44 : k = 44 → shapeOf k s ks q = fx [25] := fun h => by subst h; rfl
  have H44 := Lib.hid h44
  clear h44
  have h46 : k = 46 → shapeOf k s ks q = fx [11, 11] := fun h => by subst h; rfl
  have H46 := Lib.hid h46
  clear h46
  have h51 : k = 51 → shapeOf k s ks q = fx [11, 11] := fun h => by subst h; rfl
  have H51 := Lib.hid h51
  clear h51
  have h49 : k = 49 → shapeOf k s ks q = fx [11, 24] := fun h => by subst h; rfl
  have H49 := Lib.hid h49
  clear h49
  have h48 : k = 48 → shapeOf k s ks q = rwS 11 [18] := fun h => by subst h; rfl
  have H48 := Lib.hid h48
  clear h48
  have h39 : k = 39 → shapeOf k s ks q = rwS 26 [] := fun h => by subst h; rfl
  have H39 := Lib.hid h39
  clear h39
  have h41 : k = 41 → shapeOf k s ks q = rwS 27 [] := fun h => by subst h; rfl
  have H41 := Lib.hid h41
  clear h41
  have h00 : (k == 1) = false → (k == 2) = false → (k == 3) = false → (k == 4) = false → (k == 5) = false → (k == 43) = false → (k == 6) = false → (k == 7) = false → (k == 18) = false → (k == 45) = false → (k == 50) = false → (k == 12) = false → (k == 13) = false → (k == 15) = false → (k == 42) = false → (k == 44) = false → (k == 46) = false → (k == 51) = false → (k == 49) = false → (k == 48) = false → (k == 39) = false → (k == 41) = false → (k == 47) = false → (k == 40) = false → (k == 38) = false → shapeOf k s ks q = stmtShape k q (typedB ks) := by
    intros
    simp_all [shapeOf]
  have H00 := Lib.hid h00
  clear h00
  obtain ⟨r, HF⟩ : ∃ r, Hid (shapeOf k s ks q = r) := ⟨_, rfl⟩
  rw [HF.out]
  have H := Lib.hid h
  have HL := Lib.hid hl
  clear h hl
  have hb0 : ∀ v t v' t', Below w.heap.size w ((w.alloc (.cells v t)).alloc (.cells v' t')) := fun v t v' t' => ((Below.refl _ _).alloc (Nat.le_refl _) _).alloc (by simp) _
  have HB := Lib.hid hb0
  clear hb0
  go_enter Tryz.func46, Tryz.ntmps46
  go_wp2_with (first
    | (go_at_call 67; refine (fixed_any _ _ _ _).mono ?_; rintro e w' ⟨rfl, rfl⟩)
    | (go_at_call 68; refine (limited_any _ _ _).mono ?_; rintro e w' ⟨rfl, rfl⟩)
    | (go_at_call 66; refine (row_any _ _ _ _ _).mono ?_; rintro e w' ⟨rfl, rfl⟩)
    | (go_at_call 69; refine (statement_any k s n a A cap ks q _ (H.out.up (HB.out _ _ _ _)) (HL.out.up (HB.out _ _ _ _))).mono ?_; rintro e w' ⟨v, rfl, ⟨A', cap', rfl, hlen, hfirst⟩, hb⟩
       have hrow : w'.heap[w.heap.size + 1]? = some (.cells #[.slice none 0 0, .int .i64 0, .int .i64 0, .int .i64 0, .int .i64 0] 98) := (hb.block _ (by simp)).trans (heap_alloc2_new _ _ _)
       have HROW := Lib.hid hrow
       have HFIRST := Lib.hid hfirst
       have e0 : ∀ i, w'.cell? ⟨w.heap.size + 1, i, none⟩ = (#[Value.slice none 0 0, .int .i64 0, .int .i64 0, .int .i64 0, .int .i64 0])[i]? := fun i => cell_of_row w' _ i _ _ _ hrow
       have c0 : w'.cell? ⟨w.heap.size + 1, 0, none⟩ = some (.slice none 0 0) := e0 0
       have c1 : w'.cell? ⟨w.heap.size + 1, 1, none⟩ = some (.int .i64 0) := e0 1
       have c2 : w'.cell? ⟨w.heap.size + 1, 2, none⟩ = some (.int .i64 0) := e0 2
       have c3 : w'.cell? ⟨w.heap.size + 1, 3, none⟩ = some (.int .i64 0) := e0 3
       have c4 : w'.cell? ⟨w.heap.size + 1, 4, none⟩ = some (.int .i64 0) := e0 4
       have f0 : ∀ i, w'.frozen? ⟨w.heap.size + 1, i, none⟩ = false := fun i => frozen_of_row w' _ i _ _ hrow
       have HBB := Lib.hid hb
       have HLEN := Lib.hid hlen
       clear hrow e0 hb hfirst hlen))
  all_goals first
    | (have hR := HROW.out
       have hBW := (HB.out _ _ _ _).trans (HBB.out.mono (by simp; omega))
       have hfi := HFIRST.out
       have hle := HLEN.out
       have hr := HF.out.symm.trans (H00.out (by assumption) (by assumption) (by assumption) (by assumption) (by assumption) (by assumption) (by assumption) (by assumption) (by assumption) (by assumption) (by assumption) (by assumption) (by assumption) (by assumption) (by assumption) (by assumption) (by assumption) (by assumption) (by assumption) (by assumption) (by assumption) (by assumption) (by assumption) (by assumption) (by assumption))
       simp only [World.size_alloc] at hfi
       rw [hr]
       exact shp_leafS w w' A' cap' _ _ _ _ _ _ _ _ _ _ hR hBW hle hfi _ rfl _ rfl)
    | (exact shp_leaf0 w _ _ _ _ _ _ _ rfl _ (HF.out.symm.trans (H1.out (eq_of_beq (by assumption)))))
    | (exact shp_leaf1 w _ _ _ _ _ _ _ _ _ rfl _ (HF.out.symm.trans (H2.out (eq_of_beq (by assumption)))))
    | (exact shp_leaf0 w _ _ _ _ _ _ _ rfl _ (HF.out.symm.trans (H3.out (eq_of_beq (by assumption)))))
    | (exact shp_leaf0 w _ _ _ _ _ _ _ rfl _ (HF.out.symm.trans (H4.out (eq_of_beq (by assumption)))))
    | (exact shp_leaf2 w _ _ _ _ _ _ _ _ _ _ rfl _ (HF.out.symm.trans (H5.out (eq_of_beq (by assumption)))))
    | (exact shp_leaf2 w _ _ _ _ _ _ _ _ _ _ rfl _ (HF.out.symm.trans (H43.out (eq_of_beq (by assumption)))))
    | (exact shp_leaf3 w _ _ _ _ _ _ _ _ _ _ _ rfl _ (HF.out.symm.trans (H6.out (eq_of_beq (by assumption)))))
    | (exact shp_leaf1 w _ _ _ _ _ _ _ _ _ rfl _ (HF.out.symm.trans (H7.out (eq_of_beq (by assumption)))))
    | (exact shp_leaf1 w _ _ _ _ _ _ _ _ _ rfl _ (HF.out.symm.trans (H18.out (eq_of_beq (by assumption)))))
    | (exact shp_leaf1 w _ _ _ _ _ _ _ _ _ rfl _ (HF.out.symm.trans (H45.out (eq_of_beq (by assumption)))))
    | (exact shp_leaf1 w _ _ _ _ _ _ _ _ _ rfl _ (HF.out.symm.trans (H50.out (eq_of_beq (by assumption)))))
    | (exact shp_leaf1 w _ _ _ _ _ _ _ _ _ rfl _ (HF.out.symm.trans (H12.out (eq_of_beq (by assumption)))))
    | (exact shp_leaf0 w _ _ _ _ _ _ _ rfl _ (HF.out.symm.trans (H13.out (eq_of_beq (by assumption)))))
    | (exact shp_leaf1 w _ _ _ _ _ _ _ _ _ rfl _ (HF.out.symm.trans (H15.out (eq_of_beq (by assumption)))))
    | (exact shp_leaf1 w _ _ _ _ _ _ _ _ _ rfl _ (HF.out.symm.trans (H42.out (eq_of_beq (by assumption)))))
    | (exact shp_leaf1 w _ _ _ _ _ _ _ _ _ rfl _ (HF.out.symm.trans (H44.out (eq_of_beq (by assumption)))))
    | (exact shp_leaf2 w _ _ _ _ _ _ _ _ _ _ rfl _ (HF.out.symm.trans (H46.out (eq_of_beq (by assumption)))))
    | (exact shp_leaf2 w _ _ _ _ _ _ _ _ _ _ rfl _ (HF.out.symm.trans (H51.out (eq_of_beq (by assumption)))))
    | (exact shp_leaf2 w _ _ _ _ _ _ _ _ _ _ rfl _ (HF.out.symm.trans (H49.out (eq_of_beq (by assumption)))))
    | (exact shp_leaf1 w _ _ _ _ _ _ _ _ _ rfl _ (HF.out.symm.trans (H48.out (eq_of_beq (by assumption)))))
    | (exact shp_leaf0 w _ _ _ _ _ _ _ rfl _ (HF.out.symm.trans (H39.out (eq_of_beq (by assumption)))))
    | (exact shp_leaf0 w _ _ _ _ _ _ _ rfl _ (HF.out.symm.trans (H41.out (eq_of_beq (by assumption)))))

end Go.Proofs.YtjpmghgmmeemkaaGreatDoor
