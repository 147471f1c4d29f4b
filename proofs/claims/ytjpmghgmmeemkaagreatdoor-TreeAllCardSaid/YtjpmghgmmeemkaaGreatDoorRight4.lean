/- tree.shaped at the kinds 47, 40, 38; the leaf of the statement arm. -/
import Derived.Test.YtjpmghgmmeemkaaGreatDoorRight3
namespace Go.Proofs.YtjpmghgmmeemkaaGreatDoor
open Go.RowKit


theorem CellsAt.setCell {w : World} {b : Nat} {p : Addr} {v : Value} (hb : p.block ≠ b) : ∀ {l : List Int} {j : Nat}, CellsAt w b l j → CellsAt (w.setCell p v) b l j
  | [], _, _ => trivial
  | y :: l, j, h => ⟨by rw [World.cell?_setCell_other (h := fun e => hb (by rw [e]))]; exact h.1, CellsAt.setCell hb h.2⟩

theorem shp_leafS (w w' : World) (A' : Option Addr) (cap' : Nat) (x1 x2 x3 x4 : Int) (z0 z1 z2 z3 z4 : Value) (l : List Int) (h : w'.heap[w.heap.size + 1]? = some (.cells #[z0, z1, z2, z3, z4] 98)) (hB : Below w.heap.size w w')
    (hlen : l.length ≤ 4) (hf : l = [] ∨ ∃ b, A' = some ⟨b, 0, none⟩ ∧ w.heap.size + 2 ≤ b ∧ b < w'.heap.size ∧ CellsAt w' b l 0)
    (tmps : Array Value) (h4 : tmps.getD 4 undef = .pointer (some ⟨w.heap.size + 1, 0, none⟩)) (r : Shp) (hr : r = ⟨l, x1, x2, x3, x4⟩) :
    bodyPost Tryz.prog Tryz.f46 (fun e w' => ∃ v, e = .returned v ∧ ShapeIs w.heap.size w' v r ∧ Below w.heap.size w w') .ret { tmps := tmps, defers := [] }
      (((((w'.setCell ⟨w.heap.size + 1, 0, none⟩ (.slice A' l.length cap')).setCell ⟨w.heap.size + 1, 1, none⟩ (.int .i64 x1)).setCell ⟨w.heap.size + 1, 2, none⟩ (.int .i64 x2)).setCell ⟨w.heap.size + 1, 3, none⟩ (.int .i64 x3)).setCell ⟨w.heap.size + 1, 4, none⟩ (.int .i64 x4)) := by
  subst hr
  have h5 := hrow_five w' (w.heap.size + 1) _ z0 z1 z2 z3 z4 (.slice A' l.length cap') (.int .i64 x1) (.int .i64 x2) (.int .i64 x3) (.int .i64 x4) h
  refine bodyPost_ret (results_cell_row rfl _ _ (w.heap.size + 1) 98 _ _ _ h4 h5 Tryz.underlying98 rfl (by kernel_rfl)) rfl
    ⟨_, rfl, ⟨A', cap', rfl, hlen, ?_⟩, ((((hB.setCell (p := ⟨w.heap.size + 1, 0, none⟩) (Nat.le_succ _) _).setCell (p := ⟨w.heap.size + 1, 1, none⟩) (Nat.le_succ _) _).setCell (p := ⟨w.heap.size + 1, 2, none⟩) (Nat.le_succ _) _).setCell (p := ⟨w.heap.size + 1, 3, none⟩) (Nat.le_succ _) _).setCell (p := ⟨w.heap.size + 1, 4, none⟩) (Nat.le_succ _) _⟩
  rcases hf with hf | ⟨b, hA, hb1, hb2, hc⟩
  · exact .inl hf
  · have hne : w.heap.size + 1 ≠ b := by omega
    exact .inr ⟨b, hA, by omega, by simpa using hb2, CellsAt.setCell hne (CellsAt.setCell hne (CellsAt.setCell hne (CellsAt.setCell hne (CellsAt.setCell hne hc))))⟩

set_option maxRecDepth 100000 in
set_option maxHeartbeats 2000000 in
theorem shaped_47 (s : ByteArray) (n a : Int) (A : Option Addr) (cap : Nat) (ks : List Nd) (q : Int) (w : World)
    (hl : Lies w w.heap.size (.mk 47 s n a ks) (.agg #[.int .i64 47, .string s, .int .i64 n, .int .i64 a, .slice A ks.length cap])) :
    Calls Tryz.prog 46 #[.agg #[.int .i64 47, .string s, .int .i64 n, .int .i64 a, .slice A ks.length cap], .int .i64 q] w fun e w' =>
      ∃ v, e = .returned v ∧ ShapeIs w.heap.size w' v (shapeOf 47 s ks q) ∧ Below w.heap.size w w' := by
  have hr0 : shapeOf 47 s ks q = fx [11, 12, 12, lastOf ks] := rfl
  rw [hr0]
  unfold Lies at hl
  obtain ⟨A', cap', he, _, _, _, _, hcl, hcc, hkids⟩ := hl
  simp only [Value.agg.injEq, Array.mk.injEq, List.cons.injEq, Value.slice.injEq, and_true, true_and] at he
  obtain ⟨rfl, rfl⟩ := he
  by_cases h4 : ks.length = 4
  · obtain ⟨b, o, c, rfl, hlt, hc, hlast⟩ : ∃ b o c, A = some ⟨b, o, none⟩ ∧ b < w.heap.size ∧ w.cell? ⟨b, o + 10, none⟩ = some (.int .i64 c) ∧ lastOf ks = if c = 16 then 29 else 12 := by
      rcases hkids with rfl | ⟨b, o, rfl, hlt, hkl⟩
      · simp at h4
      · obtain ⟨k1, s1, n1, a1, A1, cap1, ks1, hx, c0, _⟩ := LiesL.get 2 (by omega) hkl
        refine ⟨b, o, k1, rfl, hlt, c0, ?_⟩
        unfold lastOf
        rw [hx]
        by_cases hk1 : k1 = 16 <;> simp [h4, Nd.kind, hk1]
    have hc2 : ∀ v t v' t', ((w.alloc (.cells v t)).alloc (.cells v' t')).cell? ⟨b, o + 10, none⟩ = some (.int .i64 c) := fun v t v' t' => by
      rw [(((Below.refl w.heap.size w).alloc (Nat.le_refl _) (.cells v t)).alloc (by simp) (.cells v' t')).cell (p := ⟨b, o + 10, none⟩) hlt]; exact hc
    have hc3 : ∀ v t v' t' v'' t'', (((w.alloc (.cells v t)).alloc (.cells v' t')).alloc (.cells v'' t'')).cell? ⟨b, o + 10, none⟩ = some (.int .i64 c) := fun v t v' t' v'' t'' => by
      rw [((((Below.refl w.heap.size w).alloc (Nat.le_refl _) (.cells v t)).alloc (by simp) (.cells v' t')).alloc (by simp; omega) (.cells v'' t'')).cell (p := ⟨b, o + 10, none⟩) hlt]; exact hc
    rw [hlast]
    clear hlast hkids hc
    rw [h4] at hcl ⊢
    clear h4
    by_cases h16 : c = 16
    · subst h16
      go_enter Tryz.func46, Tryz.ntmps46
      go_wp2_with (first
        | (go_at_call 67; refine (fixed_any _ _ _ _).mono ?_; rintro e w' ⟨rfl, rfl⟩))
      exact shp_leaf4 w _ _ _ _ _ _ _ _ _ _ _ _ rfl _ rfl
    · have h16b : (c == 16) = false := by simp [h16]
      rw [if_neg h16]
      go_enter Tryz.func46, Tryz.ntmps46
      go_wp2_with (first
        | (go_at_call 67; refine (fixed_any _ _ _ _).mono ?_; rintro e w' ⟨rfl, rfl⟩))
      exact shp_leaf4 w _ _ _ _ _ _ _ _ _ _ _ _ rfl _ rfl
  · have hlast : lastOf ks = 12 := by simp [lastOf, h4]
    rw [hlast]
    have h4b : (((ks.length : Nat) : Int) == 4) = false := by simp; omega
    clear h4 hlast hkids
    go_enter Tryz.func46, Tryz.ntmps46
    go_wp2_with (first
      | (go_at_call 67; refine (fixed_any _ _ _ _).mono ?_; rintro e w' ⟨rfl, rfl⟩))
    exact shp_leaf4 w _ _ _ _ _ _ _ _ _ _ _ _ rfl _ rfl

set_option maxRecDepth 100000 in
set_option maxHeartbeats 2000000 in
theorem shaped_40 (s : ByteArray) (n a : Int) (A : Option Addr) (len cap : Nat) (ks : List Nd) (q : Int) (w : World) :
    Calls Tryz.prog 46 #[.agg #[.int .i64 40, .string s, .int .i64 n, .int .i64 a, .slice A len cap], .int .i64 q] w fun e w' =>
      ∃ v, e = .returned v ∧ ShapeIs w.heap.size w' v (shapeOf 40 s ks q) ∧ Below w.heap.size w w' := by
  have hr0 : shapeOf 40 s ks q = if q = 27 ∨ (q = 0 ∧ ¬ s.toList = []) then fx [11] else fx [11, 11] := rfl
  rw [hr0]
  have H1 : Hid (q = 27 → (if q = 27 ∨ (q = 0 ∧ ¬ s.toList = []) then fx [11] else fx [11, 11]) = fx [11]) := fun h => if_pos (.inl h)
  have H2 : Hid (q = 0 → (!s.toList.isEmpty) = true → (if q = 27 ∨ (q = 0 ∧ ¬ s.toList = []) then fx [11] else fx [11, 11]) = fx [11]) := fun h h' => if_pos (.inr ⟨h, by simpa using h'⟩)
  have H3 : Hid (¬ q = 27 → (!s.toList.isEmpty) = false → (if q = 27 ∨ (q = 0 ∧ ¬ s.toList = []) then fx [11] else fx [11, 11]) = fx [11, 11]) := fun h h' => if_neg (fun e => e.elim h (fun e => e.2 (by simpa using h')))
  have H4 : Hid (¬ q = 27 → ¬ q = 0 → (if q = 27 ∨ (q = 0 ∧ ¬ s.toList = []) then fx [11] else fx [11, 11]) = fx [11, 11]) := fun h h' => if_neg (fun e => e.elim h (fun e => h' e.1))
  obtain ⟨r, HF⟩ : ∃ r, Hid ((if q = 27 ∨ (q = 0 ∧ ¬ s.toList = []) then fx [11] else fx [11, 11]) = r) := ⟨_, rfl⟩
  rw [HF.out]
  go_enter Tryz.func46, Tryz.ntmps46
  go_wp2_with (first
    | (go_at_call 67; refine (fixed_any _ _ _ _).mono ?_; rintro e w' ⟨rfl, rfl⟩))
  all_goals first
    | exact shp_leaf1 w _ _ _ _ _ _ _ _ _ rfl _ (HF.out.symm.trans (H1.out (by assumption)))
    | exact shp_leaf1 w _ _ _ _ _ _ _ _ _ rfl _ (HF.out.symm.trans (H2.out (by assumption) (by assumption)))
    | exact shp_leaf2 w _ _ _ _ _ _ _ _ _ _ rfl _ (HF.out.symm.trans (H3.out (by assumption) (by assumption)))
    | exact shp_leaf2 w _ _ _ _ _ _ _ _ _ _ rfl _ (HF.out.symm.trans (H4.out (by assumption) (by assumption)))

theorem shp_leaf0b (w : World) (A C D : Obj) (x1 x2 x3 x4 : Int) (tmps : Array Value) (h4 : tmps.getD 4 undef = .pointer (some ⟨w.heap.size + 1, 0, none⟩)) (r : Shp) (hr : r = ⟨[], x1, x2, x3, x4⟩) :
    bodyPost Tryz.prog Tryz.f46 (fun e w' => ∃ v, e = .returned v ∧ ShapeIs w.heap.size w' v r ∧ Below w.heap.size w w') .ret { tmps := tmps, defers := [] }
      ((((w.alloc A).alloc (.cells #[.slice none 0 0, .int .i64 x1, .int .i64 x2, .int .i64 x3, .int .i64 x4] 98)).alloc C).alloc D) := by
  subst hr
  exact bodyPost_ret (results_cell_row rfl _ _ (w.heap.size + 1) 98 _ _ _ h4 (hrow_old2 _ _ _ _ _) Tryz.underlying98 rfl (by kernel_rfl)) rfl
    ⟨_, rfl, ⟨none, 0, rfl, by simp, .inl rfl⟩, ((((Below.refl _ _).alloc (Nat.le_refl _) _).alloc (by simp) _).alloc (by simp; omega) _).alloc (by simp; omega) _⟩

set_option maxRecDepth 100000 in
set_option maxHeartbeats 2000000 in
theorem shaped_38 (s : ByteArray) (n a : Int) (A : Option Addr) (len cap : Nat) (ks : List Nd) (q : Int) (w : World) :
    Calls Tryz.prog 46 #[.agg #[.int .i64 38, .string s, .int .i64 n, .int .i64 a, .slice A len cap], .int .i64 q] w fun e w' =>
      ∃ v, e = .returned v ∧ ShapeIs w.heap.size w' v (shapeOf 38 s ks q) ∧ Below w.heap.size w w' := by
  have hr0 : shapeOf 38 s ks q = if q = 22 then ⟨[], 23, 1, -1, 20⟩ else if q = 21 then ⟨[], 11, 1, -1, 20⟩ else rwS 11 [] := rfl
  rw [hr0]
  have H1 : Hid ((q == 22) = true → (if q = 22 then ⟨[], 23, 1, -1, 20⟩ else if q = 21 then ⟨[], 11, 1, -1, 20⟩ else rwS 11 [] : Shp) = ⟨[], 23, 1, -1, 20⟩) := fun h => if_pos (eq_of_beq h)
  have H2 : Hid ((q == 22) = false → (q == 21) = true → (if q = 22 then ⟨[], 23, 1, -1, 20⟩ else if q = 21 then ⟨[], 11, 1, -1, 20⟩ else rwS 11 [] : Shp) = ⟨[], 11, 1, -1, 20⟩) := fun h h' => by rw [if_neg (by simpa using h), if_pos (eq_of_beq h')]
  have H3 : Hid ((q == 22) = false → (q == 21) = false → (if q = 22 then ⟨[], 23, 1, -1, 20⟩ else if q = 21 then ⟨[], 11, 1, -1, 20⟩ else rwS 11 [] : Shp) = rwS 11 []) := fun h h' => by rw [if_neg (by simpa using h), if_neg (by simpa using h')]
  obtain ⟨r, HF⟩ : ∃ r, Hid ((if q = 22 then ⟨[], 23, 1, -1, 20⟩ else if q = 21 then ⟨[], 11, 1, -1, 20⟩ else rwS 11 [] : Shp) = r) := ⟨_, rfl⟩
  rw [HF.out]
  go_enter Tryz.func46, Tryz.ntmps46
  go_wp2_with (first
    | (go_at_call 66; refine (row_any _ _ _ _ _).mono ?_; rintro e w' ⟨rfl, rfl⟩))
  all_goals first
    | exact shp_leaf0b w _ _ _ _ _ _ _ _ rfl _ (HF.out.symm.trans (H1.out (by assumption)))
    | exact shp_leaf0b w _ _ _ _ _ _ _ _ rfl _ (HF.out.symm.trans (H2.out (by assumption) (by assumption)))
    | exact shp_leaf0b w _ _ _ _ _ _ _ _ rfl _ (HF.out.symm.trans (H3.out (by assumption) (by assumption)))

end Go.Proofs.YtjpmghgmmeemkaaGreatDoor
