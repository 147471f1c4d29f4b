/- guiselaw2.TreeSames: the walk. -/
import Derived.Test.YtjpmghgmmeemkaaGreatDoorEx2
namespace Go.Proofs.YtjpmghgmmeemkaaGreatDoor
open Go.RowKit

mutual
theorem Nd.same_comm : ∀ (t u : Nd), t.same u = u.same t
  | .mk k s n a ks, .mk k' s' n' a' ks' => by
    unfold Nd.same
    rw [sameL_comm ks ks', BEq.comm (a := k), BEq.comm (a := s.toList), BEq.comm (a := n), BEq.comm (a := ks.length)]
theorem sameL_comm : ∀ (ts us : List Nd), sameL ts us = sameL us ts
  | [], [] => rfl
  | [], _ :: _ => by unfold sameL; rfl
  | _ :: _, [] => by unfold sameL; rfl
  | t :: ts, u :: us => by unfold sameL; rw [Nd.same_comm t u, sameL_comm ts us]
end
theorem Nd.Same_comm (t u : Nd) : t.Same u = u.Same t := by
  unfold Nd.Same
  rw [Nd.same_comm t u, BEq.comm (a := t.count 1000000)]
  by_cases h : t.count 1000000 = u.count 1000000
  · rw [h]
  · have h' : (u.count 1000000 == t.count 1000000) = false := by simp; exact fun e => h e.symm
    rw [h']; simp
theorem Same_flip (t u : Nd) (v v' : Value) (w : World) (h : Lies w w.heap.size u v') (h' : Lies w w.heap.size t v) :
    Calls Tryz.prog 9 #[v', v] w fun e w' => e = .returned (.bool (t.Same u)) ∧ Below w.heap.size w w' := by
  rw [Nd.Same_comm t u]
  exact Same_any u t v' v w h h'

set_option maxRecDepth 100000 in
set_option maxHeartbeats 4000000 in
theorem TreeSames_any (t u : Nd) (v v' : Value) (w : World) (hgl : Gl w) (hge : Gerr w) (h : Lies w w.heap.size t v) (h' : Lies w w.heap.size u v') :
    Calls Tryz.prog 3 #[v, v'] w fun e w' => e = .returned (.bool true) ∧ Below w.heap.size w w' := by
  have HX := Lib.hid h
  have HY := Lib.hid h'
  obtain ⟨k, s, n, a, ks⟩ := t
  obtain ⟨k', s', n', a', ks'⟩ := u
  unfold Lies at h h'
  obtain ⟨A, cap, rfl, -⟩ := h
  obtain ⟨A', cap', rfl, -⟩ := h'
  obtain ⟨W0, hW0⟩ : ∃ W0, (w.alloc (.cells #[.int .i64 k, .string s, .int .i64 n, .int .i64 a, .slice A ks.length cap] 24)).alloc (.cells #[.int .i64 k', .string s', .int .i64 n', .int .i64 a', .slice A' ks'.length cap'] 24) = W0 := ⟨_, rfl⟩
  have hb0 : Below w.heap.size w W0 := by rw [← hW0]; exact ((Below.refl _ _).alloc (Nat.le_refl _) _).alloc (by simp) _
  have hs0 : w.heap.size + 1 < W0.heap.size := by rw [← hW0]; simp
  have p0 : W0.cell? ⟨w.heap.size, 0, none⟩ = some (.int .i64 k) := by rw [← hW0]; simp
  have p1 : W0.cell? ⟨w.heap.size, 1, none⟩ = some (.string s) := by rw [← hW0]; simp
  have p2 : W0.cell? ⟨w.heap.size, 2, none⟩ = some (.int .i64 n) := by rw [← hW0]; simp
  have p3 : W0.cell? ⟨w.heap.size, 3, none⟩ = some (.int .i64 a) := by rw [← hW0]; simp
  have p4 : W0.cell? ⟨w.heap.size, 4, none⟩ = some (.slice A ks.length cap) := by rw [← hW0]; simp
  have q0 : W0.cell? ⟨w.heap.size + 1, 0, none⟩ = some (.int .i64 k') := by rw [← hW0]; simp
  have q1 : W0.cell? ⟨w.heap.size + 1, 1, none⟩ = some (.string s') := by rw [← hW0]; simp
  have q2 : W0.cell? ⟨w.heap.size + 1, 2, none⟩ = some (.int .i64 n') := by rw [← hW0]; simp
  have q3 : W0.cell? ⟨w.heap.size + 1, 3, none⟩ = some (.int .i64 a') := by rw [← hW0]; simp
  have q4 : W0.cell? ⟨w.heap.size + 1, 4, none⟩ = some (.slice A' ks'.length cap') := by rw [← hW0]; simp
  have K : ∀ W, Below W0.heap.size W0 W → Below W0.heap.size W0 W ∧ W.cell? ⟨w.heap.size, 0, none⟩ = some (.int .i64 k) ∧ W.cell? ⟨w.heap.size, 1, none⟩ = some (.string s) ∧ W.cell? ⟨w.heap.size, 2, none⟩ = some (.int .i64 n) ∧ W.cell? ⟨w.heap.size, 3, none⟩ = some (.int .i64 a) ∧ W.cell? ⟨w.heap.size, 4, none⟩ = some (.slice A ks.length cap) ∧
      W.cell? ⟨w.heap.size + 1, 0, none⟩ = some (.int .i64 k') ∧ W.cell? ⟨w.heap.size + 1, 1, none⟩ = some (.string s') ∧ W.cell? ⟨w.heap.size + 1, 2, none⟩ = some (.int .i64 n') ∧ W.cell? ⟨w.heap.size + 1, 3, none⟩ = some (.int .i64 a') ∧ W.cell? ⟨w.heap.size + 1, 4, none⟩ = some (.slice A' ks'.length cap') := fun W hW => by
    have hc : ∀ b o, b < W0.heap.size → W.cell? ⟨b, o, none⟩ = W0.cell? ⟨b, o, none⟩ := fun b o h => hW.cell (p := ⟨b, o, none⟩) h
    refine ⟨hW, ?_, ?_, ?_, ?_, ?_, ?_, ?_, ?_, ?_, ?_⟩ <;> exact (hc _ _ (by omega)).trans (by assumption)
  have K' := Lib.hid K
  have HEX := Lib.hid (examples_any W0 (hgl.up hb0) (hge.below hb0 (by have := hgl.2.2; omega)))
  have HB0 := Lib.hid hb0
  have HX0 := Lib.hid (HX.out.up hb0)
  have HY0 := Lib.hid (HY.out.up hb0)
  rw [← hW0] at HEX
  have HW0 := Lib.hid hW0
  clear K hgl hge hW0 HX HY p0 p1 p2 p3 p4 q0 q1 q2 q3 q4 hb0
  go_enter Tryz.func3, Tryz.ntmps3
  go_wp2_with (first
    | (go_at_call 7; refine HEX.out.mono ?_; clear HEX
       rintro e w1 ⟨rfl, hb⟩
       rw [HW0.out] at hb
       obtain ⟨hb1, c0, c1, c2, c3, c4, d0, d1, d2, d3, d4⟩ := K'.out _ hb
       have HRS := Lib.hid (rSame_any (.mk k s n a ks) (.mk k' s' n' a' ks') _ _ w1 (HX0.out.up hb) (HY0.out.up hb))
       have HB1 := Lib.hid hb
       clear hb hb1)
    | (go_at_call 8; refine HRS.out.mono ?_; clear HRS
       rintro e w2 ⟨rfl, hb⟩
       have HB2 := Lib.hid (below_step HB1.out hb)
       clear hb c0 c1 c2 c3 c4 d0 d1 d2 d3 d4))
  obtain ⟨x, HXX⟩ : ∃ x, Hid ((Nd.mk k s n a ks).Same (.mk k' s' n' a' ks') = x) := ⟨_, rfl⟩
  obtain ⟨y, HYY⟩ : ∃ y, Hid ((Nd.mk k s n a ks).count 1000000 = y) := ⟨_, rfl⟩
  obtain ⟨z, HZZ⟩ : ∃ z, Hid ((Nd.mk k' s' n' a' ks').count 1000000 = z) := ⟨_, rfl⟩
  have hA1 := fun w h h' => Same_any (.mk k s n a ks) (.mk k' s' n' a' ks') (.agg #[.int .i64 k, .string s, .int .i64 n, .int .i64 a, .slice A ks.length cap]) (.agg #[.int .i64 k', .string s', .int .i64 n', .int .i64 a', .slice A' ks'.length cap']) w h h'
  have hA2 := fun w h h' => Same_flip (.mk k s n a ks) (.mk k' s' n' a' ks') (.agg #[.int .i64 k, .string s, .int .i64 n, .int .i64 a, .slice A ks.length cap]) (.agg #[.int .i64 k', .string s', .int .i64 n', .int .i64 a', .slice A' ks'.length cap']) w h h'
  have hC1 := fun w h => Count_any (.mk k s n a ks) (.agg #[.int .i64 k, .string s, .int .i64 n, .int .i64 a, .slice A ks.length cap]) w h
  have hC2 := fun w h => Count_any (.mk k' s' n' a' ks') (.agg #[.int .i64 k', .string s', .int .i64 n', .int .i64 a', .slice A' ks'.length cap']) w h
  have hR1 := fun w h => rCount_any (.mk k s n a ks) (.agg #[.int .i64 k, .string s, .int .i64 n, .int .i64 a, .slice A ks.length cap]) w h
  have hR2 := fun w h => rCount_any (.mk k' s' n' a' ks') (.agg #[.int .i64 k', .string s', .int .i64 n', .int .i64 a', .slice A' ks'.length cap']) w h
  rw [HXX.out] at hA1 hA2 ⊢
  rw [HYY.out] at hC1 hR1
  rw [HZZ.out] at hC2 hR2
  have HA1 := Lib.hid hA1
  have HA2 := Lib.hid hA2
  have HC1 := Lib.hid hC1
  have HC2 := Lib.hid hC2
  have HR1 := Lib.hid hR1
  have HR2 := Lib.hid hR2
  clear hA1 hA2 hC1 hC2 hR1 hR2
  go_region_held3 (fun W => Below W0.heap.size W0 W ∧ W.cell? ⟨w.heap.size, 0, none⟩ = some (.int .i64 k) ∧ W.cell? ⟨w.heap.size, 1, none⟩ = some (.string s) ∧ W.cell? ⟨w.heap.size, 2, none⟩ = some (.int .i64 n) ∧ W.cell? ⟨w.heap.size, 3, none⟩ = some (.int .i64 a) ∧ W.cell? ⟨w.heap.size, 4, none⟩ = some (.slice A ks.length cap) ∧
      W.cell? ⟨w.heap.size + 1, 0, none⟩ = some (.int .i64 k') ∧ W.cell? ⟨w.heap.size + 1, 1, none⟩ = some (.string s') ∧ W.cell? ⟨w.heap.size + 1, 2, none⟩ = some (.int .i64 n') ∧ W.cell? ⟨w.heap.size + 1, 3, none⟩ = some (.int .i64 a') ∧ W.cell? ⟨w.heap.size + 1, 4, none⟩ = some (.slice A' ks'.length cap'))
    (first
      | exact K'.out _ (Below.drew HB2.out)
      | exact K'.out _ hB2)
    (first
      | (go_at_call 9; (with_reducible refine (HA1.out _ ?_ ?_).mono ?_); (refine HX0.out.up ?_); (apply And.left; assumption); (refine HY0.out.up ?_); (apply And.left; assumption); rintro e w9 ⟨rfl, hb2⟩; have hB2 : Below W0.heap.size W0 w9 := (by (refine below_step ?_ hb2); apply And.left; assumption))
      | (go_at_call 9; (with_reducible refine (HA2.out _ ?_ ?_).mono ?_); (refine HY0.out.up ?_); (apply And.left; assumption); (refine HX0.out.up ?_); (apply And.left; assumption); rintro e w9 ⟨rfl, hb2⟩; have hB2 : Below W0.heap.size W0 w9 := (by (refine below_step ?_ hb2); apply And.left; assumption))
      | (go_at_call 10; (with_reducible refine (HC1.out _ ?_).mono ?_); (refine HX0.out.up ?_); (apply And.left; assumption); rintro e w9 ⟨rfl, hb2⟩; have hB2 : Below W0.heap.size W0 w9 := (by (refine below_step ?_ hb2); apply And.left; assumption))
      | (go_at_call 10; (with_reducible refine (HC2.out _ ?_).mono ?_); (refine HY0.out.up ?_); (apply And.left; assumption); rintro e w9 ⟨rfl, hb2⟩; have hB2 : Below W0.heap.size W0 w9 := (by (refine below_step ?_ hb2); apply And.left; assumption))
      | (go_at_call 11; (with_reducible refine (HR1.out _ ?_).mono ?_); (refine HX0.out.up ?_); (apply And.left; assumption); rintro e w9 ⟨rfl, hb2⟩; have hB2 : Below W0.heap.size W0 w9 := (by (refine below_step ?_ hb2); apply And.left; assumption))
      | (go_at_call 11; (with_reducible refine (HR2.out _ ?_).mono ?_); (refine HY0.out.up ?_); (apply And.left; assumption); rintro e w9 ⟨rfl, hb2⟩; have hB2 : Below W0.heap.size W0 w9 := (by (refine below_step ?_ hb2); apply And.left; assumption)))
  go_wp2_with fail
  go_ret
  exact ⟨rfl, below_step HB0.out hB2⟩

end Go.Proofs.YtjpmghgmmeemkaaGreatDoor
