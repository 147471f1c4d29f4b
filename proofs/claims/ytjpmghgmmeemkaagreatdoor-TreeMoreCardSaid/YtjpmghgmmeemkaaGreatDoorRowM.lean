/- TreeMore: for every tree and every text the law answers true, and both read behind the call as they did. -/
import Derived.Test.YtjpmghgmmeemkaaGreatDoorGround
import Derived.Test.YtjpmghgmmeemkaaGreatDoorEx2
import Derived.Test.YtjpmghgmmeemkaaGreatDoorMore
import Derived.ChangeMaps5
import Derived.RowKit
namespace Go.Proofs.YtjpmghgmmeemkaaGreatDoor
open Go.RowKit Go.ChangeShapes Go.WideShapes Go.ChangeAt

set_option maxRecDepth 100000 in
theorem treeMore_lifted (os : Os) (started : os.Started) (H : Type) (enc : TypeId × Value → H) :
    ReturnsInHanded {} Tryz.checked os 6 .any ((OpenSpec.ofChange Rows.treeMoreSpec).preRow enc Tryz.prog Tryz.f6 [] false Rows.treeMoreRow.laid)
      (((OpenSpec.ofChange Rows.treeMoreSpec).at (fun _ _ _ => 0)).post enc Tryz.prog Tryz.f6 false true false false) := by
  refine returnsInHanded_of_row (C := Tryz.checked) own started (by kernel_rfl) Tryz.func6
    (ChangeSpec.witness_shaped (enc := enc) (C := Tryz.checked) (os := os) (s := Rows.treeMoreSpec) (X := fun w _ => laidMetH Tryz.prog laidL w) false (World.doorLaid Tryz.prog 60 os)
      #[.agg #[.int .i64 0, .string ⟨#[]⟩, .int .i64 0, .int .i64 0, .slice none 0 0], .string ⟨#[]⟩] 8 rfl (door_shaped os _) (by kernel_rfl) (by kernel_rfl) (by kernel_rfl) (door_met os _)) ?_
  intro W base args ds gs before hval0 hW _ _ hsz0 hL hsh _
  have hval : ∀ (j : Nat) t v, Tryz.f6.params[j]? = some t → args[j]? = some v → Value.okWide Tryz.prog W .any base t v := hval0
  have hsz : (DataW.weightsEach Tryz.prog (Tryz.f6.params.toList ++ []) (ds ++ gs)).all (· ≤ reachBytes) = true := hsz0
  have hW' := hW
  obtain ⟨p, q, hA0, hV, rfl, hfz, hnd⟩ := hW
  have hA : DataW.TrodAll enc Tryz.prog W 0 (fun _ => true) true Tryz.f6.params.toList args.toList ds p := hA0
  rw [Tryz.params6] at hA hval hsz
  obtain ⟨v0, v1, d0, d1, p0, p1, rfl, rfl, rfl, h0, h1⟩ := trodAll_two hA
  obtain ⟨rfl, rfl⟩ := trodVars_none hV
  simp only [List.append_nil] at hsz
  have hw0 : ∀ x ∈ d0.weights Tryz.prog 24, x ≤ reachBytes := fun x hx => by
    have := List.all_eq_true.1 hsz x (DataW.weights_mem_each (j := 0) (t := 24) (d := d0) rfl rfl x hx)
    simpa using this
  obtain ⟨u, rfl, hd1, rfl, hu⟩ := ChangeMaps.open_string Tryz.underlying9 (hval 1 9 v1 rfl rfl) h1
  have hus : u.size ≤ 140737488351232 := by
    have := List.all_eq_true.1 hsz u.data.toList.length (DataW.weights_mem_each (j := 1) (t := 9) (d := d1) rfl rfl _ (by rw [hd1]; simp [DataW.weights]))
    have h2 := of_decide_eq_true this
    simpa [reachBytes] using h2
  obtain ⟨t0, l0⟩ := node_arg (hval 0 24 v0 rfl rfl) h0 hw0
  obtain ⟨hgl, hge⟩ := ground_of hL hsh
  have hlt : ∀ x ∈ p0, x.block < W.heap.size := fun x hx => hW'.lt x (List.mem_append.2 (.inl (List.mem_append.2 (.inl hx))))
  refine (TreeMore_any t0 v0 u W (fun W' hb => examples_any W' (hgl.up hb) (hge.below hb (by have := hgl.2.2; omega))) l0 hus).mono fun e W' ⟨he, hb⟩ => ?_
  subst he
  refine ⟨_, rfl, [d0, d1], [], _, [], p0 ++ [], [], hW', ?_, ?_, ?_, ?_, fun h => by cases h⟩
  · exact trodAll_mk1 (shut_bool Tryz.underlying4 true)
  · rw [Tryz.params6]
    exact trodAll_mk2 (Below.trod laidOut nodeReads (of_decide_eq_true (by kernel_rfl)) h0 hb fun x hx => hlt x hx)
      (Below.trod laidOut (by kernel_rfl) (of_decide_eq_true (by kernel_rfl)) h1 hb fun x hx => by cases hx)
  · exact rfl
  · exact Below.frame hb _

theorem treeMore_holds : Rows.TreeMoreSaid :=
  OpenClaim.holds_of_wide 6 Tryz.f6 rfl rfl rfl rfl rfl rfl rfl ⟨rfl, rfl, rfl, rfl, rfl⟩ rfl rfl rfl rfl rfl (by kernel_rfl) Tryz.func6 (by kernel_rfl)
    (of_decide_eq_true (by kernel_rfl)) (by unfold Func.isWrapper; rw [if_neg (of_decide_eq_false (by kernel_rfl))]; exact ⟨rfl, rfl⟩)
    (fun os started H enc _ => treeMore_lifted os started H enc)
#print axioms treeMore_holds
end Go.Proofs.YtjpmghgmmeemkaaGreatDoor
