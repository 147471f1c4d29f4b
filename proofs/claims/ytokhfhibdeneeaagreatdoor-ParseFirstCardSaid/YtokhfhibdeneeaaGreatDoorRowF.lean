/- ParseFirst: for every two texts the law answers true, and both read behind the call as they did. -/
import Derived.ChangeMaps5
import Derived.RowKit
import Derived.Test.YtokhfhibdeneeaaGreatDoorGr5
import Derived.Test.YtokhfhibdeneeaaGreatDoorFlP
namespace Go.Proofs.YtokhfhibdeneeaaGreatDoor
open Go.RowKit Go.ChangeShapes Go.WideShapes Go.ChangeAt

set_option maxRecDepth 100000 in
theorem parseFirst_lifted (os : Os) (started : os.Started) (H : Type) (enc : TypeId × Value → H) :
    ReturnsInHanded {} Tryz.checked os 4 .any ((OpenSpec.ofChange Rows.parseFirstSpec).preRow enc Tryz.prog Tryz.f4 [] false Rows.parseFirstRow.laid)
      (((OpenSpec.ofChange Rows.parseFirstSpec).at (fun _ _ _ => 0)).post enc Tryz.prog Tryz.f4 false true false false) := by
  refine returnsInHanded_of_row (C := Tryz.checked) own started (by kernel_rfl) Tryz.func4
    (ChangeSpec.witness_shaped (enc := enc) (C := Tryz.checked) (os := os) (s := Rows.parseFirstSpec) (X := fun w _ => laidMetH Tryz.prog laidL w) false (World.doorLaid Tryz.prog 91 os)
      #[.string ⟨#[]⟩, .string ⟨#[]⟩] 8 rfl (door_shaped os _) (by kernel_rfl) (by kernel_rfl) (by kernel_rfl) (door_met os _)) ?_
  intro W base args ds gs before hval0 hW _ _ hsz0 hL hsh _
  have hval : ∀ (j : Nat) t v, Tryz.f4.params[j]? = some t → args[j]? = some v → Value.okWide Tryz.prog W .any base t v := hval0
  have hsz : (DataW.weightsEach Tryz.prog (Tryz.f4.params.toList ++ []) (ds ++ gs)).all (· ≤ reachBytes) = true := hsz0
  have hW' := hW
  obtain ⟨p, q, hA0, hV, rfl, hfz, hnd⟩ := hW
  have hA : DataW.TrodAll enc Tryz.prog W 0 (fun _ => true) true Tryz.f4.params.toList args.toList ds p := hA0
  rw [Tryz.params4] at hA hval hsz
  obtain ⟨v0, v1, d0, d1, p0, p1, rfl, rfl, rfl, h0, h1⟩ := trodAll_two hA
  obtain ⟨rfl, rfl⟩ := trodVars_none hV
  simp only [List.append_nil] at hsz
  obtain ⟨u0, rfl, hd0, rfl, hu0⟩ := ChangeMaps.open_string Tryz.underlying9 (hval 0 9 v0 rfl rfl) h0
  obtain ⟨u1, rfl, hd1, rfl, hu1⟩ := ChangeMaps.open_string Tryz.underlying9 (hval 1 9 v1 rfl rfl) h1
  have hus0 : u0.data.toList.length ≤ 140737488351232 := by
    have := List.all_eq_true.1 hsz u0.data.toList.length (DataW.weights_mem_each (j := 0) (t := 9) (d := d0) rfl rfl _ (by rw [hd0]; simp [DataW.weights]))
    have h2 := of_decide_eq_true this
    simpa [reachBytes] using h2
  have hus1 : u1.data.toList.length ≤ 140737488351232 := by
    have := List.all_eq_true.1 hsz u1.data.toList.length (DataW.weights_mem_each (j := 1) (t := 9) (d := d1) rfl rfl _ (by rw [hd1]; simp [DataW.weights]))
    have h2 := of_decide_eq_true this
    simpa [reachBytes] using h2
  have hgl := ground_of hL hsh
  refine (ParseFirst_any u0.data.toList u1.data.toList W hgl hus0 hus1).mono fun e W' ⟨he, hb⟩ => ?_
  subst he
  refine ⟨_, rfl, [d0, d1], [], _, [], [], [], hW', ?_, ?_, ?_, ?_, fun h => by cases h⟩
  · exact trodAll_mk1 (shut_bool Tryz.underlying4 true)
  · rw [Tryz.params4]
    exact trodAll_mk2 (Below.trod laidOut (by kernel_rfl) (of_decide_eq_true (by kernel_rfl)) h0 hb fun x hx => by cases hx)
      (Below.trod laidOut (by kernel_rfl) (of_decide_eq_true (by kernel_rfl)) h1 hb fun x hx => by cases hx)
  · exact rfl
  · exact Below.frame hb _

theorem parseFirst_holds : Rows.ParseFirstSaid :=
  OpenClaim.holds_of_wide 4 Tryz.f4 rfl rfl rfl rfl rfl rfl rfl ⟨rfl, rfl, rfl, rfl, rfl⟩ rfl rfl rfl rfl rfl (by kernel_rfl) Tryz.func4 (by kernel_rfl)
    (of_decide_eq_true (by kernel_rfl)) (by unfold Func.isWrapper; rw [if_neg (of_decide_eq_false (by kernel_rfl))]; exact ⟨rfl, rfl⟩)
    (fun os started H enc _ => parseFirst_lifted os started H enc)
#print axioms parseFirst_holds
end Go.Proofs.YtokhfhibdeneeaaGreatDoor
