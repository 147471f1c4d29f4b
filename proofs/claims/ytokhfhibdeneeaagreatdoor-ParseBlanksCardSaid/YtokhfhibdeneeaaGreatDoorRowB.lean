/- ParseBlanks: for every text, number and choice of blank the law answers true, and all read behind the call as they did. -/
import Derived.ChangeMaps5
import Derived.RowKit
import Derived.Test.YtokhfhibdeneeaaGreatDoorGr5
import Derived.Test.YtokhfhibdeneeaaGreatDoorMBlP
namespace Go.Proofs.YtokhfhibdeneeaaGreatDoor
open Go.RowKit Go.ChangeShapes Go.WideShapes Go.ChangeAt

set_option maxRecDepth 100000 in
theorem parseBlanks_lifted (os : Os) (started : os.Started) (H : Type) (enc : TypeId × Value → H) :
    ReturnsInHanded {} Tryz.checked os 5 .any ((OpenSpec.ofChange Rows.parseBlanksSpec).preRow enc Tryz.prog Tryz.f5 [] false Rows.parseBlanksRow.laid)
      (((OpenSpec.ofChange Rows.parseBlanksSpec).at (fun _ _ _ => 0)).post enc Tryz.prog Tryz.f5 false true false false) := by
  refine returnsInHanded_of_row (C := Tryz.checked) own started (by kernel_rfl) Tryz.func5
    (ChangeSpec.witness_shaped (enc := enc) (C := Tryz.checked) (os := os) (s := Rows.parseBlanksSpec) (X := fun w _ => laidMetH Tryz.prog laidL w) false (World.doorLaid Tryz.prog 91 os)
      #[.string ⟨#[]⟩, .int .i64 0, .bool false] 8 rfl (door_shaped os _) (by kernel_rfl) (by kernel_rfl) (by kernel_rfl) (door_met os _)) ?_
  intro W base args ds gs before hval0 hW _ _ hsz0 hL hsh _
  have hval : ∀ (j : Nat) t v, Tryz.f5.params[j]? = some t → args[j]? = some v → Value.okWide Tryz.prog W .any base t v := hval0
  have hsz : (DataW.weightsEach Tryz.prog (Tryz.f5.params.toList ++ []) (ds ++ gs)).all (· ≤ reachBytes) = true := hsz0
  have hW' := hW
  obtain ⟨p, q, hA0, hV, rfl, hfz, hnd⟩ := hW
  have hA : DataW.TrodAll enc Tryz.prog W 0 (fun _ => true) true Tryz.f5.params.toList args.toList ds p := hA0
  rw [Tryz.params5] at hA hval hsz
  obtain ⟨v0, v1, v2, d0, d1, d2, p0, p1, p2, rfl, rfl, rfl, h0, h1, h2⟩ := trodAll_three hA
  obtain ⟨rfl, rfl⟩ := trodVars_none hV
  simp only [List.append_nil] at hsz
  obtain ⟨u0, rfl, hd0, rfl, hu0⟩ := ChangeMaps.open_string Tryz.underlying9 (hval 0 9 v0 rfl rfl) h0
  obtain ⟨c, rfl, hd1, rfl, hc⟩ := open_int Tryz.underlying3 (hval 1 3 v1 rfl rfl) h1
  have hok : okI c := by simp only [Lit.wf, IntKind.min, IntKind.max, IntKind.signed, IntKind.bits, Bool.and_eq_true, decide_eq_true_eq, if_true] at hc; exact ⟨by omega, by omega⟩
  obtain ⟨tb, rfl, hd2, rfl⟩ := open_bool Tryz.underlying4 (hval 2 4 v2 rfl rfl) h2
  have hus0 : u0.data.toList.length ≤ 140737488351232 := by
    have := List.all_eq_true.1 hsz u0.data.toList.length (DataW.weights_mem_each (j := 0) (t := 9) (d := d0) rfl rfl _ (by rw [hd0]; simp [DataW.weights]))
    have h2 := of_decide_eq_true this
    simpa [reachBytes] using h2
  have hgl := ground_of hL hsh
  refine (ParseBlanks_any u0.data.toList c tb W hgl hus0 hok).mono fun e W' ⟨he, hb⟩ => ?_
  subst he
  refine ⟨_, rfl, [d0, d1, d2], [], _, [], [], [], hW', ?_, ?_, ?_, ?_, fun h => by cases h⟩
  · exact trodAll_mk1 (shut_bool Tryz.underlying4 true)
  · rw [Tryz.params5]
    exact trodAll_mk3 (Below.trod laidOut (by kernel_rfl) (of_decide_eq_true (by kernel_rfl)) h0 hb fun x hx => by cases hx)
      (Below.trod laidOut (by kernel_rfl) (of_decide_eq_true (by kernel_rfl)) h1 hb fun x hx => by cases hx)
      (Below.trod laidOut (by kernel_rfl) (of_decide_eq_true (by kernel_rfl)) h2 hb fun x hx => by cases hx)
  · exact rfl
  · exact Below.frame hb _

theorem parseBlanks_holds : Rows.ParseBlanksSaid :=
  OpenClaim.holds_of_wide 5 Tryz.f5 rfl rfl rfl rfl rfl rfl rfl ⟨rfl, rfl, rfl, rfl, rfl⟩ rfl rfl rfl rfl rfl (by kernel_rfl) Tryz.func5 (by kernel_rfl)
    (of_decide_eq_true (by kernel_rfl)) (by unfold Func.isWrapper; rw [if_neg (of_decide_eq_false (by kernel_rfl))]; exact ⟨rfl, rfl⟩)
    (fun os started H enc _ => parseBlanks_lifted os started H enc)
#print axioms parseBlanks_holds
end Go.Proofs.YtokhfhibdeneeaaGreatDoor
