/- CodeSames: for every two programs the law answers true, and both read behind the call as they did. -/
import Derived.Test.YtdjbkppdppdcgaaGreatDoorMGr6
import Derived.Test.YtdjbkppdppdcgaaGreatDoorOpC
import Derived.Test.YtdjbkppdppdcgaaGreatDoorCyR
namespace Go.Proofs.YtdjbkppdppdcgaaGreatDoor
open Go.RowKit Go.ChangeShapes Go.WideShapes Go.ChangeAt

theorem progReads : Tryz.prog.readableRec 25 = true := by kernel_rfl
set_option maxRecDepth 100000 in
theorem codeSames_lifted (os : Os) (started : os.Started) (H : Type) (enc : TypeId × Value → H) :
    ReturnsInHanded {} Tryz.checked os 3 .any ((OpenSpec.ofChange Rows.codeSamesSpec).preRow enc Tryz.prog Tryz.f3 [] false Rows.codeSamesRow.laid)
      (((OpenSpec.ofChange Rows.codeSamesSpec).at (fun _ _ _ => 0)).post enc Tryz.prog Tryz.f3 false true false false) := by
  refine returnsInHanded_of_row (C := Tryz.checked) own started (by kernel_rfl) Tryz.func3
    (ChangeSpec.witness_shaped (enc := enc) (C := Tryz.checked) (os := os) (s := Rows.codeSamesSpec) (X := fun w _ => laidMetH Tryz.prog laidL w) false ((seatBase Tryz.prog 161 33 0 os).layVars Tryz.prog plainL)
      #[.agg #[.slice none 0 0, .slice none 0 0], .agg #[.slice none 0 0, .slice none 0 0]] 8 (World.layVars_os _ _ _) (seat_shaped os _) (by kernel_rfl) (by kernel_rfl) (by kernel_rfl) (seat_met os _)) ?_
  intro W base args ds gs before hval0 hW _ _ hsz0 hL hsh _
  have hval : ∀ (j : Nat) t v, Tryz.f3.params[j]? = some t → args[j]? = some v → Value.okWide Tryz.prog W .any base t v := hval0
  have hsz : (DataW.weightsEach Tryz.prog (Tryz.f3.params.toList ++ []) (ds ++ gs)).all (· ≤ reachBytes) = true := hsz0
  have hW' := hW
  obtain ⟨p, q, hA0, hV, rfl, hfz, hnd⟩ := hW
  have hA : DataW.TrodAll enc Tryz.prog W 0 (fun _ => true) true Tryz.f3.params.toList args.toList ds p := hA0
  rw [Tryz.params3] at hA hval hsz
  obtain ⟨v0, v1, d0, d1, p0, p1, rfl, rfl, rfl, h0, h1⟩ := trodAll_two hA
  obtain ⟨rfl, rfl⟩ := trodVars_none hV
  have hw : ∀ (j : Nat) (d : DataW H), ([d0, d1] : List (DataW H))[j]? = some d → ∀ x ∈ d.weights Tryz.prog 25, x ≤ reachBytes := by
    intro j d hd x hx
    have hj : (#[25, 25] : Array TypeId).toList[j]? = some 25 := by
      rcases j with _ | _ | j
      · rfl
      · rfl
      · simp at hd
    simp only [List.append_nil] at hsz
    have := List.all_eq_true.1 hsz x (DataW.weights_mem_each hj hd x hx)
    simpa using this
  obtain ⟨t0, l0, k0⟩ := prog_arg (hval 0 25 v0 rfl rfl) h0 (hw 0 d0 rfl)
  obtain ⟨t1, l1, k1⟩ := prog_arg (hval 1 25 v1 rfl rfl) h1 (hw 1 d1 rfl)
  have hgl := ground_of hL hsh
  have hlt : ∀ x ∈ p0 ++ p1, x.block < W.heap.size := fun x hx => hW'.lt x (List.mem_append.2 (.inl hx))
  refine (CodeSames_any hgl l0 l1 k0 k1).mono fun e W' ⟨he, hb⟩ => ?_
  subst he
  refine ⟨_, rfl, [d0, d1], [], _, [], p0 ++ p1, [], hW', ?_, ?_, ?_, ?_, fun h => by cases h⟩
  · exact trodAll_mk1 (shut_bool Tryz.underlying4 true)
  · rw [Tryz.params3]
    exact trodAll_mk2 (Below.trod laidOut progReads (of_decide_eq_true (by kernel_rfl)) h0 hb fun x hx => hlt x (List.mem_append.2 (.inl hx)))
      (Below.trod laidOut progReads (of_decide_eq_true (by kernel_rfl)) h1 hb fun x hx => hlt x (List.mem_append.2 (.inr hx)))
  · exact rfl
  · exact Below.frame hb _

theorem codeSames_holds : Rows.CodeSamesSaid :=
  OpenClaim.holds_of_wide 3 Tryz.f3 rfl rfl rfl rfl rfl rfl rfl ⟨rfl, rfl, rfl, rfl, rfl⟩ rfl rfl rfl rfl rfl (by kernel_rfl) Tryz.func3 (by kernel_rfl)
    (of_decide_eq_true (by kernel_rfl)) (by unfold Func.isWrapper; rw [if_neg (of_decide_eq_false (by kernel_rfl))]; exact ⟨rfl, rfl⟩)
    (fun os started H enc _ => codeSames_lifted os started H enc)
#print axioms codeSames_holds
end Go.Proofs.YtdjbkppdppdcgaaGreatDoor
