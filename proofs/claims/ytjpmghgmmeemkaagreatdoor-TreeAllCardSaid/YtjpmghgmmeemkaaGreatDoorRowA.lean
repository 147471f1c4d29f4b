/- TreeAll: for every tree and every two numbers the law answers true, and what was handed in reads behind the call as it did. -/
import Derived.Test.YtjpmghgmmeemkaaGreatDoorGround
import Derived.Test.YtjpmghgmmeemkaaGreatDoorEx2
import Derived.Test.YtjpmghgmmeemkaaGreatDoorT5
import Derived.RowKit
namespace Go.Proofs.YtjpmghgmmeemkaaGreatDoor
open Go.RowKit Go.ChangeShapes Go.WideShapes Go.ChangeAt

theorem TreeAll_any (t : Nd) (v : Value) (m at_ : Int) (w : World) (hex : ∀ W, Below w.heap.size w W → Calls Tryz.prog 7 #[] W fun e W' => e = .returned (.bool true) ∧ Below W.heap.size W W') (h : Lies w w.heap.size t v) (hm : okI m) (hat : okI at_) :
    Calls Tryz.prog 5 #[v, .int .i64 m, .int .i64 at_] w fun e w' => e = .returned (.bool true) ∧ Below w.heap.size w w' := by
  by_cases hb : 3000 < t.count 1000000
  · exact TreeAll_big t v m at_ w hex h hm hat hb
  · exact TreeAll_small t v m at_ w hex h hm hat (by omega)

set_option maxRecDepth 100000 in
theorem treeAll_lifted (os : Os) (started : os.Started) (H : Type) (enc : TypeId × Value → H) :
    ReturnsInHanded {} Tryz.checked os 5 .any ((OpenSpec.ofChange Rows.treeAllSpec).preRow enc Tryz.prog Tryz.f5 [] false Rows.treeAllRow.laid)
      (((OpenSpec.ofChange Rows.treeAllSpec).at (fun _ _ _ => 0)).post enc Tryz.prog Tryz.f5 false true false false) := by
  refine returnsInHanded_of_row (C := Tryz.checked) own started (by kernel_rfl) Tryz.func5
    (ChangeSpec.witness_shaped (enc := enc) (C := Tryz.checked) (os := os) (s := Rows.treeAllSpec) (X := fun w _ => laidMetH Tryz.prog laidL w) false (World.doorLaid Tryz.prog 60 os)
      #[.agg #[.int .i64 0, .string ⟨#[]⟩, .int .i64 0, .int .i64 0, .slice none 0 0], .int .i64 0, .int .i64 0] 8 rfl (door_shaped os _) (by kernel_rfl) (by kernel_rfl) (by kernel_rfl) (door_met os _)) ?_
  intro W base args ds gs before hval0 hW _ _ hsz0 hL hsh _
  have hval : ∀ (j : Nat) t v, Tryz.f5.params[j]? = some t → args[j]? = some v → Value.okWide Tryz.prog W .any base t v := hval0
  have hsz : (DataW.weightsEach Tryz.prog (Tryz.f5.params.toList ++ []) (ds ++ gs)).all (· ≤ reachBytes) = true := hsz0
  have hW' := hW
  obtain ⟨p, q, hA0, hV, rfl, hfz, hnd⟩ := hW
  have hA : DataW.TrodAll enc Tryz.prog W 0 (fun _ => true) true Tryz.f5.params.toList args.toList ds p := hA0
  rw [Tryz.params5] at hA hval hsz
  obtain ⟨v0, v1, v2, d0, d1, d2, p0, p1, p2, rfl, rfl, rfl, h0, h1, h2⟩ := trodAll_three hA
  obtain ⟨rfl, rfl⟩ := trodVars_none hV
  simp only [List.append_nil] at hsz
  have hw0 : ∀ x ∈ d0.weights Tryz.prog 24, x ≤ reachBytes := fun x hx => by
    have := List.all_eq_true.1 hsz x (DataW.weights_mem_each (j := 0) (t := 24) (d := d0) rfl rfl x hx)
    simpa using this
  obtain ⟨m, rfl, hd1, rfl, hm⟩ := open_int Tryz.underlying3 (hval 1 3 v1 rfl rfl) h1
  obtain ⟨at_, rfl, hd2, rfl, hat⟩ := open_int Tryz.underlying3 (hval 2 3 v2 rfl rfl) h2
  obtain ⟨t0, l0⟩ := node_arg (hval 0 24 v0 rfl rfl) h0 hw0
  obtain ⟨hgl, hge⟩ := ground_of hL hsh
  have hlt : ∀ x ∈ p0, x.block < W.heap.size := fun x hx => hW'.lt x (by simp [hx])
  refine (TreeAll_any t0 v0 m at_ W (fun W' hb => examples_any W' (hgl.up hb) (hge.below hb (by have := hgl.2.2; omega))) l0 (okI_of hm) (okI_of hat)).mono fun e W' ⟨he, hb⟩ => ?_
  subst he
  refine ⟨_, rfl, [d0, d1, d2], [], _, [], p0 ++ ([] ++ []), [], hW', ?_, ?_, ?_, ?_, fun h => by cases h⟩
  · exact trodAll_mk1 (shut_bool Tryz.underlying4 true)
  · rw [Tryz.params5]
    exact trodAll_mk3 (Below.trod laidOut nodeReads (of_decide_eq_true (by kernel_rfl)) h0 hb fun x hx => hlt x hx)
      (Below.trod laidOut (by kernel_rfl) (of_decide_eq_true (by kernel_rfl)) h1 hb fun x hx => by cases hx)
      (Below.trod laidOut (by kernel_rfl) (of_decide_eq_true (by kernel_rfl)) h2 hb fun x hx => by cases hx)
  · exact rfl
  · exact Below.frame hb _

theorem treeAll_holds : Rows.TreeAllSaid :=
  OpenClaim.holds_of_wide 5 Tryz.f5 rfl rfl rfl rfl rfl rfl rfl ⟨rfl, rfl, rfl, rfl, rfl⟩ rfl rfl rfl rfl rfl (by kernel_rfl) Tryz.func5 (by kernel_rfl)
    (of_decide_eq_true (by kernel_rfl)) (by unfold Func.isWrapper; rw [if_neg (of_decide_eq_false (by kernel_rfl))]; exact ⟨rfl, rfl⟩)
    (fun os started H enc _ => treeAll_lifted os started H enc)
#print axioms treeAll_holds
end Go.Proofs.YtjpmghgmmeemkaaGreatDoor
