/- CodeAny: for every two texts whose bulk is at most 1048576 the law answers true, and both read behind the call as they did. -/
import Derived.ChangeMaps5
import Derived.Test.YtdjbkppdppdcgaaGreatDoorMGr6
import Derived.Test.YtdjbkppdppdcgaaGreatDoorMAnA
namespace Go.Proofs.YtdjbkppdppdcgaaGreatDoor
open Go.RowKit Go.ChangeShapes Go.WideShapes Go.ChangeAt

theorem gErr : Tryz.prog.globalNamed "errors.errorType" = some 0 := by kernel_rfl
theorem err_only : ((List.range Tryz.prog.types.size).all fun ty => !(Tryz.prog.rowNamed ty [101, 114, 114, 111, 114]) || ty == 33) = true := by kernel_rfl
theorem err_name : (Rows.laid_errors_errorType : DataW Unit).handleName? = some [101, 114, 114, 111, 114] := by kernel_rfl
theorem err_funcs : (Rows.laid_errors_errorType : DataW Unit).funcsIn? = none := by kernel_rfl
theorem rtype_cut : (Tryz.prog.cutTypes.find? (·.1 == "internal/reflectlite.rtype")).map (·.2) = some 161 := by kernel_rfl
theorem err_handle : typeHandle Tryz.prog 33 = .pointer (some ⟨13, 33, none⟩) := by kernel_rfl
theorem ge_of {W : World} (h : laidMetH Tryz.prog laidL W) : Ge W := by
  have hh := (laidMetH_iff.1 h).2
  have hm : ("errors.errorType", Rows.laid_errors_errorType) ∈ laidL.filter fun x => x.2.handleName?.isSome := List.mem_filter.2 ⟨by unfold laidL Rows.codeSamesRow; simp, by kernel_rfl⟩
  have h1 := hh _ hm
  dsimp only at h1
  rw [err_funcs] at h1
  obtain ⟨name, u, ty, e1, e2, e3, e4, e5⟩ := h1
  obtain rfl := Option.some.inj (err_name.symm.trans e1)
  obtain rfl := Option.some.inj (rtype_cut.symm.trans e2)
  have h2 := List.all_eq_true.1 err_only ty (List.mem_range.2 e3)
  rw [e4] at h2
  obtain rfl : ty = 33 := by simpa using h2
  rw [err_handle] at e5
  obtain ⟨t, fr, hr⟩ := var_heap gErr e5
  exact cell_of_row W _ 0 _ _ _ hr
abbrev seatWA (P : Program) (os : Os) : World := (seatBase P 161 33 0 os).layVars P plainL
set_option maxRecDepth 100000 in
theorem any_reads (os : Os) {H : Type} (enc : TypeId × Value → H) : (DataW.whole enc Tryz.prog ((seatWA Tryz.prog os).forCall (fun _ _ => 0) ⟨#[], #[.string ⟨#[]⟩, .string ⟨#[]⟩], []⟩).memory Tryz.f5.params.toList Rows.codeAnySpec.vars false #[Value.string ⟨#[]⟩, Value.string ⟨#[]⟩].toList 8).map (fun x => Rows.uptoSmall H (x.1 ++ x.2.1)) = some true := by kernel_rfl
set_option maxRecDepth 100000 in
theorem codeAny_lifted (os : Os) (started : os.Started) (H : Type) (enc : TypeId × Value → H) (F : Stop.Interp) :
    ReturnsInHanded {} Tryz.checked os 5 .any ((Rows.OpenSpec.upto Rows.codeAnySpec).preRow enc Tryz.prog Tryz.f5 [] false Rows.codeAnyUptoRow.laid)
      (((Rows.OpenSpec.upto Rows.codeAnySpec).at F).post enc Tryz.prog Tryz.f5 false true false false) := by
  obtain ⟨x, hx, hk⟩ := Option.map_eq_some_iff.1 (any_reads os enc)
  have hok : Input.okWideB Tryz.checked.prog ((seatWA Tryz.prog os).forCall (fun _ _ => 0) ⟨#[], #[.string ⟨#[]⟩, .string ⟨#[]⟩], []⟩) 5 ⟨#[], #[.string ⟨#[]⟩, .string ⟨#[]⟩], []⟩ = true := by kernel_rfl
  refine returnsInHanded_of_row (C := Tryz.checked) (s := Rows.OpenSpec.upto Rows.codeAnySpec) own started (by kernel_rfl) Tryz.func5
    ⟨seatWA Tryz.prog os, fun _ _ => 0, ⟨#[], #[.string ⟨#[]⟩, .string ⟨#[]⟩], []⟩, World.layVars_os _ _ _, seat_shaped os _, (Input.okWide_of_okWideB (base := 0) hok).1, (Input.okWide_of_okWideB hok).2,
      OpenSpec.preRow_of_cond 8 hx (by kernel_rfl) (fun k hk2 => by cases hk2; exact hk) (by kernel_rfl) (seat_met os _), by simp only [Assume.holds]; exact ⟨by simp, by simp, by simp, by simp, by simp⟩⟩ ?_
  intro W base args ds gs before hval0 hW _ hcond _ hL hsh _
  have hval : ∀ (j : Nat) t v, Tryz.f5.params[j]? = some t → args[j]? = some v → Value.okWide Tryz.prog W .any base t v := hval0
  have hW' := hW
  obtain ⟨p, q, hA0, hV, rfl, hfz, hnd⟩ := hW
  have hA : DataW.TrodAll enc Tryz.prog W 0 (fun _ => true) true Tryz.f5.params.toList args.toList ds p := hA0
  rw [Tryz.params5] at hA hval
  obtain ⟨v0, v1, d0, d1, p0, p1, rfl, rfl, rfl, h0, h1⟩ := trodAll_two hA
  obtain ⟨rfl, rfl⟩ := trodVars_none hV
  have hb0 : Rows.uptoBulkAll ([d0, d1] ++ []) ≤ 1048576 := of_decide_eq_true (hcond _ rfl)
  obtain ⟨u0, rfl, hd0, rfl, hu0⟩ := ChangeMaps.open_string Tryz.underlying9 (hval 0 9 v0 rfl rfl) h0
  obtain ⟨u1, rfl, hd1, rfl, hu1⟩ := ChangeMaps.open_string Tryz.underlying9 (hval 1 9 v1 rfl rfl) h1
  simp only [List.append_nil, Rows.uptoBulkAll, hd0, hd1, Rows.uptoBulk] at hb0
  have hus0 : u0.data.toList.length ≤ 2000000 := by omega
  have hus1 : u1.data.toList.length ≤ 2000000 := by omega
  have hgl := ground_of hL hsh
  refine (CodeAny_any hus0 hus1 hgl (ge_of hL)).mono fun e W' ⟨he, hb⟩ => ?_
  subst he
  refine ⟨_, rfl, [d0, d1], [], _, [], [], [], hW', ?_, ?_, ?_, ?_, fun h => by cases h⟩
  · exact trodAll_mk1 (shut_bool Tryz.underlying4 true)
  · rw [Tryz.params5]
    exact trodAll_mk2 (Below.trod laidOut (by kernel_rfl) (of_decide_eq_true (by kernel_rfl)) h0 hb fun x hx => by cases hx)
      (Below.trod laidOut (by kernel_rfl) (of_decide_eq_true (by kernel_rfl)) h1 hb fun x hx => by cases hx)
  · exact rfl
  · exact Below.frame hb _

theorem codeAny_holds : Rows.CodeAnyUptoSaid :=
  OpenClaim.holds_of_cond 5 Tryz.f5 rfl rfl rfl rfl rfl rfl rfl ⟨rfl, rfl, rfl, rfl, rfl⟩ rfl rfl rfl rfl rfl (by kernel_rfl) Tryz.func5 (by kernel_rfl)
    (of_decide_eq_true (by kernel_rfl)) (by unfold Func.isWrapper; rw [if_neg (of_decide_eq_false (by kernel_rfl))]; exact ⟨rfl, rfl⟩)
    (fun os started H enc _ F => by rw [OpenClaim.pre_eq_preRow]; exact codeAny_lifted os started H enc F)
#print axioms codeAny_holds
end Go.Proofs.YtdjbkppdppdcgaaGreatDoor
