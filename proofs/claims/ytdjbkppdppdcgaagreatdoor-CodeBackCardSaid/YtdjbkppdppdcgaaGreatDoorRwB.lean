/- CodeBack: for any raw numbers the law answers true, and both rows read behind the call as they did. -/
import Derived.Test.YtdjbkppdppdcgaaGreatDoorMGr6
import Derived.Test.YtdjbkppdppdcgaaGreatDoorOpC
import Derived.Test.YtdjbkppdppdcgaaGreatDoorMkI
import Derived.Test.YtdjbkppdppdcgaaGreatDoorGeO
set_option maxRecDepth 100000
namespace Go.Proofs.YtdjbkppdppdcgaaGreatDoor
open Go.RowKit Go.ChangeShapes Go.WideShapes Go.ChangeAt
theorem ints_arg {H:Type} {enc:TypeId×Value→H} {W:World} {b0:Nat} {v:Value} {d:DataW H} {p:List MemPlace} (hv:Value.okWide Tryz.prog W .any b0 30 v) (h:DataW.Trod enc Tryz.prog W 0 (fun _=>true) true 30 v d p) (hw:∀x∈d.weights Tryz.prog 30,x≤reachBytes):
  ∃A n c,∃l:List Int,v= .slice A n c∧l.length=n∧RowIs W W.heap.size A (l.map (Value.int .i64))∧∀x∈l,okI x:=by
 obtain⟨A,n,c,rfl⟩:=okWide_slice Tryz.underlying30 hv
 obtain⟨fuel,hf⟩:=h
 obtain⟨A2,cap,l,e,-,hr,hq,-⟩:=ints_row (r:=(d,p)) (show DataW.trod enc Tryz.prog W 0 (fun _=>true) true fuel 30 [.slice A n c]=some (d,p) from hf) hw
 injection e with e1 e2 e3
 subst e1 e2 e3
 exact⟨_,_,_,l,rfl,rfl,hr,hq⟩
theorem intsReads:Tryz.prog.readableRec 30=true:=by kernel_rfl
theorem codeBack_lifted (os:Os) (started:os.Started) (H:Type) (enc:TypeId×Value→H):
  ReturnsInHanded {} Tryz.checked os 4 .any ((OpenSpec.ofChange Rows.codeBackSpec).preRow enc Tryz.prog Tryz.f4 [] false Rows.codeBackRow.laid)
   (((OpenSpec.ofChange Rows.codeBackSpec).at (fun _ _ _=>0)).post enc Tryz.prog Tryz.f4 false true false false):=by
 refine returnsInHanded_of_row (C:=Tryz.checked) own started (by kernel_rfl) Tryz.func4
  (ChangeSpec.witness_shaped (enc:=enc) (C:=Tryz.checked) (os:=os) (s:=Rows.codeBackSpec) (X:=fun w _=>laidMetH Tryz.prog laidL w) false ((seatBase Tryz.prog 161 33 0 os).layVars Tryz.prog plainL)
   #[.slice none 0 0,.slice none 0 0] 8 (World.layVars_os _ _ _) (seat_shaped os _) (by kernel_rfl) (by kernel_rfl) (by kernel_rfl) (seat_met os _)) ?_
 intro W base args ds gs before hval0 hW _ _ hsz0 hL hsh _
 have hval:∀(j:Nat) t v,Tryz.f4.params[j]? =some t→args[j]? =some v→Value.okWide Tryz.prog W .any base t v:=hval0
 have hsz:(DataW.weightsEach Tryz.prog (Tryz.f4.params.toList++ []) (ds++gs)).all (·≤reachBytes)=true:=hsz0
 have hW':=hW
 obtain⟨p,q,hA0,hV,rfl,hfz,hnd⟩:=hW
 have hA:DataW.TrodAll enc Tryz.prog W 0 (fun _=>true) true Tryz.f4.params.toList args.toList ds p:=hA0
 rw[Tryz.params4] at hA hval hsz
 obtain⟨v0,v1,d0,d1,p0,p1,rfl,rfl,rfl,h0,h1⟩:=trodAll_two hA
 obtain⟨rfl,rfl⟩:=trodVars_none hV
 have hw:∀(j:Nat) (d:DataW H),([d0,d1]:List (DataW H))[j]? =some d→∀x∈d.weights Tryz.prog 30,x≤reachBytes:=by
  intro j d hd x hx
  have hj:(#[30,30]:Array TypeId).toList[j]? =some 30:=by
   rcases j with _|_|j
   ·rfl
   ·rfl
   ·simp at hd
  simp only[List.append_nil] at hsz
  have:=List.all_eq_true.1 hsz x (DataW.weights_mem_each hj hd x hx)
  simpa using this
 obtain⟨ra,rn,rc,raw,rfl,hrn,hrr,hrk⟩:=ints_arg (hval 0 30 v0 rfl rfl) h0 (hw 0 d0 rfl)
 obtain⟨oa,on,oc,other,rfl,hon,hoo,hok⟩:=ints_arg (hval 1 30 v1 rfl rfl) h1 (hw 1 d1 rfl)
 have hgl:=ground_of hL hsh
 have hlt:∀x∈p0++p1,x.block<W.heap.size:=fun x hx=>hW'.lt x (List.mem_append.2 (.inl hx))
 refine(CodeBack_any hgl (ge_of hL) hrr hoo hrk hok hrn hon).mono fun e W' ⟨he,hb⟩=> ?_
 subst he
 refine⟨_,rfl,[d0,d1],[],_,[],p0++p1,[],hW', ?_, ?_, ?_, ?_,fun h=>by cases h⟩
 ·exact trodAll_mk1 (shut_bool Tryz.underlying4 true)
 ·rw[Tryz.params4]
  exact trodAll_mk2 (Below.trod laidOut intsReads (of_decide_eq_true (by kernel_rfl)) h0 hb fun x hx=>hlt x (List.mem_append.2 (.inl hx)))
   (Below.trod laidOut intsReads (of_decide_eq_true (by kernel_rfl)) h1 hb fun x hx=>hlt x (List.mem_append.2 (.inr hx)))
 ·exact rfl
 ·exact Below.frame hb _
theorem codeBack_holds:Rows.CodeBackSaid:=
 OpenClaim.holds_of_wide 4 Tryz.f4 rfl rfl rfl rfl rfl rfl rfl ⟨rfl,rfl,rfl,rfl,rfl⟩ rfl rfl rfl rfl rfl (by kernel_rfl) Tryz.func4 (by kernel_rfl)
  (of_decide_eq_true (by kernel_rfl)) (by unfold Func.isWrapper;rw[if_neg (of_decide_eq_false (by kernel_rfl))];exact⟨rfl,rfl⟩)
  (fun os started H enc _=>codeBack_lifted os started H enc)
#print axioms codeBack_holds
end Go.Proofs.YtdjbkppdppdcgaaGreatDoor
