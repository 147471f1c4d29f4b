/- CodeSpoilt: for any raw numbers the law answers true, and the row reads behind the call as it did. -/
import Derived.Test.YtagnicbknbmccaaGreatDoorMGr6
import Derived.Test.YtagnicbknbmccaaGreatDoorOpC
import Derived.Test.YtagnicbknbmccaaGreatDoorMMkI
import Derived.Test.YtagnicbknbmccaaGreatDoorGeO
set_option maxRecDepth 100000
namespace Go.Proofs.YtagnicbknbmccaaGreatDoor
open Go.RowKit Go.ChangeShapes Go.WideShapes Go.ChangeAt
theorem ints_arg {H:Type} {enc:TypeId×Value→H} {W:World} {b0:Nat} {v:Value} {d:DataW H} {p:List MemPlace} (hv:Value.okWide Tryz.prog W .any b0 22 v) (h:DataW.Trod enc Tryz.prog W 0 (fun _=>true) true 22 v d p) (hw:∀x∈d.weights Tryz.prog 22,x≤reachBytes):
  ∃A n c,∃l:List Int,v= .slice A n c∧l.length=n∧RowIs W W.heap.size A (l.map (Value.int .i64))∧∀x∈l,okI x:=by
 obtain⟨A,n,c,rfl⟩:=okWide_slice Tryz.underlying22 hv
 obtain⟨fuel,hf⟩:=h
 obtain⟨A2,cap,l,e,-,hr,hq,-⟩:=ints_row (r:=(d,p)) (show DataW.trod enc Tryz.prog W 0 (fun _=>true) true fuel 22 [.slice A n c]=some (d,p) from hf) hw
 injection e with e1 e2 e3
 subst e1 e2 e3
 exact⟨_,_,_,l,rfl,rfl,hr,hq⟩
theorem intsReads:Tryz.prog.readableRec 22=true:=by kernel_rfl
theorem codeSpoilt_lifted (os:Os) (started:os.Started) (H:Type) (enc:TypeId×Value→H):
  ReturnsInHanded {} Tryz.checked os 3 .any ((OpenSpec.ofChange Rows.codeSpoiltSpec).preRow enc Tryz.prog Tryz.f3 [] false Rows.codeSpoiltRow.laid)
   (((OpenSpec.ofChange Rows.codeSpoiltSpec).at (fun _ _ _=>0)).post enc Tryz.prog Tryz.f3 false true false false):=by
 refine returnsInHanded_of_row (C:=Tryz.checked) own started (by kernel_rfl) Tryz.func3
  (ChangeSpec.witness_shaped (enc:=enc) (C:=Tryz.checked) (os:=os) (s:=Rows.codeSpoiltSpec) (X:=fun w _=>laidMetH Tryz.prog laidL w) false ((seatBase Tryz.prog 198 38 0 os).layVars Tryz.prog plainL)
   #[.slice none 0 0,.int .i64 0,.int .i64 0] 8 (World.layVars_os _ _ _) (seat_shaped os _) (by kernel_rfl) (by kernel_rfl) (by kernel_rfl) (seat_met os _)) ?_
 intro W base args ds gs before hval0 hW _ _ hsz0 hL hsh _
 have hval:∀(j:Nat) t v,Tryz.f3.params[j]? =some t→args[j]? =some v→Value.okWide Tryz.prog W .any base t v:=hval0
 have hsz:(DataW.weightsEach Tryz.prog (Tryz.f3.params.toList++ []) (ds++gs)).all (·≤reachBytes)=true:=hsz0
 have hW':=hW
 obtain⟨p,q,hA0,hV,rfl,hfz,hnd⟩:=hW
 have hA:DataW.TrodAll enc Tryz.prog W 0 (fun _=>true) true Tryz.f3.params.toList args.toList ds p:=hA0
 rw[Tryz.params3] at hA hval hsz
 obtain⟨v0,v1,v2,d0,d1,d2,p0,p1,p2,rfl,rfl,rfl,h0,h1,h2⟩:=trodAll_three hA
 obtain⟨rfl,rfl⟩:=trodVars_none hV
 simp only[List.append_nil] at hsz
 have hw:∀x∈d0.weights Tryz.prog 22,x≤reachBytes:=by
  intro x hx
  have:=List.all_eq_true.1 hsz x (DataW.weights_mem_each (j:=0) (t:=22) (d:=d0) rfl rfl x hx)
  simpa using this
 obtain⟨ra,rn,rc,raw,rfl,hrn,hrr,hrk⟩:=ints_arg (hval 0 22 v0 rfl rfl) h0 hw
 obtain⟨c1,rfl,hd1,rfl,hc1⟩:=open_int Tryz.underlying3 (hval 1 3 v1 rfl rfl) h1
 obtain⟨c2,rfl,hd2,rfl,hc2⟩:=open_int Tryz.underlying3 (hval 2 3 v2 rfl rfl) h2
 have hok1:okI c1:=by simp only[Lit.wf,IntKind.min,IntKind.max,IntKind.signed,IntKind.bits,Bool.and_eq_true,decide_eq_true_eq,if_true] at hc1;exact⟨by omega,by omega⟩
 have hok2:okI c2:=by simp only[Lit.wf,IntKind.min,IntKind.max,IntKind.signed,IntKind.bits,Bool.and_eq_true,decide_eq_true_eq,if_true] at hc2;exact⟨by omega,by omega⟩
 have hgl:=ground_of hL hsh
 have hlt:∀x∈p0,x.block<W.heap.size:=fun x hx=>hW'.lt x (by simp[hx])
 refine(CodeSpoilt_any hgl (ge_of hL) hrr hrk hrn hok1 hok2).mono fun e W' ⟨he,hb⟩=> ?_
 subst he
 refine⟨_,rfl,[d0,d1,d2],[],_,[],p0++([]++ []),[],hW', ?_, ?_, ?_, ?_,fun h=>by cases h⟩
 ·exact trodAll_mk1 (shut_bool Tryz.underlying4 true)
 ·rw[Tryz.params3]
  exact trodAll_mk3 (Below.trod laidOut intsReads (of_decide_eq_true (by kernel_rfl)) h0 hb hlt)
   (Below.trod laidOut (by kernel_rfl) (of_decide_eq_true (by kernel_rfl)) h1 hb fun x hx=>by cases hx)
   (Below.trod laidOut (by kernel_rfl) (of_decide_eq_true (by kernel_rfl)) h2 hb fun x hx=>by cases hx)
 ·exact rfl
 ·exact Below.frame hb _
theorem codeSpoilt_holds:Rows.CodeSpoiltSaid:=
 OpenClaim.holds_of_wide 3 Tryz.f3 rfl rfl rfl rfl rfl rfl rfl ⟨rfl,rfl,rfl,rfl,rfl⟩ rfl rfl rfl rfl rfl (by kernel_rfl) Tryz.func3 (by kernel_rfl)
  (of_decide_eq_true (by kernel_rfl)) (by unfold Func.isWrapper;rw[if_neg (of_decide_eq_false (by kernel_rfl))];exact⟨rfl,rfl⟩)
  (fun os started H enc _=>codeSpoilt_lifted os started H enc)
#print axioms codeSpoilt_holds
end Go.Proofs.YtagnicbknbmccaaGreatDoor
