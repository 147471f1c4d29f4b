/- CodeRights: for every program whose bulk is at most 1048576 the law answers true, and the program reads behind the call as it did. -/
import Derived.Test.YtagnicbknbmccaaGreatDoorMGr6
import Derived.Test.YtagnicbknbmccaaGreatDoorOpB
import Derived.Test.YtagnicbknbmccaaGreatDoorMRtR
set_option maxRecDepth 100000
namespace Go.Proofs.YtagnicbknbmccaaGreatDoor
open Go.RowKit Go.ChangeShapes Go.WideShapes Go.ChangeAt
theorem progReads:Tryz.prog.readableRec 27=true:=by kernel_rfl
theorem sum_leR (N:Nat):∀l:List Cf,(∀f∈l,f.code.length≤N)→manySum l≤l.length*N
 | [],_=>by simp[manySum]
 |f::r,h=>by
  have h1:=sum_leR N r fun g hg=>h g (List.mem_cons_of_mem _ hg)
  have h2:=h f List.mem_cons_self
  rw[manySum,List.length_cons,Int.natCast_add,Int.add_mul]
  omega
theorem tame_of {p:Cp} (h:CpB 1048576 p):Tame p:=by
 obtain⟨h1,h2,h3,h4⟩:=h
 refine⟨⟨by omega,by omega,fun f hf=> ?_,fun s hs=>by have:=h4 s hs;omega⟩,fun f hf=>by have:=(h3 f hf).1;omega,fun f hf x hx=> ?_, ?_⟩
 ·obtain⟨a1,a2,a3,a4,a5,a6,a7,a8⟩:=h3 f hf
  exact⟨by omega,a2,a3,a4,by omega,by omega,a7,fun x hx=>by obtain⟨b1,b2,b3,b4,b5⟩:=a8 x hx;exact⟨b1,b2,b3,b4,by omega⟩⟩
 ·have:=((h3 f hf).2.2.2.2.2.2.2 x hx).2.2.2.2
  omega
 ·have h5:=sum_leR 1048576 p.funcs fun f hf=>(h3 f hf).2.2.2.2.2.1
  have h6:((p.funcs.length:Int))*((1048576:Nat):Int)≤((1048576:Nat):Int)*((1048576:Nat):Int):=Int.mul_le_mul_of_nonneg_right (by omega) (by omega)
  omega
abbrev seatW (P:Program) (os:Os):World:=(seatBase P 198 38 0 os).layVars P plainL
theorem rights_reads (os:Os) {H:Type} (enc:TypeId×Value→H):(DataW.whole enc Tryz.prog ((seatW Tryz.prog os).forCall (fun _ _=>0) ⟨#[],#[.agg #[.slice none 0 0,.slice none 0 0]],[]⟩).memory Tryz.f4.params.toList Rows.codeRightsSpec.vars false #[Value.agg #[.slice none 0 0,.slice none 0 0]].toList 8).map (fun x=>Rows.uptoSmall H (x.1++x.2.1))=some true:=by kernel_rfl
theorem codeRights_lifted (os:Os) (started:os.Started) (H:Type) (enc:TypeId×Value→H) (F:Stop.Interp):
  ReturnsInHanded {} Tryz.checked os 4 .any ((Rows.OpenSpec.upto Rows.codeRightsSpec).preRow enc Tryz.prog Tryz.f4 [] false Rows.codeRightsUptoRow.laid)
   (((Rows.OpenSpec.upto Rows.codeRightsSpec).at F).post enc Tryz.prog Tryz.f4 false true false false):=by
 obtain⟨x,hx,hk⟩:=Option.map_eq_some_iff.1 (rights_reads os enc)
 have hok:Input.okWideB Tryz.checked.prog ((seatW Tryz.prog os).forCall (fun _ _=>0) ⟨#[],#[.agg #[.slice none 0 0,.slice none 0 0]],[]⟩) 4 ⟨#[],#[.agg #[.slice none 0 0,.slice none 0 0]],[]⟩=true:=by kernel_rfl
 refine returnsInHanded_of_row (C:=Tryz.checked) (s:=Rows.OpenSpec.upto Rows.codeRightsSpec) own started (by kernel_rfl) Tryz.func4
  ⟨seatW Tryz.prog os,fun _ _=>0,⟨#[],#[.agg #[.slice none 0 0,.slice none 0 0]],[]⟩,World.layVars_os _ _ _,seat_shaped os _,(Input.okWide_of_okWideB (base:=0) hok).1,(Input.okWide_of_okWideB hok).2,
   OpenSpec.preRow_of_cond 8 hx (by kernel_rfl) (fun k hk2=>by cases hk2;exact hk) (by kernel_rfl) (seat_met os _),by simp only[Assume.holds];exact⟨by simp,by simp,by simp,by simp,by simp⟩⟩ ?_
 intro W base args ds gs before hval0 hW _ hcond _ hL hsh _
 have hval:∀(j:Nat) t v,Tryz.f4.params[j]? =some t→args[j]? =some v→Value.okWide Tryz.prog W .any base t v:=hval0
 have hW':=hW
 obtain⟨p,q,hA0,hV,rfl,hfz,hnd⟩:=hW
 have hA:DataW.TrodAll enc Tryz.prog W 0 (fun _=>true) true Tryz.f4.params.toList args.toList ds p:=hA0
 rw[Tryz.params4] at hA hval
 obtain⟨v0,vs0,d0,ds0,p0,q0,hargs,rfl,rfl,h0,r0⟩:=trodAll_cons hA
 obtain⟨rfl,rfl,rfl⟩:=trodAll_nil r0
 obtain rfl:args= #[v0]:=by cases args;simp_all
 obtain⟨rfl,rfl⟩:=trodVars_none hV
 have hb0:Rows.uptoBulkAll ([d0]++ [])≤1048576:=of_decide_eq_true (hcond _ rfl)
 have hb:Rows.uptoBulk d0≤1048576:=by
  simp only[List.append_nil,Rows.uptoBulkAll] at hb0
  omega
 obtain⟨t0,l0,k0⟩:=prog_argB (hval 0 27 v0 rfl rfl) h0 hb
 have hgl:=ground_of hL hsh
 have hlt:∀x∈p0,x.block<W.heap.size:=fun x hx=>hW'.lt x (by simp[hx])
 obtain⟨n,m,fa,fc,ga,gc,xs,rfl,hn,hm,hpg⟩:=l0.pieces
 refine(CodeRights_any hpg hn hm (tame_of k0) hgl).mono fun e W' ⟨he,hbl⟩=> ?_
 subst he
 simp only[List.append_nil] at hW'
 refine⟨_,rfl,[d0],[],_,[],p0,[],hW', ?_, ?_, ?_, ?_,fun h=>by cases h⟩
 ·exact trodAll_mk1 (shut_bool Tryz.underlying4 true)
 ·rw[Tryz.params4]
  exact trodAll_mk1 (Below.trod laidOut progReads (of_decide_eq_true (by kernel_rfl)) h0 hbl hlt)
 ·exact rfl
 ·exact Below.frame hbl _
theorem codeRights_holds:Rows.CodeRightsUptoSaid:=
 OpenClaim.holds_of_cond 4 Tryz.f4 rfl rfl rfl rfl rfl rfl rfl ⟨rfl,rfl,rfl,rfl,rfl⟩ rfl rfl rfl rfl rfl (by kernel_rfl) Tryz.func4 (by kernel_rfl)
  (of_decide_eq_true (by kernel_rfl)) (by unfold Func.isWrapper;rw[if_neg (of_decide_eq_false (by kernel_rfl))];exact⟨rfl,rfl⟩)
  (fun os started H enc _ F=>by rw[OpenClaim.pre_eq_preRow];exact codeRights_lifted os started H enc F)
#print axioms codeRights_holds
end Go.Proofs.YtagnicbknbmccaaGreatDoor
