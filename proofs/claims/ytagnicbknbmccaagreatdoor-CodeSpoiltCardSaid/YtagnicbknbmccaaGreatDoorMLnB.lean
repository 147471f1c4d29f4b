/- (*Program).line of any line. guiselaw13's Maker in memory: pick, next. guiselaw13's Maker in memory: add. -/
import Derived.Test.YtagnicbknbmccaaGreatDoorMCwF
import Derived.Test.YtagnicbknbmccaaGreatDoorSqC
import Derived.Test.YtagnicbknbmccaaGreatDoorMInB
import Derived.Test.YtagnicbknbmccaaGreatDoorMCzH
import Derived.Test.YtagnicbknbmccaaGreatDoorMCtL
set_option maxRecDepth 100000
set_option maxHeartbeats 8000000
namespace Go.Proofs.YtagnicbknbmccaaGreatDoor
open Go.RowKit
def LinPost (lo:Nat) (W0:World) (pb:Nat) (o:Option Cp) (e:Ending) (W':World):Prop:=match o with
 |none=>e= .returned (.bool false)∧Below lo W0 W'
 |some q=>e= .returned (.bool true)∧∃vf ga m gc xs gs,RdG lo W0 W' pb vf ga m gc xs gs∧q=⟨xs.map Prod.fst,gs⟩
theorem split_any (s:List UInt8) (hs:s.length≤4000000000):∃n,(splitC 32 s).length=n∧n≤s.length+1∧(∀x∈splitC 32 s,x.length≤s.length)∧∀V,Gc V→Calls Tryz.prog 108 #[.string ⟨⟨s⟩⟩,.string ⟨#[32]⟩] V fun e V'=>
  e= .returned (.slice (some ⟨V.heap.size,0,none⟩) n n)∧Below V.heap.size V V'∧V.heap.size<V'.heap.size∧∀j x,(splitC 32 s)[j]? =some x→V'.cell? ⟨V.heap.size,j,none⟩=some (.string ⟨⟨x⟩⟩):=by
 obtain⟨xs,h1,h2,h3,h4⟩:=split32 ⟨⟨s⟩⟩ hs
 have h1:xs.map (fun x=>x.data.toList)=splitC 32 s:=h1
 have hl:(splitC 32 s).length=xs.length:=by rw[←h1,List.length_map]
 refine⟨xs.length,hl,h3,fun x hx=> ?_,fun V hV=>(h4 V hV).mono ?_⟩
 ·rw[←h1] at hx
  obtain⟨y,hy,rfl⟩:=List.mem_map.1 hx
  exact h2 y hy
 ·rintro e V' ⟨rfl,rfl⟩
  refine⟨rfl,(Below.refl _ _).alloc (Nat.le_refl _) _,by simp,fun j x hx=> ?_⟩
  refine(cell_of_row _ _ j _ _ _ (heap_alloc_new V _)).trans ?_
  rw[←h1,List.getElem?_map] at hx
  rw[List.getElem?_toArray,List.getElem?_map]
  cases hy:xs[j]? with
  |none=>rw[hy] at hx;cases hx
  |some y=>
   rw[hy] at hx
   injection hx with hx
   subst hx
   rfl
theorem row_of_cells {V:World} {b:Nat} {l:List (List UInt8)} (h:∀j x,l[j]? =some x→V.cell? ⟨b,j,none⟩=some (.string ⟨⟨x⟩⟩)) (hb:b<V.heap.size):RowIs V V.heap.size (some ⟨b,0,none⟩) (l.map fun s=>Value.string ⟨⟨s⟩⟩):= .inr ⟨_,0,rfl,hb,fun j v hj=>by
 rw[List.getElem?_map] at hj
 cases hy:l[j]? with
 |none=>rw[hy] at hj;cases hj
 |some y=>rw[hy] at hj;injection hj with hj;rw[←hj,Nat.zero_add];exact h j y hy⟩
theorem lineL_tab (p:Cp) {i:Nat} (hi:i≠0) (r:List UInt8):lineL p i (9::r)=match instR r,p.funcs.getLast? with
  |some x,some f=>some {p with funcs:=p.funcs.dropLast++ [{f with code:=f.code++ [x]}]}
  |_,_=>none:=by
 unfold lineL
 rw[if_neg hi]
 split
 ·rename_i heq
  injection heq with _ h
  subst h
  rfl
 ·rename_i h
  exact absurd rfl (h r)
theorem lineL_fn (p:Cp) {i:Nat} (hi:i≠0) {s:List UInt8} (h:∀r,s≠9::r):lineL p i s=(openedL (splitC 32 s)).map fun f=> {p with funcs:=p.funcs++ [f]}:=by
 unfold lineL
 rw[if_neg hi]
 split
 ·exact absurd rfl (h _)
 ·rfl
theorem lineL_first (p:Cp) {s:List UInt8} {w:List UInt8} {r:List (List UInt8)} (h:splitC 32 s=w::r):lineL p 0 s=if r.contains []∨w≠ [103,108,111,98,97,108,115] then none else some {p with globals:=r.map fun s=>⟨⟨s⟩⟩}:=by
 unfold lineL
 rw[if_pos rfl,h]
theorem RdG.setG {lo:Nat} {W0 W:World} {pb m gc m' gc':Nat} {ga ga':Option Addr} {gs gs':List ByteArray} (h:RdG lo W0 W pb (.slice none 0 0) ga m gc [] gs) (hm:gs'.length=m') (hc:m'≤gc') (hr:RowIs W W.heap.size ga' (gs'.map Value.string)) (hn:∀g o,ga'=some ⟨g,o,none⟩→lo≤g∧g≠pb):
  RdG lo W0 (W.setCell ⟨pb,1,none⟩ (.slice ga' m' gc')) pb (.slice none 0 0) ga' m' gc' [] gs':=
 ⟨h.low.setCell h.lp _,heap_setCell_same _ _ 1 _ _ _ h.box,h.lp,World.ownsRow_nil _ _ _ _,fun x hx=>(by cases hx),fun x hx=>(by cases hx),hm,hc,hr.at_ (fun g o _ hA=>Below.heap_setCell _ _ _ _ (hn g o hA).2) (by simp only[World.size_setCell];exact Nat.le_refl _),fun g hg=>by simp[Value.ownBlock] at hg,fun x hx=>(by cases hx),List.Pairwise.nil,fun x hx=>(by cases hx),fun g hg=>by
  obtain⟨_,o,ho⟩:=hg
  exact⟨(hn g o ho).2,(hn g o ho).1⟩⟩
theorem line_firstG {lo:Nat} {W0 W:World} {pb m gc:Nat} {ga:Option Addr} (hS:RdG lo W0 W pb (.slice none 0 0) ga m gc [] []) (hG:Gc W) {s:List UInt8} (hs:s.length≤100000000):
  Calls Tryz.prog 66 #[.pointer (some ⟨pb,0,none⟩),.int .i64 0,.string ⟨⟨s⟩⟩] W (LinPost lo W0 pb (lineL ⟨[],[]⟩ 0 s)):=by
 obtain⟨n,hn,hnl,hpl,hsp⟩:=split_any s (by omega)
 obtain⟨wd,r,hP⟩:∃wd r,splitC 32 s=wd::r:=by
  have:=(splitM_len 32 s.length s).2.1
  rw[splitC_M 32 _ s (Nat.le_refl _)] at this
  match splitC 32 s,this with
  |wd::r,_=>exact⟨wd,r,rfl⟩
 obtain⟨M,hM⟩:∃M,r.length=M:=⟨_,rfl⟩
 obtain⟨R,HR⟩:∃R,Hid (lineL ⟨[],[]⟩ 0 s=R):=⟨_,rfl⟩
 rw[HR.out]
 have HRE:Hid (R=if r.contains []∨wd≠ [103,108,111,98,97,108,115] then none else some ⟨[],r.map fun s=>⟨⟨s⟩⟩⟩):=Lib.hid (HR.out.symm.trans (lineL_first _ hP))
 clear HR
 rw[hP] at hn hsp
 obtain rfl:n=M+1:=by simp only[List.length_cons,hM] at hn;omega
 have HSP:=Lib.hid hsp
 have HS:=Lib.hid hS
 have HG:=Lib.hid hG
 have HM:=Lib.hid hM
 clear hsp hn hpl hP hS hG hM
 go_enter Tryz.func66,Tryz.ntmps66
 go_upto_region 2 with(go_at_call 108;refine(HSP.out _ HG.out).mono ?_;rintro e w1 ⟨rfl,hb1,hlt1,hc1⟩)
 obtain⟨sb,hsb⟩:∃sb,W.heap.size=sb:=⟨_,rfl⟩
 have HS1:=Lib.hid (HS.out.under hb1)
 have hpb:pb<sb:=by have:=HS.out.plt;omega
 have hlob:lo≤sb:=by have:=HS.out.lp;omega
 rw[hsb] at hlt1 hc1
 simp only[hsb]
 have q0:=hc1 0 wd rfl
 have HC:=Lib.hid hc1
 obtain⟨p0,p1⟩:=cr2 w1 pb HS1.out.box
 have f1:=frozen_of_row w1 pb 1 _ _ HS1.out.box
 simp only[gq] at p0 p1
 have hne:sb≠pb:=by omega
 have hne2:pb≠sb:=by omega
 clear hb1 HSP HS HG hsb hc1
 by_cases hM0:M=0
 ·subst hM0
  obtain rfl:r=[]:=List.eq_nil_of_length_eq_zero HM.out
  go_wp2_with fail
  go_loopw [23] (fun i wr=>i= .int .i64 0∧wr=w1) (fun _ _=>0)
  case atStart=>exact⟨rfl,rfl⟩
  case round=>
   obtain⟨rfl,rfl⟩:=hrel
   have hset:=fun ga' gc'=>HS1.out.setG (m':=0) (gc':=gc') (ga':=ga') (gs':=[]) rfl (Nat.zero_le _) (.inl rfl)
   by_cases hw:wd=[103,108,111,98,97,108,115]
   ·subst hw
    have hR:R=some ⟨[],[]⟩:=HRE.out.trans (if_neg (by simp))
    subst hR
    go_wp2_with fail
    go_ret
    exact⟨rfl,_,_,_,_,[],[],hset _ _ (fun g o h=>by injection h with h;injection h with h _ _;subst h;exact⟨hlob,hne⟩),rfl⟩
   ·have hR:R=none:=HRE.out.trans (if_pos (.inr hw))
    subst hR
    have e1:(wd==[103,108,111,98,97,108,115])=false:=by simpa using hw
    go_wp2_with fail
    go_ret
    exact⟨rfl,HS1.out.low.setCell HS1.out.lp _⟩
 ·have h1M:1<M+1:=by omega
  have b1:(1:Int)≤(M:Int)+1:=by omega
  have hcap:¬(M=0):=hM0
  go_wp2_with fail
  go_loopw [23] (fun i wr=>∃j:Nat,i= .int .i64 j∧j≤M∧wr=w1∧Hid (∀k x,k<j→r[k]? =some x→x≠ [])) (fun i _=>M-(intOf i).toNat)
  case atStart=>exact⟨0,rfl,Nat.zero_le _,rfl,Lib.hid fun k x hk=>by omega⟩
  case round=>
   obtain⟨j,rfl,hj,rfl,HN⟩:=hrel
   by_cases hlt:j<M
   ·obtain⟨x,hx⟩:∃x,r[j]? =some x:=⟨_,List.getElem?_eq_getElem (by rw[HM.out];exact hlt)⟩
    have cx:wr.cell? ⟨sb,1+j,none⟩=some (.string ⟨⟨x⟩⟩):=by rw[Nat.add_comm];exact HC.out (j+1) x hx
    by_cases hx0:x=[]
    ·subst hx0
     have hR:R=none:=HRE.out.trans (if_pos (.inl (by rw[List.contains_iff_mem];exact List.mem_of_getElem? hx)))
     subst hR
     clear hx
     go_wp2_with fail
     go_ret
     exact⟨rfl,HS1.out.low⟩
    ·have ex:x.isEmpty=false:=by simpa using hx0
     have HN2:Hid (∀k y,k<j+1→r[k]? =some y→y≠ []):=Lib.hid fun k y hk hy=>by
      rcases Nat.lt_or_eq_of_le (Nat.le_of_lt_succ hk) with h|h
      ·exact HN.out k y h hy
      ·subst h;rw[hx] at hy;injection hy with hy;subst hy;exact hx0
     clear hx
     go_wp2_with fail
     go_roundw
     case rel=>exact⟨j+1,by simp,by omega,(by first|rfl|trivial),HN2⟩
     case measure=>simp[intOf];omega
   ·obtain rfl:j=M:=by omega
    have hno:r.contains []=false:=by
     rw[Bool.eq_false_iff]
     intro h
     rw[List.contains_iff_mem] at h
     obtain⟨k,hk⟩:=List.mem_iff_getElem?.1 h
     exact HN.out k [] (by have:=(List.getElem?_eq_some_iff.1 hk).1;have:=HM.out;omega) hk rfl
    have hset:=HS1.out.setG (m':=j) (gc':=j) (ga':=some ⟨sb,1,none⟩) (gs':=r.map fun s=>⟨⟨s⟩⟩) (by rw[List.length_map];exact HM.out) (Nat.le_refl _)
     (.inr ⟨sb,1,rfl,hlt1,fun k v hk=>by
      rw[List.map_map,List.getElem?_map] at hk
      cases hy:r[k]? with
      |none=>rw[hy] at hk;cases hk
      |some y=>
       rw[hy] at hk
       injection hk with hk
       rw[←hk,Nat.add_comm]
       exact HC.out (k+1) y hy⟩) (fun g o h=>by injection h with h;injection h with h _ _;subst h;exact⟨hlob,hne⟩)
    have HST:=Lib.hid hset
    clear hset
    by_cases hw:wd=[103,108,111,98,97,108,115]
    ·subst hw
     have hR:R=some ⟨[],r.map fun s=>⟨⟨s⟩⟩⟩:=HRE.out.trans (if_neg (by rw[hno];simp))
     subst hR
     clear hno
     go_wp2_with fail
     go_ret
     exact⟨rfl,_,_,_,_,[],_,HST.out,rfl⟩
    ·have hR:R=none:=HRE.out.trans (if_pos (.inr hw))
     subst hR
     have e1:(wd==[103,108,111,98,97,108,115])=false:=by simpa using hw
     clear hno
     go_wp2_with fail
     go_ret
     exact⟨rfl,HST.out.low⟩
theorem line_instG {lo:Nat} {W0 W:World} {pb m gc:Nat} {vf:Value} {ga:Option Addr} {xs:List (Cf×Fv)} {gs:List ByteArray} (hS:RdG lo W0 W pb vf ga m gc xs gs) (hG:Gc W) {i:Nat} (hi0:i≠0) {r:List UInt8} (hs:r.length≤100000000) (hxl:xs.length≤100000000) (hcl:∀x∈xs,x.1.code.length≤100000000):
  Calls Tryz.prog 66 #[.pointer (some ⟨pb,0,none⟩),.int .i64 i,.string ⟨⟨9::r⟩⟩] W (LinPost lo W0 pb (lineL ⟨xs.map Prod.fst,gs⟩ i (9::r))):=by
 obtain⟨R,HR⟩:∃R,Hid (lineL ⟨xs.map Prod.fst,gs⟩ i (9::r)=R):=⟨_,rfl⟩
 rw[HR.out]
 have hRE:=HR.out
 rw[lineL_tab _ hi0] at hRE
 clear HR
 obtain⟨n,hn,hnl,hpl,hsp⟩:=split_any (9::r) (by simp only[List.length_cons];omega)
 have HSP:=Lib.hid hsp
 have HIN:Hid (∀V,Gc V→Calls Tryz.prog 110 #[.string ⟨⟨r⟩⟩] V fun e V'=>∃(x:Ci) (ok:Bool),e= .returned (.tuple #[.agg #[.int .i64 x.op,.int .i64 x.a,.int .i64 x.b,.string x.text,.int .i64 x.at_],.bool ok])∧Below V.heap.size V V'∧instR r=if ok then some x else none):=Lib.hid fun V hV=>(inst_any hV r hs).mono fun e V' ⟨hb,he⟩=>by
  cases hq:instR r with
  |none=>
   rw[hq] at he
   exact⟨⟨0,0,0,⟨#[]⟩,0⟩,false,he,hb,rfl⟩
  |some x=>
   rw[hq] at he
   exact⟨x,true,he,hb,rfl⟩
 have hpre:Lib.hasPrefix (⟨⟨9::r⟩⟩:ByteArray).data.toList (⟨#[9]⟩:ByteArray).data.toList=true:=by simp[Lib.hasPrefix]
 have HPR:=Lib.hid hpre
 have HS:=Lib.hid hS
 have HG:=Lib.hid hG
 have hi2:((i:Int)==0)=false:=by simpa using hi0
 have hrl:(r.length:Int)+1≤100000001:=by omega
 have HRE:=Lib.hid hRE
 have HCL:=Lib.hid hcl
 clear hS hG hpre hs hRE hsp hn hnl hpl hcl
 go_enter Tryz.func66,Tryz.ntmps66
 go_upto_region 12 with(first
  |(go_at_call 108;refine(HSP.out _ HG.out).mono ?_;rintro e w1 ⟨rfl,hb1,_,_⟩;have HS1:=Lib.hid (HS.out.under hb1);have HG1:=Lib.hid (HG.out.up hb1);clear hb1)
  |(go_at_call 109;refine(Tryz.strings_HasPrefix _ _ _).mono ?_;rintro e w2 ⟨rfl,rfl⟩;rw[HPR.out]))
 go_upto_region 13 with(go_at_call 110;try rw[tail_of];refine(HIN.out _ HG1.out).mono ?_;rintro e w3 ⟨x,ok,rfl,hb3,hok⟩;have HS3:=Lib.hid (HS1.out.under hb3);have HOK:=Lib.hid hok;clear hb3 hok)
 have HS4:=Lib.hid (HS3.out.alloc (.cells #[.int .i64 x.op,.int .i64 x.a,.int .i64 x.b,.string x.text,.int .i64 x.at_] 36 (0,0)))
 have hx4:=heap_alloc_new w3 (.cells #[.int .i64 x.op,.int .i64 x.a,.int .i64 x.b,.string x.text,.int .i64 x.at_] 36 (0,0))
 have hpx:=HS3.out.plt
 have HKX:Hid (∀z∈xs,(CV z).ownBlock≠some w3.heap.size):=Lib.hid fun z hz e=>by have:=((HS3.out.codes z hz).lt _ e).2;omega
 have HVX:Hid (vf.ownBlock≠some w3.heap.size):=Lib.hid fun e=>by have:=(HS3.out.fns.lt _ e).2;omega
 obtain⟨xb,hxb⟩:∃xb,w3.heap.size=xb:=⟨_,rfl⟩
 obtain⟨W4,hW4⟩:∃W4,w3.alloc (.cells #[.int .i64 x.op,.int .i64 x.a,.int .i64 x.b,.string x.text,.int .i64 x.at_] 36 (0,0))=W4:=⟨_,rfl⟩
 simp only[hW4,hxb] at HS4 hx4 hpx HKX HVX⊢
 have HX:=Lib.hid hx4
 clear hW4 hxb HS1 HS3 HG1 HIN HSP HPR HS HG hx4
 cases ok with
 |false=>
  have hR:R=none:=by
   rw[←HRE.out,show instR r=none from HOK.out]
  subst hR
  go_wp2_with fail
  go_ret
  exact⟨rfl,HS4.out.low⟩
 |true=>
  have hir:instR r=some x:=HOK.out
  have hre:=HRE.out
  rw[hir] at hre
  clear hir HOK HRE
  rcases List.eq_nil_or_concat xs with rfl|⟨ys,x0,rfl⟩
  ·have hR:R=none:=hre.symm
   subst hR
   obtain⟨fa,fc,rfl,_,_⟩:=row_form HS4.out.fns
   have p0:=cell_of_row W4 pb 0 _ _ _ HS4.out.box
   simp only[List.getElem?_toArray,List.getElem?_cons_zero,List.length_nil] at p0
   go_wp2_with fail
   go_ret
   exact⟨rfl,HS4.out.low⟩
  ·simp only[List.concat_eq_append] at HS4 HKX HCL hxl hre
   have hR:R=some ⟨ys.map Prod.fst++ [{x0.1 with code:=x0.1.code++ [x]}],gs⟩:=by
    rw[←hre]
    simp
   have HR:=Lib.hid hR
   clear hre hR
   obtain⟨K1,hK1⟩:∃K1,ys.length+1=K1:=⟨_,rfl⟩
   obtain⟨gf,cap,hvf,hgf1,hgf2⟩:∃gf cap,vf= .slice (some ⟨gf,0,none⟩) K1 cap∧lo≤gf∧gf<W4.heap.size:=by
    obtain⟨gf,cap,h1,h2,h3⟩:=HS4.out.fns.form (by simp)
    exact⟨gf,cap,by rw[h1,←hK1];simp,h2,h3⟩
   subst hvf
   have p1:=cell_of_row W4 pb 0 _ _ _ HS4.out.box
   simp only[List.getElem?_toArray,List.getElem?_cons_zero] at p1
   have p0:∀k,(W4.drewN k).cell? ⟨pb,0,none⟩=some (.slice (some ⟨gf,0,none⟩) K1 cap):=fun _=>p1
   have hgx:gf≠xb:=fun e=>HVX.out (by rw[←e];rfl)
   have hxl1:K1≤100000000:=by simp only[List.length_append,List.length_cons,List.length_nil] at hxl;omega
   have hw1:IntKind.i64.wrap ((K1:Int)-1)=(ys.length:Int):=by rw[IntKind.wrap_i64];omega
   have hk0:((K1:Int)==0)=false:=by simp;omega
   have hk1:ys.length<K1:=by omega
   have hcx:=HCL.out x0 (by simp)
   have HAX:Hid ((CV x0).ownBlock≠some xb):=Lib.hid (HKX.out x0 (by simp))
   simp only[List.length_append,List.length_cons,List.length_nil] at hxl
   have HK:=Lib.hid hK1
   have HXL:=Lib.hid hxl
   have HCX:=Lib.hid hcx
   clear hxl hcx hK1 hxl1
   go_upto_region 15 with fail
   go_quiet (fail)
   have HS5:=Lib.hid (HS4.out.under (drew_below W4 nq))
   have HX5:=Lib.hid (show(W4.drewN nq).heap[xb]? =some (.cells #[.int .i64 x.op,.int .i64 x.a,.int .i64 x.b,.string x.text,.int .i64 x.at_] 36 (0,0)) from HX.out)
   have hgf5:gf<(W4.drewN nq).heap.size:=hgf2
   obtain⟨W5,hW5⟩:∃W5,W4.drewN nq=W5:=⟨_,rfl⟩
   simp only[hW5] at HS5 HX5 hgf5⊢
   clear hW5 p0 p1 HS4 HX hw1 hgf2
   go_upto_region 16 with fail
   obtain⟨i0,hi,hz0,hz1,hz2⟩:=info_parts instInfo
   have HS6:=Lib.hid HS5.out.drew
   have HX6:=Lib.hid (show W5.drew.heap[xb]? =some (.cells #[.int .i64 x.op,.int .i64 x.a,.int .i64 x.b,.string x.text,.int .i64 x.at_] 36 (0,0)) from HX5.out)
   clear HS5 HX5
   have hK1:=HK.out
   subst hK1
   have hi5:ys.length*6+5<(ys.length+1)*6:=by omega
   have hff:=HS6.out.fns
   rw[show(ys++ [x0]).length=ys.length+1 by simp] at hff
   have hxl:=HXL.out
   have hcx:=HCX.out
   clear HXL HCX
   have y5:=(hff.cellAt (ys.length*6+5) hi5).trans (show((ys++ [x0]).flatMap fnCells)[ys.length*6+5]? =some (CV x0) by rw[flat_at fn_len (ys++ [x0]) ys.length x0 (by simp) 5 (by decide)];rfl)
   have g5:=hff.frozenAt (ys.length*6+5)
   simp only[CV] at y5
   obtain⟨x0c,x1c,x2c,x3c,x4c⟩:=cr5 _ xb HX6.out
   simp only[gq] at x0c x1c x2c x3c x4c
   have hxlt:=(Array.getElem?_eq_some_iff.1 HX6.out).1
   have hglt:gf<W5.drew.heap.size:=hgf5
   obtain⟨cn,hcn⟩:∃cn,x0.1.code.length=cn:=⟨_,rfl⟩
   have HCN:=Lib.hid hcn
   rw[hcn] at y5 hcx
   obtain⟨Q,hQ⟩:∃Q,ys.length*6+5=Q:=⟨_,rfl⟩
   have HQ:=Lib.hid hQ
   rw[hQ] at y5 g5
   clear hcn hff hi5 hgf5
   refine wp_region_G [10] (fun u=>u.cell? ⟨gf,Q,none⟩=some (.slice x0.2.ca cn x0.2.cc)∧u.frozen? ⟨gf,Q,none⟩=false∧u.cell? ⟨xb,0,none⟩=some (.int .i64 x.op)∧u.cell? ⟨xb,1,none⟩=some (.int .i64 x.a)∧u.cell? ⟨xb,2,none⟩=some (.int .i64 x.b)∧u.cell? ⟨xb,3,none⟩=some (.string x.text)∧u.cell? ⟨xb,4,none⟩=some (.int .i64 x.at_)) (by rfl) ?_ (fun hHeld=> ?_)
   ·exact⟨y5,g5,x0c,x1c,x2c,x3c,x4c⟩
   generalize hwd:World.drew W5=wd at HS6 HX6 y5 g5 x0c x1c x2c x3c x4c hxlt hglt hHeld⊢
   refine tk 0 (h:=tk 1 (h:=tk 2 (h:=tk 3 (h:=tk 4 (h:=tk 5 (h:= ?_))))))
   try simp only[nmC]
   refine rd1 6 fun KK hKK=> ?_
   go_simp
   refine hKK.out _ _ (⟨(World.cell?_of_block (a:=⟨gf,Q,none⟩) (heap_alloc_old _ _ hglt)).trans y5,(frozen_keep (heap_alloc_old _ _ hglt) Q).trans g5,(World.cell?_of_block (a:=⟨xb,0,none⟩) (heap_alloc_old _ _ hxlt)).trans x0c,(World.cell?_of_block (a:=⟨xb,1,none⟩) (heap_alloc_old _ _ hxlt)).trans x1c,(World.cell?_of_block (a:=⟨xb,2,none⟩) (heap_alloc_old _ _ hxlt)).trans x2c,(World.cell?_of_block (a:=⟨xb,3,none⟩) (heap_alloc_old _ _ hxlt)).trans x3c,(World.cell?_of_block (a:=⟨xb,4,none⟩) (heap_alloc_old _ _ hxlt)).trans x4c⟩) (fun hHeld=> ?_)
   clear hKK KK
   try simp only[nmC]
   refine rd1 7 fun KK hKK=> ?_
   refine step_append_lies _ rfl (.tmp 73) (.tmp 75) 31 rfl lo 36 i0 _ 5 48 Tryz.underlying31 hi hz0 hz1 hz2 rfl (by decide) (.slice x0.2.ca cn x0.2.cc) cn (x0.1.code.flatMap insCells) rfl (by have h:=(HS6.out.codes x0 (by simp)).alloc (.cells (insCells x).toArray 36 (0,0));rw[CV,HCN.out] at h;exact h) ⟨_,0,none⟩ 1 1 (insCells x) rfl rfl (fun k u hu=>news_at _ _ _ _ k u hu) (by intro u hu;simp[insCells] at hu;rcases hu with rfl|rfl|rfl|rfl|rfl<;>rfl) (by decide) (by unfold maxLen;omega) (by omega) (by have:=HS6.out.lo_le;rw[World.size_alloc];omega) _ rfl ?_
   intro g2 cap2 w2 ho2 hg2 hb2 hl2
   have ho2x:=ho2
   have hg2x:=hg2
   have hb2x:=hb2
   rw[←HCN.out] at ho2x hg2x hb2x
   have hpq:=HS6.out.pushI rfl ho2x hg2x hb2x
   rw[HQ.out] at hpq
   obtain⟨⟨y5,g5⟩,hs3⟩:=hpq
   simp only[CV,HCN.out] at y5 hs3
   have hax:=HAX.out
   rw[CV,HCN.out] at hax
   have x0c:=(World.cell?_of_block (a:=⟨xb,0,none⟩) (grown_keep hg2 hxlt hax)).trans x0c
   have x1c:=(World.cell?_of_block (a:=⟨xb,1,none⟩) (grown_keep hg2 hxlt hax)).trans x1c
   have x2c:=(World.cell?_of_block (a:=⟨xb,2,none⟩) (grown_keep hg2 hxlt hax)).trans x2c
   have x3c:=(World.cell?_of_block (a:=⟨xb,3,none⟩) (grown_keep hg2 hxlt hax)).trans x3c
   have x4c:=(World.cell?_of_block (a:=⟨xb,4,none⟩) (grown_keep hg2 hxlt hax)).trans x4c
   have HS7:=Lib.hid hs3
   clear hs3 ho2 ho2x hg2 hg2x hb2 hb2x hax
   refine hKK.out _ _ (⟨y5,g5,x0c,x1c,x2c,x3c,x4c⟩) (fun hHeld=> ?_)
   clear hKK KK
   try simp only[nmC]
   refine rd1 8 fun KK hKK=> ?_
   go_simp
   refine hKK.out _ _ (⟨y5,g5,x0c,x1c,x2c,x3c,x4c⟩) (fun hHeld=> ?_)
   clear hKK KK
   try simp only[nmC]
   refine tk 9 (h:= ?_)
   try simp only[nmC]
   refine rl1 10 fun KK hKK=> ?_
   go_simp
   refine hKK.out _ _ ?_
   clear hKK KK
   try simp only[nmC]
   refine wpAny_done (by kernel_rfl) ?_ _
   go_wp2_with fail
   go_ret
   rw[HR.out]
   exact⟨rfl,_,_,_,_,_,_,HS7.out,by simp⟩
theorem line_funcG {lo:Nat} {W0 W:World} {pb m gc:Nat} {vf:Value} {ga:Option Addr} {xs:List (Cf×Fv)} {gs:List ByteArray} (hS:RdG lo W0 W pb vf ga m gc xs gs) (hG:Gc W) {i:Nat} (hi0:i≠0) {s:List UInt8} (h9:∀r,s≠9::r) (hs:s.length≤100000000) (hxl:xs.length≤100000000):
  Calls Tryz.prog 66 #[.pointer (some ⟨pb,0,none⟩),.int .i64 i,.string ⟨⟨s⟩⟩] W (LinPost lo W0 pb (lineL ⟨xs.map Prod.fst,gs⟩ i s)):=by
 obtain⟨R,HR⟩:∃R,Hid (lineL ⟨xs.map Prod.fst,gs⟩ i s=R):=⟨_,rfl⟩
 rw[HR.out]
 have hRE:=HR.out
 rw[lineL_fn _ hi0 h9] at hRE
 clear HR
 obtain⟨n,hn,hnl,hpl,hsp⟩:=split_any s (by omega)
 have HSP:=Lib.hid hsp
 have HOP:Hid (∀V SA,Gc V→RowIs V V.heap.size SA ((splitC 32 s).map fun s=>Value.string ⟨⟨s⟩⟩)→Calls Tryz.prog 111 #[.slice SA n n] V fun e V'=>∃(x:Cf×Fv) (ok:Bool),e= .returned (.tuple #[.agg #[.string x.1.name,.int .i64 x.1.params,.int .i64 x.1.slots,.slice x.2.ta x.1.taken.length x.2.tc,.int .i64 x.1.around,.slice none 0 0],.bool ok])∧Below V.heap.size V V'∧(x.1.code=[]∧x.2.ca=none∧x.2.cc=0)∧
   (RowIs V' V'.heap.size x.2.ta (x.1.taken.map (Value.int .i64))∧x.1.taken.length≤x.2.tc)∧(∀a,x.2.ta=some a→V.heap.size≤a.block)∧openedL (splitC 32 s)=if ok then some x.1 else none):=Lib.hid fun V SA hV hr=>
  (opened_any hV hn hr (Nat.le_refl _) (fun x hx=>by have:=hpl x hx;omega) (by omega)).mono fun e V' ⟨hb,he⟩=>by
   cases hq:openedL (splitC 32 s) with
   |none=>
    rw[hq] at he
    exact⟨(⟨⟨#[]⟩,0,0,[],0,[]⟩,⟨none,0,none,0⟩),false,he,hb,⟨rfl,rfl,rfl⟩,⟨.inl rfl,Nat.le_refl _⟩,(fun a h=>by cases h),rfl⟩
   |some f=>
    rw[hq] at he
    obtain⟨A,ic,h1,h2,h3,h4,h5⟩:=he
    exact⟨(f,⟨A,ic,none,0⟩),true,h1,hb,⟨h2,rfl,rfl⟩,⟨h3,h4⟩,h5,rfl⟩
 have hpre:Lib.hasPrefix (⟨⟨s⟩⟩:ByteArray).data.toList (⟨#[9]⟩:ByteArray).data.toList=false:=by
  show Lib.hasPrefix s [9]=false
  cases s with
  |nil=>rfl
  |cons c r=>
   have:¬(9=c):=fun e=>h9 r (by rw[e])
   simp[Lib.hasPrefix,List.isPrefixOf,this]
 have HPR:=Lib.hid hpre
 have HS:=Lib.hid hS
 have HG:=Lib.hid hG
 have hi2:((i:Int)==0)=false:=by simpa using hi0
 have HRE:=Lib.hid hRE
 clear hS hG hpre hs hRE hsp hn hnl hpl h9
 go_enter Tryz.func66,Tryz.ntmps66
 go_upto_region 18 with(first
  |(go_at_call 108;refine(HSP.out _ HG.out).mono ?_;rintro e w1 ⟨rfl,hb1,hlt1,hc1⟩;obtain⟨N,hN⟩:∃N,w1.heap.size=N:=⟨_,rfl⟩;have HS1:=Lib.hid (HS.out.under hb1);have HN:=Lib.hid hN;have HG1:=Lib.hid (HG.out.up hb1);have HW1:=Lib.hid (show pb<N∧lo≤N∧(∀g,vf.ownBlock=some g→g<N)∧(∀y∈xs,∀g,KB y g→g<N) from⟨by have:=HS1.out.plt;omega,HN.out▸HS1.out.lo_le,fun g hg=>by have:=(HS1.out.fns.lt g hg).2;omega,fun y hy g hg=>by have:=((HS1.out.codes y hy).lt g hg).2;omega⟩);have HRW:=Lib.hid (row_of_cells hc1 hlt1);clear hb1 hlt1 hc1 hN)
  |(go_at_call 109;refine(Tryz.strings_HasPrefix _ _ _).mono ?_;rintro e w2 ⟨rfl,rfl⟩;rw[HPR.out]))
 go_upto_region 19 with(go_at_call 111;refine(HOP.out _ _ HG1.out HRW.out).mono ?_;rintro e w3 ⟨x,ok,rfl,hb3,hcode,htk,hfr,hok⟩;have HS3:=Lib.hid (HS1.out.under hb3);have HOK:=Lib.hid hok;have HTK:=Lib.hid htk;have HFR:=Lib.hid hfr;have HCO:=Lib.hid hcode;have hs3:=Lib.hid (show N≤w3.heap.size from by rw[←HN.out];exact hb3.size);have HFR2:=Lib.hid (show∀a,x.2.ta=some a→N≤a.block from by rw[←HN.out];exact hfr);clear hb3 hok htk hfr hcode)
 obtain⟨hNp,hNl,hnv,hnk⟩:=HW1.out
 have HNV:=Lib.hid hnv
 have HNK:=Lib.hid hnk
 have hs3:=hs3.out
 clear hnv hnk HW1
 have HS4:=Lib.hid (HS3.out.alloc (.cells #[.string x.1.name,.int .i64 x.1.params,.int .i64 x.1.slots,.slice x.2.ta x.1.taken.length x.2.tc,.int .i64 x.1.around,.slice none 0 0] 33 (0,0)))
 have hx4:=heap_alloc_new w3 (.cells #[.string x.1.name,.int .i64 x.1.params,.int .i64 x.1.slots,.slice x.2.ta x.1.taken.length x.2.tc,.int .i64 x.1.around,.slice none 0 0] 33 (0,0))
 have HT4:=Lib.hid (show RowIs (w3.alloc (.cells #[.string x.1.name,.int .i64 x.1.params,.int .i64 x.1.slots,.slice x.2.ta x.1.taken.length x.2.tc,.int .i64 x.1.around,.slice none 0 0] 33 (0,0))) (w3.alloc (.cells #[.string x.1.name,.int .i64 x.1.params,.int .i64 x.1.slots,.slice x.2.ta x.1.taken.length x.2.tc,.int .i64 x.1.around,.slice none 0 0] 33 (0,0))).heap.size x.2.ta (x.1.taken.map (Value.int .i64))∧x.1.taken.length≤x.2.tc from⟨(HTK.out.1.keep fun b hb=>heap_alloc_old _ _ hb).more (by simp),HTK.out.2⟩)
 have HVX:Hid (vf.ownBlock≠some w3.heap.size):=Lib.hid fun e=>by have:=HNV.out _ e;omega
 obtain⟨xb,hxb⟩:∃xb,w3.heap.size=xb:=⟨_,rfl⟩
 obtain⟨W4,hW4⟩:∃W4,w3.alloc (.cells #[.string x.1.name,.int .i64 x.1.params,.int .i64 x.1.slots,.slice x.2.ta x.1.taken.length x.2.tc,.int .i64 x.1.around,.slice none 0 0] 33 (0,0))=W4:=⟨_,rfl⟩
 simp only[hW4,hxb] at HS4 hx4 HT4 HVX⊢
 have HX:=Lib.hid hx4
 have hpx:pb<xb:=by omega
 clear hW4 hxb HS1 HS3 HG1 HOP HSP HPR HS HG hx4 HRW HTK HFR HN hs3
 obtain⟨i0,hi,hz0,hz1,hz2⟩:=info_parts funcInfo
 have HS6:=Lib.hid HS4.out.drew
 have HX6:=Lib.hid (show W4.drew.heap[xb]? =some (.cells #[.string x.1.name,.int .i64 x.1.params,.int .i64 x.1.slots,.slice x.2.ta x.1.taken.length x.2.tc,.int .i64 x.1.around,.slice none 0 0] 33 (0,0)) from HX.out)
 have HT6:=Lib.hid (show RowIs W4.drew W4.drew.heap.size x.2.ta (x.1.taken.map (Value.int .i64))∧x.1.taken.length≤x.2.tc from HT4.out)
 clear HS4 HX HT4
 have y0:=cell_of_row _ pb 0 _ _ _ HS6.out.box
 have g0:=frozen_of_row _ pb 0 _ _ HS6.out.box
 obtain⟨x0c,x1c,x2c,x3c,x4c,x5c⟩:=cr6 _ xb HX6.out
 simp only[gq] at y0 x0c x1c x2c x3c x4c x5c
 have hxlt:=(Array.getElem?_eq_some_iff.1 HX6.out).1
 have hplt:pb<W4.drew.heap.size:=by omega
 have hxp:xb≠pb:=by omega
 have HFC:Hid (fnCells x=[.string x.1.name,.int .i64 x.1.params,.int .i64 x.1.slots,.slice x.2.ta x.1.taken.length x.2.tc,.int .i64 x.1.around,.slice none 0 0]):=Lib.hid (by
  obtain⟨e1,e2,e3⟩:=HCO.out
  unfold fnCells
  rw[e1,e2,e3]
  rfl)
 refine wp_region_G [10] (fun u=>u.cell? ⟨pb,0,none⟩=some vf∧u.frozen? ⟨pb,0,none⟩=false∧u.cell? ⟨xb,0,none⟩=some (.string x.1.name)∧u.cell? ⟨xb,1,none⟩=some (.int .i64 x.1.params)∧u.cell? ⟨xb,2,none⟩=some (.int .i64 x.1.slots)∧u.cell? ⟨xb,3,none⟩=some (.slice x.2.ta x.1.taken.length x.2.tc)∧u.cell? ⟨xb,4,none⟩=some (.int .i64 x.1.around)∧u.cell? ⟨xb,5,none⟩=some (.slice none 0 0)) (by rfl) ?_ (fun hHeld=> ?_)
 ·exact⟨y0,g0,x0c,x1c,x2c,x3c,x4c,x5c⟩
 generalize hwd:World.drew W4=wd at HS6 HX6 HT6 y0 g0 x0c x1c x2c x3c x4c x5c hxlt hplt hHeld⊢
 refine tk 0 (h:=tk 1 (h:=tk 2 (h:=tk 3 (h:=tk 4 (h:=tk 5 (h:= ?_))))))
 try simp only[nmC]
 refine rd1 6 fun KK hKK=> ?_
 go_simp
 refine hKK.out _ _ (⟨(World.cell?_of_block (a:=⟨pb,0,none⟩) (heap_alloc_old _ _ hplt)).trans y0,(frozen_keep (heap_alloc_old _ _ hplt) 0).trans g0,(World.cell?_of_block (a:=⟨xb,0,none⟩) (heap_alloc_old _ _ hxlt)).trans x0c,(World.cell?_of_block (a:=⟨xb,1,none⟩) (heap_alloc_old _ _ hxlt)).trans x1c,(World.cell?_of_block (a:=⟨xb,2,none⟩) (heap_alloc_old _ _ hxlt)).trans x2c,(World.cell?_of_block (a:=⟨xb,3,none⟩) (heap_alloc_old _ _ hxlt)).trans x3c,(World.cell?_of_block (a:=⟨xb,4,none⟩) (heap_alloc_old _ _ hxlt)).trans x4c,(World.cell?_of_block (a:=⟨xb,5,none⟩) (heap_alloc_old _ _ hxlt)).trans x5c⟩) (fun hHeld=> ?_)
 clear hKK KK
 try simp only[nmC]
 refine rd1 7 fun KK hKK=> ?_
 refine step_append_lies _ rfl (.tmp 88) (.tmp 90) 24 rfl lo 33 i0 _ 6 88 Tryz.underlying24 hi hz0 hz1 hz2 rfl (by decide) vf xs.length (xs.flatMap fnCells) rfl (HS6.out.fns.alloc _) ⟨_,0,none⟩ 1 1 (fnCells x) rfl rfl (fun k u hu=>by rw[HFC.out] at hu;exact news_at _ _ _ _ k u hu) (by intro u hu;rw[HFC.out] at hu;simp at hu;rcases hu with rfl|rfl|rfl|rfl|rfl|rfl<;>rfl) (by decide) (by unfold maxLen;omega) (by omega) (by have:=HS6.out.lo_le;rw[World.size_alloc];omega) _ rfl ?_
 intro g2 cap2 w2 ho2 hg2 hb2 hl2
 obtain⟨hbx,hs5⟩:=HS6.out.pushF HCO.out HT6.out HFR2.out hNl hNp HNV.out HNK.out ho2 hg2 hb2
 have y0:=cell_of_row _ pb 0 _ _ _ hbx
 have g0:=frozen_of_row _ pb 0 _ _ hbx
 simp only[gq] at y0
 have x0c:=(World.cell?_of_block (a:=⟨xb,0,none⟩) (grown_keep hg2 hxlt HVX.out)).trans x0c
 have x1c:=(World.cell?_of_block (a:=⟨xb,1,none⟩) (grown_keep hg2 hxlt HVX.out)).trans x1c
 have x2c:=(World.cell?_of_block (a:=⟨xb,2,none⟩) (grown_keep hg2 hxlt HVX.out)).trans x2c
 have x3c:=(World.cell?_of_block (a:=⟨xb,3,none⟩) (grown_keep hg2 hxlt HVX.out)).trans x3c
 have x4c:=(World.cell?_of_block (a:=⟨xb,4,none⟩) (grown_keep hg2 hxlt HVX.out)).trans x4c
 have x5c:=(World.cell?_of_block (a:=⟨xb,5,none⟩) (grown_keep hg2 hxlt HVX.out)).trans x5c
 have HS7:=Lib.hid hs5
 clear hs5 ho2 hg2 hb2 hbx
 refine hKK.out _ _ (⟨y0,g0,x0c,x1c,x2c,x3c,x4c,x5c⟩) (fun hHeld=> ?_)
 clear hKK KK
 try simp only[nmC]
 refine rd1 8 fun KK hKK=> ?_
 go_simp
 refine hKK.out _ _ (⟨y0,g0,x0c,x1c,x2c,x3c,x4c,x5c⟩) (fun hHeld=> ?_)
 clear hKK KK
 try simp only[nmC]
 refine tk 9 (h:= ?_)
 try simp only[nmC]
 refine rl1 10 fun KK hKK=> ?_
 go_simp
 refine hKK.out _ _ ?_
 clear hKK KK
 try simp only[nmC]
 refine wpAny_done (by kernel_rfl) ?_ _
 cases ok with
 |false=>
  have hR:R=none:=by rw[←HRE.out,show openedL (splitC 32 s)=none from HOK.out];rfl
  subst hR
  go_wp2_with fail
  go_ret
  exact⟨rfl,HS7.out.low⟩
 |true=>
  have hR:R=some ⟨xs.map Prod.fst++ [x.1],gs⟩:=by rw[←HRE.out,show openedL (splitC 32 s)=some x.1 from HOK.out];rfl
  have HR:=Lib.hid hR
  clear hR
  go_wp2_with fail
  go_ret
  rw[HR.out]
  exact⟨rfl,_,_,_,_,_,_,HS7.out,by simp⟩
theorem pick_any (c:Int) (n:Nat) (hc:okI c) (h0:0<n) (hn:n≤1000000000) (w:World):Calls Tryz.prog 10 #[.int .i64 c,.int .i64 n] w fun e w'=>e= .returned (.int .i64 (pickN c n))∧w'=w:=by
 obtain⟨hc1,hc2⟩:=hc
 have hn0:((n:Int)==0)=false:=by simp;omega
 have hl:((pickN c n:Nat):Int)=(if c<0 then-(c+1) else c).tmod n:=by
  unfold pickN
  have h1:(0:Int)≤(if c<0 then-(c+1) else c):=by split<;>omega
  rw[Int.tmod_eq_emod_of_nonneg h1]
  exact Int.toNat_of_nonneg (Int.emod_nonneg _ (by omega))
 have hb:((pickN c n:Nat):Int)<n:=by
  unfold pickN
  have:=Int.emod_lt_of_pos (if c<0 then-(c+1) else c) (b:=(n:Int)) (by omega)
  have:=Int.emod_nonneg (if c<0 then-(c+1) else c) (b:=(n:Int)) (by omega)
  omega
 obtain⟨R,hR⟩:∃R,pickN c n=R:=⟨_,rfl⟩
 rw[hR] at hl hb⊢
 clear hR
 go_enter Tryz.func10,Tryz.ntmps10
 by_cases hneg:c<0
 ·rw[if_pos hneg] at hl
  have e1:decide (c<0)=true:=decide_eq_true hneg
  have e2:IntKind.i64.wrap (c+1)=c+1:=by rw[IntKind.wrap_i64];omega
  have e3:IntKind.i64.wrap (-(c+1))= -(c+1):=by rw[IntKind.wrap_i64];omega
  have e4:IntKind.i64.wrap ((-(c+1)).tmod n)=R:=by rw[←hl,IntKind.wrap_i64];omega
  have HL:=Lib.hid hl
  clear hl
  go_wp2_with fail
  go_ret
  exact⟨ret_int (by rw[HL.out,Int.neg_tmod]),rfl⟩
 ·rw[if_neg hneg] at hl
  have e1:decide (c<0)=false:=decide_eq_false hneg
  have e4:IntKind.i64.wrap (c.tmod n)=R:=by rw[←hl,IntKind.wrap_i64];omega
  have HL:=Lib.hid hl
  clear hl
  go_wp2_with fail
  go_ret
  exact⟨ret_int (by rw[HL.out];exact(Int.tmod_eq_emod_of_nonneg (by omega)).symm),rfl⟩
structure MkAt (lo:Nat) (W0 W:World) (kb:Nat) (ra:Option Addr) (rc:Nat) (cv:Value) (fn:Int) (m:Mk):Prop where
 low:Below lo W0 W
 box:W.heap[kb]? =some (.cells #[.slice ra m.raw.length rc,.int .i64 m.at_,cv,.int .i64 m.high,.int .i64 m.slots,.int .i64 m.tops,.int .i64 fn] 65 (0,0))
 klo:lo≤kb
 row:RowIs W0 lo ra (m.raw.map (Value.int .i64))
 rok:∀x∈m.raw,okI x
 own:W.ownsRow lo 36 5 cv m.code.length (m.code.flatMap insCells)
 ne:cv.ownBlock≠some kb
section
variable {lo:Nat} {W0 W W':World} {kb rc:Nat} {ra:Option Addr} {cv:Value} {fn:Int} {m:Mk}
theorem MkAt.lt (h:MkAt lo W0 W kb ra rc cv fn m):kb<W.heap.size:=(Array.getElem?_eq_some_iff.1 h.box).1
theorem MkAt.under (h:MkAt lo W0 W kb ra rc cv fn m) (hb:Below W.heap.size W W'):MkAt lo W0 W' kb ra rc cv fn m:=
 ⟨h.low.trans (hb.mono (by have:=h.lt;have:=h.klo;omega)),(hb.block kb h.lt).trans h.box,h.klo,h.row,h.rok,own_keep h.own fun g hg=>hb.block g (h.own.lt g hg).2,h.ne⟩
theorem MkAt.drewN (h:MkAt lo W0 W kb ra rc cv fn m) (k:Nat):MkAt lo W0 (W.drewN k) kb ra rc cv fn m:=h.under (drew_below W k)
theorem MkAt.drew (h:MkAt lo W0 W kb ra rc cv fn m):MkAt lo W0 W.drew kb ra rc cv fn m:=h.under ⟨rfl,rfl,rfl,Nat.le_refl _,fun _ _=>rfl⟩
theorem MkAt.step (h:MkAt lo W0 W kb ra rc cv fn m):MkAt lo W0 (W.setCell ⟨kb,1,none⟩ (.int .i64 ((m.at_:Int)+1))) kb ra rc cv fn {m with at_:=m.at_+1}:=
 ⟨h.low.setCell h.klo _,(heap_setCell_same _ kb 1 _ _ _ h.box).trans (by rw[show(((m.at_+1:Nat)):Int)=(m.at_:Int)+1 by omega];rfl),h.klo,h.row,h.rok,own_keep h.own fun g hg=>Below.heap_setCell _ _ _ _ fun e=>h.ne (by have e:g=kb:=e;rw[←e];exact hg),h.ne⟩
theorem MkAt.at_row (h:MkAt lo W0 W kb ra rc cv fn m) {c:Int} {j:Nat} (hj:m.raw[j]? =some c):∃g o,ra=some ⟨g,o,none⟩∧g<lo∧W.cell? ⟨g,o+j,none⟩=some (.int .i64 c):=by
 rcases h.row with e|⟨g,o,e,hg,hc⟩
 ·rw[List.map_eq_nil_iff] at e
  rw[e] at hj
  cases hj
 ·exact⟨g,o,e,hg,(World.cell?_of_block (a:=⟨g,o+j,none⟩) (h.low.block g hg)).trans (hc j _ (by rw[List.getElem?_map,hj];rfl))⟩
end
theorem next_any {lo:Nat} {W0 W:World} {kb rc:Nat} {ra:Option Addr} {cv:Value} {fn:Int} {m:Mk} (h:MkAt lo W0 W kb ra rc cv fn m) (n:Nat) (h0:0<n) (hn:n≤1000000000) (ha:m.at_≤1000000000):
  Calls Tryz.prog 31 #[.pointer (some ⟨kb,0,none⟩),.int .i64 n] W fun e W'=>e= .returned (.int .i64 (m.next n).1)∧MkAt lo W0 W' kb ra rc cv fn (m.next n).2∧W'.heap.size=W.heap.size∧∀g,g≠kb→W'.heap[g]? =W.heap[g]? :=by
 obtain⟨c0,c1⟩:=cr2 W kb h.box
 have f1:=frozen_of_row W kb 1 _ _ h.box
 simp only[gq] at c0 c1
 have HS:Hid (∀k,MkAt lo W0 ((W.drewN k).setCell ⟨kb,1,none⟩ (.int .i64 ((m.at_:Int)+1))) kb ra rc cv fn (m.next n).2):=Lib.hid fun k=>(h.drewN k).step
 have HR:=Lib.hid (fun(c:Int) (j:Nat) (hj:m.raw[j]? =some c)=>h.at_row hj)
 have hok:=Lib.hid h.rok
 obtain⟨R,hR⟩:∃R,(m.next n).1=R:=⟨_,rfl⟩
 rw[hR]
 unfold Mk.next at hR
 obtain⟨L,hL⟩:∃L,m.raw.length=L:=⟨_,rfl⟩
 obtain⟨A,hA⟩:∃A,m.at_=A:=⟨_,rfl⟩
 rw[hL] at c0
 rw[hA] at c1 HS hR ha
 have HPK:=Lib.hid pick_any
 by_cases hlt:A<L
 ·obtain⟨c,hc⟩:∃c,m.raw[A]? =some c:=⟨_,List.getElem?_eq_getElem (by rw[hL];exact hlt)⟩
  obtain⟨g,o,rfl,_,hcell⟩:=HR.out c A hc
  have hokc:=hok.out c (List.mem_of_getElem? hc)
  rw[hc] at hR
  have hR:pickN c n=R:=hR
  have HP:Hid (∀w,Calls Tryz.prog 10 #[.int .i64 c,.int .i64 n] w fun e w'=>e= .returned (.int .i64 R)∧w'=w):=Lib.hid fun w=>by rw[←hR];exact pick_any c n hokc h0 hn w
  clear hR hc hL hA HPK HR hok h hokc
  go_enter Tryz.func31,Tryz.ntmps31
  go_wp2_with fail
  go_quiet (fail)
  go_wp2_with fail
  go_quiet (exact(HP.out _).mono fun _ _ h=>⟨h.1,_,h.2⟩)
  go_wp2_with fail
  go_ret
  exact⟨rfl,HS.out _,by simp only[World.size_setCell];rfl,fun g hg=>Below.heap_setCell _ _ _ _ hg⟩
 ·have hc:m.raw[A]? =none:=List.getElem?_eq_none (by rw[hL];omega)
  rw[hc] at hR
  have hR:0=R:=hR
  subst hR
  clear hc hL hA HPK HR hok h
  go_enter Tryz.func31,Tryz.ntmps31
  go_wp2_with fail
  go_quiet (fail)
  go_wp2_with fail
  go_ret
  exact⟨rfl,HS.out _,by simp only[World.size_setCell];rfl,fun g hg=>Below.heap_setCell _ _ _ _ hg⟩
section
variable {lo:Nat} {W0 W w2:World} {kb rc g2 cap2:Nat} {ra:Option Addr} {cv:Value} {fn:Int} {m:Mk} {o:Obj} {x:Ci}
theorem MkAt.lo_le (h:MkAt lo W0 W kb ra rc cv fn m):lo≤W.heap.size:=by have:=h.lt;have:=h.klo;omega
theorem MkAt.pushed (h:MkAt lo W0 W kb ra rc cv fn m) (ho:w2.ownsRow lo 36 5 (.slice (some ⟨g2,0,none⟩) (m.code.length+1) cap2) (m.code.length+1) (m.code.flatMap insCells++insCells x)) (hg:(W.alloc o).grownBy w2 cv.ownBlock) (hb:cv.ownBlock=some g2∨g2=(W.alloc o).heap.size):
  w2.heap[kb]? =W.heap[kb]? ∧MkAt lo W0 (w2.setCell ⟨kb,2,none⟩ (.slice (some ⟨g2,0,none⟩) (m.code.length+1) cap2)) kb ra rc (.slice (some ⟨g2,0,none⟩) (m.code.length+1) cap2) fn {m with code:=m.code++ [x]}:=by
 have hk:=grown_keep hg h.lt h.ne
 have hne:g2≠kb:=by
  rcases hb with e|e
  ·exact fun e2=>h.ne (by rw[←e2];exact e)
  ·have:=h.lt;have:=World.size_alloc W o;omega
 have hgs:=hg.size
 have hbW2:Below lo W0 w2:=(h.low.alloc h.lo_le o).trans ⟨hg.os,hg.tape,hg.output,hg.size,fun k hk=>hg.block k (by have:=h.lo_le;have:=World.size_alloc W o;omega) (fun e=>by have:=(h.own.lt k e.symm).1;omega)⟩
 refine⟨hk,hbW2.setCell h.klo _,(heap_setCell_same _ kb 2 _ _ _ (hk.trans h.box)).trans rfl,h.klo,h.row,h.rok, ?_,by simp[Value.ownBlock];exact hne⟩
 show(w2.setCell _ _).ownsRow lo _ 5 _ (m.code++ [x]).length ((m.code++ [x]).flatMap insCells)
 rw[List.length_append,List.flatMap_append]
 simp only[List.flatMap_cons,List.flatMap_nil,List.append_nil,List.length_cons,List.length_nil,Nat.zero_add]
 refine own_keep ho fun g hgo=>Below.heap_setCell _ _ _ _ ?_
 simp only[Value.ownBlock,Option.some.injEq] at hgo
 rw[←hgo];exact hne
theorem MkAt.setHigh (h:MkAt lo W0 W kb ra rc cv fn m) (v:Nat):MkAt lo W0 (W.setCell ⟨kb,3,none⟩ (.int .i64 v)) kb ra rc cv fn {m with high:=v}:=
 ⟨h.low.setCell h.klo _,(heap_setCell_same _ kb 3 _ _ _ h.box).trans rfl,h.klo,h.row,h.rok,own_keep h.own fun g hg=>Below.heap_setCell _ _ _ _ fun e=>h.ne (by have e:g=kb:=e;rw[←e];exact hg),h.ne⟩
end
theorem add_any {lo:Nat} {W0 W:World} {kb rc:Nat} {ra:Option Addr} {cv:Value} {fn:Int} {m:Mk} (h:MkAt lo W0 W kb ra rc cv fn m) (op a:Int) (t:List UInt8) (takes lays:Nat) (ht:takes≤m.high) (hh:m.high≤1000000) (hl:lays≤1000000) (hc:m.code.length≤1000000):
  Calls Tryz.prog 73 #[.pointer (some ⟨kb,0,none⟩),.int .i64 op,.int .i64 a,.string ⟨⟨t⟩⟩,.int .i64 takes,.int .i64 lays] W fun e W'=>e= .returned (.tuple #[])∧∃cv',MkAt lo W0 W' kb ra rc cv' fn (m.add op a t takes lays):=by
 obtain⟨n,hn⟩:∃n,m.code.length=n:=⟨_,rfl⟩
 obtain⟨x,hx⟩:∃x:Ci,x=⟨op,a,0,⟨⟨t⟩⟩,((m.code.length*7 % 60001:Nat):Int)⟩:=⟨_,rfl⟩
 have hM:m.add op a t takes lays= {{m with code:=m.code++ [x]} with high:=m.high-takes+lays}:=by rw[hx];rfl
 rw[hM]
 clear hM
 rw[hn] at hx hc
 have hxe:insCells x=[.int .i64 op,.int .i64 a,.int .i64 0,.string ⟨⟨t⟩⟩,.int .i64 ((n*7 % 60001:Nat):Int)]:=by rw[hx];rfl
 have HXE:=Lib.hid hxe
 have HN:=Lib.hid hn
 obtain⟨A,hA⟩:∃A:Nat,n*7 % 60001=A:=⟨_,rfl⟩
 rw[hA] at HXE
 have hA2:A<60001:=by omega
 have e1:IntKind.i64.wrap ((n:Int)*7)=(n:Int)*7:=by rw[IntKind.wrap_i64];omega
 have e2:((n:Int)*7).tmod 60001=(A:Int):=by
  rw[Int.tmod_eq_emod_of_nonneg (by omega),←hA]
  omega
 obtain⟨v,hv⟩:∃v:Nat,m.high-takes+lays=v:=⟨_,rfl⟩
 rw[hv]
 have e3:IntKind.i64.wrap ((m.high:Int)-takes)=(m.high:Int)-takes:=by rw[IntKind.wrap_i64];omega
 have e4:IntKind.i64.wrap ((m.high:Int)-takes+lays)=(v:Int):=by rw[IntKind.wrap_i64];omega
 have e5:(m.high:Int)-takes+lays=(v:Int):=by omega
 have HS6:=Lib.hid h.drew
 obtain⟨i0,hi,hz0,hz1,hz2⟩:=info_parts instInfo
 clear hA hv hx hxe hn
 have y2:=cell_of_row _ kb 2 _ _ _ HS6.out.box
 have y3:=cell_of_row _ kb 3 _ _ _ HS6.out.box
 have g2x:=frozen_of_row _ kb 2 _ _ HS6.out.box
 simp only[gq] at y2 y3
 have hklt:kb<W.drew.heap.size:=HS6.out.lt
 obtain⟨gf,cc,hcv⟩:∃gf cc,cv= .slice gf n cc:=by
  obtain⟨fa,fc,e,_,_⟩:=row_form HS6.out.own
  exact⟨fa,fc,by rw[e,HN.out]⟩
 have HCV:=Lib.hid hcv
 rw[hcv] at y2
 clear hcv h
 go_enter Tryz.func73,Tryz.ntmps73
 go_upto_region 0 with fail
 refine wp_region_G [20] (fun u=>u.cell? ⟨kb,2,none⟩=some (.slice gf n cc)∧u.frozen? ⟨kb,2,none⟩=false) (by rfl) ?_ (fun hHeld=> ?_)
 ·exact⟨y2,g2x⟩
 generalize hwd:World.drew W=wd at HS6 y2 y3 g2x hklt hHeld⊢
 refine tk 0 (h:=tk 1 (h:=tk 2 (h:=tk 3 (h:=tk 4 (h:=tk 5 (h:= ?_))))))
 try simp only[nmC]
 refine tk 6 (h:=tk 7 (h:=tk 8 (h:=tk 9 (h:=tk 10 (h:=tk 11 (h:= ?_))))))
 try simp only[nmC]
 refine tk 12 (h:=tk 13 (h:=tk 14 (h:=tk 15 (h:= ?_))))
 try simp only[nmC]
 refine rd1 16 fun KK hKK=> ?_
 go_simp
 refine hKK.out _ _ (⟨(World.cell?_of_block (a:=⟨kb,2,none⟩) (heap_alloc_old _ _ hklt)).trans y2,(frozen_keep (heap_alloc_old _ _ hklt) 2).trans g2x⟩) (fun hHeld=> ?_)
 clear hKK KK
 try simp only[nmC]
 refine rd1 17 fun KK hKK=> ?_
 refine step_append_lies _ rfl (.tmp 16) (.tmp 28) 31 rfl lo 36 i0 _ 5 48 Tryz.underlying31 hi hz0 hz1 hz2 rfl (by decide) (.slice gf n cc) n (m.code.flatMap insCells) rfl (by have h:=HS6.out.own;rw[HCV.out,HN.out] at h;exact h.alloc (.cells #[.int .i64 op,.int .i64 a,.int .i64 0,.string ⟨⟨t⟩⟩,.int .i64 A] 36 (0,0))) ⟨_,0,none⟩ 1 1 (insCells x) rfl rfl (fun k u hu=>by rw[HXE.out] at hu;exact news_at _ _ _ _ k u hu) (by intro u hu;rw[HXE.out] at hu;simp at hu;rcases hu with rfl|rfl|rfl|rfl|rfl<;>rfl) (by decide) (by unfold maxLen;omega) (by omega) (by have:=HS6.out.lo_le;rw[World.size_alloc];omega) _ rfl ?_
 intro g2 cap2 w2 ho2 hg2 hb2 hl2
 rw[←HN.out] at ho2
 rw[←HCV.out] at hg2 hb2
 obtain⟨hk2,hs3⟩:=HS6.out.pushed ho2 hg2 hb2
 rw[HN.out] at hs3
 have y2:=(World.cell?_of_block (a:=⟨kb,2,none⟩) hk2).trans y2
 have y3:=(World.cell?_of_block (a:=⟨kb,3,none⟩) hk2).trans y3
 have g2x:=(frozen_keep hk2 2).trans g2x
 have HS7:=Lib.hid hs3
 clear hs3 ho2 hg2 hb2 hk2
 refine hKK.out _ _ (⟨y2,g2x⟩) (fun hHeld=> ?_)
 clear hKK KK
 try simp only[nmC]
 refine rd1 18 fun KK hKK=> ?_
 go_simp
 refine hKK.out _ _ (⟨y2,g2x⟩) (fun hHeld=> ?_)
 clear hKK KK
 try simp only[nmC]
 refine rd1 19 fun KK hKK=> ?_
 go_simp
 refine hKK.out _ _ (⟨y2,g2x⟩) (fun hHeld=> ?_)
 clear hKK KK
 try simp only[nmC]
 refine rl1 20 fun KK hKK=> ?_
 go_simp
 refine hKK.out _ _ ?_
 clear hKK KK
 try simp only[nmC]
 refine wpAny_done (by kernel_rfl) ?_ _
 have z3:=cell_of_row _ kb 3 _ _ _ HS7.out.box
 have gz3:=frozen_of_row _ kb 3 _ _ HS7.out.box
 simp only[gq] at z3
 have HS8:=Lib.hid (HS7.out.setHigh v)
 clear HS7
 go_wp2_with fail
 refine bodyPost_end (results_none rfl _ _ _) rfl ?_
 exact⟨rfl,_,HS8.out⟩
end Go.Proofs.YtagnicbknbmccaaGreatDoor
