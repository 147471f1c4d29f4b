/- code.Decode of any bytes. -/
import Derived.Test.YtagnicbknbmccaaGreatDoorMCwF
import Derived.Test.YtagnicbknbmccaaGreatDoorSqC
import Derived.Test.YtagnicbknbmccaaGreatDoorMCyG
import Derived.Test.YtagnicbknbmccaaGreatDoorMMkL
import Derived.Test.YtagnicbknbmccaaGreatDoorMCdD
set_option maxRecDepth 100000
set_option maxHeartbeats 16000000
namespace Go.Proofs.YtagnicbknbmccaaGreatDoor
open Go.RowKit
theorem strInfoD:(Tryz.prog.info? 9).map (fun i=>(i.zero,i.size,i.bytes))=some (some (.string ⟨#[]⟩),1,16):=by kernel_rfl
theorem funcInfoD:(Tryz.prog.info? 33).map (fun i=>(i.zero,i.size,i.bytes))=some (some (.agg #[.string ⟨#[]⟩,.int .i64 0,.int .i64 0,.slice none 0 0,.int .i64 0,.slice none 0 0]),6,88):=by kernel_rfl
def outD (b:List UInt8):Option Cwr:=match (decodeD b).2 with
 |some i=>some ⟨130,i,none⟩
 |none=>rightC (decodeD b).1
structure PgOwn (W:World) (lo:Nat) (vf vg:Value) (xs:List (Cf×Fv)) (gs:List ByteArray):Prop where
 own1:W.ownsRow lo 33 6 vf xs.length (xs.flatMap fnCells)
 own2:W.ownsRow lo 9 1 vg gs.length (gs.map Value.string)
 fns:∀x∈xs,FnOwn W lo x
 n1:∀g,vf.ownBlock=some g→vg.ownBlock≠some g∧∀x∈xs,¬FnBlk x g
 n2:∀g,vg.ownBlock=some g→∀x∈xs,¬FnBlk x g
theorem PgOwn.pg {W:World} {lo:Nat} {vf vg:Value} {xs:List (Cf×Fv)} {gs:List ByteArray} (h:PgOwn W lo vf vg xs gs):∃n m fa fc ga gc,vf= .slice fa n fc∧vg= .slice ga m gc∧n≤fc∧m≤gc∧PgAt W ⟨xs.map Prod.fst,gs⟩ n m fa ga xs:=by
 obtain⟨fa,fc,rfl,_,_⟩:=row_form h.own1
 obtain⟨ga,gc,rfl,_,_⟩:=row_form h.own2
 exact⟨_,_,fa,fc,ga,gc,rfl,rfl,(own_rowA h.own1).2,(own_rowA h.own2).2,by simp,rfl,rfl,(own_rowA h.own1).1,(own_rowA h.own2).1,fun x hx=>(h.fns x hx).lies⟩
theorem PgOwn.keep {W W':World} {lo:Nat} {vf vg:Value} {xs:List (Cf×Fv)} {gs:List ByteArray} (h:PgOwn W lo vf vg xs gs) (hk:∀g,lo≤g→g<W.heap.size→W'.heap[g]? =W.heap[g]?):PgOwn W' lo vf vg xs gs:=
 ⟨own_keep h.own1 fun g hg=>hk g (h.own1.lt g hg).1 (h.own1.lt g hg).2,own_keep h.own2 fun g hg=>hk g (h.own2.lt g hg).1 (h.own2.lt g hg).2,fun x hx=>(h.fns x hx).keep fun g hg=>hk g ((h.fns x hx).lt hg).1 ((h.fns x hx).lt hg).2,h.n1,h.n2⟩
theorem PgOwn.less {W:World} {lo lo':Nat} {vf vg:Value} {xs:List (Cf×Fv)} {gs:List ByteArray} (h:PgOwn W lo vf vg xs gs) (hl:lo'≤lo):PgOwn W lo' vf vg xs gs:=
 ⟨Go.Joins.ownsRow_le h.own1 hl,Go.Joins.ownsRow_le h.own2 hl,fun x hx=>⟨Go.Joins.ownsRow_le (h.fns x hx).1 hl,Go.Joins.ownsRow_le (h.fns x hx).2 hl⟩,h.n1,h.n2⟩
theorem DcSt.pgOwn {w W0 W:World} {rb pb:Nat} {b:List UInt8} {vf vg:Value} {xs:List (Cf×Fv)} {gs:List ByteArray} {r:Drd} (h:DcSt w W0 rb pb b vf vg xs gs r W):PgOwn W W0.heap.size vf vg xs gs:=
 ⟨h.own1,h.own2,h.fns,fun g hg=>(h.n1 g hg).2,fun g hg=>(h.n2 g hg).2⟩
def ErrV (b:Nat):Value:= .tuple #[.agg #[.slice none 0 0,.slice none 0 0],.iface 42 (.pointer (some ⟨b,0,none⟩))]
def DecPost (w:World) (R:Option Cwr) (p:Cp) (e:Ending) (w':World):Prop:=Below w.heap.size w w'∧match R with
 |some c=>∃b,e= .returned (ErrV b)∧w.heap.size≤b∧WrAt w' b c.code c.at_ c.ins
 |none=>∃vf vg xs gs,e= .returned (.tuple #[.agg #[vf,vg],.nilIface])∧p=⟨xs.map Prod.fst,gs⟩∧PgOwn w' w.heap.size vf vg xs gs
theorem decE_result (tmps:Array Value) (W:World) (g:Nat) (v0 v1 v3:Value) (h2:tmps.getD 2 undef= .pointer (some ⟨g,0,none⟩)) (h3:tmps.getD 3 undef=v3) (e0:W.cell? ⟨g,0,none⟩=some v0) (e1:W.cell? ⟨g,1,none⟩=some v1):
  (results Tryz.f24 tmps).run Tryz.prog W= .ok (.tuple #[.agg #[v0,v1],v3]) W:=by
 have h2':tmps[2]?.getD undef= .pointer (some ⟨g,0,none⟩):=by simpa using h2
 have h3':tmps[3]?.getD undef=v3:=by simpa using h3
 have hres:Tryz.f24.results= #[ResultVar.cell 2 27,ResultVar.tmp 3]:=rfl
 simp[results,go_sem,h2',h3',e0,e1]
theorem magic_cons (m:UInt8) (l:List UInt8) (c:UInt8) (b:List UInt8) (i:Nat):magicAt (m::l) (c::b) i=if c=m then magicAt l b (i+1) else some i:=rfl
theorem dec_err {w W W':World} {c a:Int} {i:Option Int} {b:Nat} (hW:Below w.heap.size w W) (hrow:W.heap[w.heap.size]? =some (.cells #[.slice none 0 0,.slice none 0 0] 27 (0,0))) (h1:Below W.heap.size W W') (hl:W.heap.size≤b) (hw:WrAt W' b c a i) {p:Cp}:
  W'.cell? ⟨w.heap.size,0,none⟩=some (.slice none 0 0)∧W'.cell? ⟨w.heap.size,1,none⟩=some (.slice none 0 0)∧W'.frozen? ⟨w.heap.size,0,none⟩=false∧W'.frozen? ⟨w.heap.size,1,none⟩=false∧
  ∀v0 v1:Value,DecPost w (some ⟨c,a,i⟩) p (.returned (ErrV b)) ((W'.setCell ⟨w.heap.size,0,none⟩ v0).setCell ⟨w.heap.size,1,none⟩ v1):=by
 have hlt:=(Array.getElem?_eq_some_iff.1 hrow).1
 have hr:=(h1.block _ hlt).trans hrow
 refine⟨cell_of_row W' _ 0 _ _ _ hr,cell_of_row W' _ 1 _ _ _ hr,frozen_of_row W' _ 0 _ _ hr,frozen_of_row W' _ 1 _ _ hr,fun v0 v1=>⟨((hW.trans (h1.mono hW.size)).setCell (Nat.le_refl _) _).setCell (Nat.le_refl _) _,b,rfl,Nat.le_trans hW.size hl, ?_⟩⟩
 unfold WrAt
 rw[Below.heap_setCell _ _ _ _ (by show b≠w.heap.size;omega),Below.heap_setCell _ _ _ _ (by show b≠w.heap.size;omega)]
 exact hw
theorem decode_tame {b:List UInt8} (hbl:b.length≤2000000) (h:(decodeD b).2=none):Tame (decodeD b).1:=by
 obtain⟨_,h1,h2,h3,h4⟩:=decode_back (p:=(decodeD b).1) (Prod.ext rfl h)
 have e:∀s:ByteArray,s.data.toList.length=s.size:=fun s=>by rw[Array.length_toList];rfl
 have hf:∀f∈(decodeD b).1.funcs,f.name.size≤2000000∧f.code.length≤2000000∧(∀x∈f.code,x.text.size≤2000000)∧CfOk f:=fun f hf=>by
  obtain⟨a1,a2,a3,a4,a5,a6,a7,a8⟩:=h3 f hf
  rw[e] at a1
  have a9:∀x∈f.code,x.text.size≤2000000:=fun x hx=>by
   have:=(a8 x hx).2.2.2.2
   rw[e] at this
   omega
  exact⟨by omega,by omega,a9,by omega,a2,a3,a4,by omega,by omega,a7,fun x hx=>⟨(a8 x hx).1,(a8 x hx).2.1,(a8 x hx).2.2.1,(a8 x hx).2.2.2.1,by have:=a9 x hx;omega⟩⟩
 have hsum:∀l:List Cf,(∀f∈l,f.code.length≤2000000)→manySum l≤l.length*2000000:=fun l=>by
  induction l with
  |nil=>intro _;simp[manySum]
  |cons f r ih=>
   intro h
   have h1:=ih fun g hg=>h g (List.mem_cons_of_mem _ hg)
   have h2:=h f List.mem_cons_self
   rw[manySum,List.length_cons]
   omega
 refine⟨⟨by omega,by omega,fun f hm=>(hf f hm).2.2.2,fun s hs=>by have:=h4 s hs;rw[e] at this;omega⟩,fun f hm=>by have:=(hf f hm).1;omega,fun f hm x hx=>by have:=(hf f hm).2.2.1 x hx;omega, ?_⟩
 have:=hsum _ fun f hm=>(hf f hm).2.1
 omega
theorem decode_any {b:List UInt8} (hbl:b.length≤2000000) {w:World} (hG:Gc w):Calls Tryz.prog 24 #[.string ⟨⟨b⟩⟩] w (DecPost w (outD b) (decodeD b).1):=by
 have HGc:=Lib.hid hG
 obtain⟨R,HR⟩:∃R,Hid (outD b=R):=⟨_,rfl⟩
 obtain⟨p,HPP⟩:∃p,Hid ((decodeD b).1=p):=⟨_,rfl⟩
 rw[HR.out,HPP.out]
 obtain⟨n,hn⟩:∃n,b.length=n:=⟨_,rfl⟩
 have HN:=Lib.hid hn
 rw[hn] at hbl
 clear hG hn
 obtain⟨M,HM⟩:∃M,Hid (magicAt [71,67,48,49] b 0=M):=⟨_,rfl⟩
 have HRM:Hid (∀i,M=some i→R=some ⟨130,i,none⟩):=Lib.hid fun i hi=>by
  rw[←HR.out]
  unfold outD decodeD
  rw[HM.out,hi]
 go_enter Tryz.func24,Tryz.ntmps24
 go_wp2_with fail
 have HB00:Hid (Below w.heap.size w (w.alloc (.cells #[.slice none 0 0,.slice none 0 0] 27 (0,0)))):=Lib.hid ((Below.refl _ _).alloc (Nat.le_refl _) _)
 have HX00:Hid ((w.alloc (.cells #[.slice none 0 0,.slice none 0 0] 27 (0,0))).heap[w.heap.size]? =some (.cells #[.slice none 0 0,.slice none 0 0] 27 (0,0))):=Lib.hid (heap_alloc_new _ _)
 go_loopw [10] (fun i wr=>Hid (Below w.heap.size w wr)∧Hid (wr.heap[w.heap.size]? =some (.cells #[.slice none 0 0,.slice none 0 0] 27 (0,0)))∧wr.heap.size=w.heap.size+1∧∃k:Nat,i= .int .i64 k∧k≤4∧k≤n∧Hid (magicAt (([71,67,48,49]:List UInt8).drop k) (b.drop k) k=M)) (fun i _=>4-(intOf i).toNat)
 case atStart=>exact⟨HB00,HX00,by simp,0,rfl,by omega,by omega,HM⟩
 case round=>
  clear HB00 HX00
  obtain⟨HB0,HX,hwr,k,rfl,hk,hkn,HI⟩:=hrel
  have HBD:Hid (Below w.heap.size w wr.drew):=Lib.hid ⟨HB0.out.os,HB0.out.tape,HB0.out.output,HB0.out.size,HB0.out.block⟩
  have HXD:Hid (wr.drew.heap[w.heap.size]? =some (.cells #[.slice none 0 0,.slice none 0 0] 27 (0,0))):=Lib.hid HX.out
  by_cases hlt:k<4
  ·obtain⟨m,hm⟩:∃m,([71,67,48,49]:List UInt8)[k]? =some m:=⟨_,List.getElem?_eq_getElem (by simpa using hlt)⟩
   have hi:=HI.out
   rw[drop_cons hm] at hi
   have hix2:∀h,(⟨#[71,67,48,49]⟩:ByteArray)[k]'h=m:=fun h=>(List.getElem?_eq_some_iff.1 hm).2
   by_cases hkb:k<n
   ·obtain⟨c,hc⟩:∃c,b[k]? =some c:=⟨_,List.getElem?_eq_getElem (by rw[HN.out];exact hkb)⟩
    rw[drop_cons hc,magic_cons] at hi
    have hsz:(⟨⟨b⟩⟩:ByteArray).size=n:=HN.out
    have dn:decide (n≤k)=false:=decide_eq_false (by omega)
    have hix:∀h,(⟨⟨b⟩⟩:ByteArray)[k]'h=c:=fun h=>(List.getElem?_eq_some_iff.1 hc).2
    clear hc hm
    by_cases hcm:c=m
    ·subst hcm
     rw[if_pos rfl] at hi
     have HI2:=Lib.hid hi
     clear hi
     go_upto_region 4 with fail
     go_quiet (fail)
     go_wp2_with fail
     exact⟨⟨Lib.hid ⟨HB0.out.os,HB0.out.tape,HB0.out.output,HB0.out.size,HB0.out.block⟩,HX,hwr,k+1,by simp,by omega,by omega,HI2⟩,by simp[intOf];omega⟩
    ·rw[if_neg hcm] at hi
     have hR:=HRM.out k hi.symm
     subst hR
     have ene:((c.toNat:Int) !=(m.toNat:Int))=true:=by simpa using fun e=>hcm (UInt8.toNat_inj.1 (by omega))
     clear hi HI
     go_upto_region 4 with fail
     go_quiet (fail)
     go_wp2_with (go_at_call 35;refine(wrong_none 130 k _).mono ?_;intro e w3 hpost;obtain⟨b3,rfl,hb3,hl3,hw3⟩:=WrongPost.out hpost;clear hpost;obtain⟨c0,c1,f0,f1,hfin⟩:=dec_err (p:=p) (Lib.hid (Below.drewN' HB0.out _)).out HX.out hb3 hl3 hw3;have HFIN:=Lib.hid hfin;clear hfin hb3 hl3 hw3)
     refine bodyPost_ret (decE_result _ _ w.heap.size (.slice none 0 0) (.slice none 0 0) _ rfl rfl ?_ ?_) rfl (HFIN.out _ _)
     iterate 2 (·first|(simp[c0,c1];done)|(go_simp;done))
   ·obtain rfl:k=n:=by omega
    have hsz:(⟨⟨b⟩⟩:ByteArray).size=k:=HN.out
    have dn:decide (k≤k)=true:=decide_eq_true (Nat.le_refl _)
    have hR:=HRM.out k (by rw[show b.drop k=[] from List.drop_of_length_le (by rw[HN.out];exact Nat.le_refl _)] at hi;exact hi.symm)
    subst hR
    clear hi HI
    go_upto_region 4 with fail
    go_quiet (fail)
    go_wp2_with (go_at_call 35;refine(wrong_none 130 k _).mono ?_;intro e w3 hpost;obtain⟨b3,rfl,hb3,hl3,hw3⟩:=WrongPost.out hpost;clear hpost;obtain⟨c0,c1,f0,f1,hfin⟩:=dec_err (p:=p) (Lib.hid (Below.drewN' HB0.out _)).out HX.out hb3 hl3 hw3;have HFIN:=Lib.hid hfin;clear hfin hb3 hl3 hw3)
    refine bodyPost_ret (decE_result _ _ w.heap.size (.slice none 0 0) (.slice none 0 0) _ rfl rfl ?_ ?_) rfl (HFIN.out _ _)
    iterate 2 (·first|(simp[c0,c1];done)|(go_simp;done))
  ·obtain rfl:k=4:=by omega
   have hMn:M=none:=by rw[←HI.out];rfl
   subst hMn
   have HR0:Hid (RdAt (wr.alloc (.cells #[.string ⟨⟨b⟩⟩,.int .i64 4,.int .i64 (-1)] 101 (0,0))) (w.heap.size+1) b ⟨4,none⟩ (wr.alloc (.cells #[.string ⟨⟨b⟩⟩,.int .i64 4,.int .i64 (-1)] 101 (0,0)))):=Lib.hid ⟨⟨by have:=heap_alloc_new wr (.cells #[.string ⟨⟨b⟩⟩,.int .i64 4,.int .i64 (-1)] 101 (0,0));rw[hwr] at this;exact this,by rw[HN.out];omega⟩,Foot.refl _ _ _,by simp[hwr]⟩
   have HX0:Hid (((wr.alloc (.cells #[.string ⟨⟨b⟩⟩,.int .i64 4,.int .i64 (-1)] 101 (0,0))).alloc (.cells #[.slice none 0 0,.slice none 0 0] 27 (0,0))).heap[w.heap.size]? =some (.cells #[.slice none 0 0,.slice none 0 0] 27 (0,0))):=Lib.hid ((heap_alloc_old _ _ (by simp[hwr];omega)).trans ((heap_alloc_old _ _ (by omega)).trans HX.out))
   have HBW:Hid (Below w.heap.size w (wr.alloc (.cells #[.string ⟨⟨b⟩⟩,.int .i64 4,.int .i64 (-1)] 101 (0,0)))):=Lib.hid (HB0.out.alloc HB0.out.size _)
   obtain⟨W0,hW0⟩:∃W0,wr.alloc (.cells #[.string ⟨⟨b⟩⟩,.int .i64 4,.int .i64 (-1)] 101 (0,0))=W0:=⟨_,rfl⟩
   have hsz:W0.heap.size=w.heap.size+2:=by rw[←hW0,World.size_alloc,hwr]
   obtain⟨rb,hrb⟩:∃rb,w.heap.size+1=rb:=⟨_,rfl⟩
   go_upto_region 8 with fail
   simp only[hW0,hrb] at HR0 HX0 HBW⊢
   obtain⟨pb,hpb⟩:∃pb,w.heap.size+2=pb:=⟨_,rfl⟩
   rw[hpb] at hsz
   have HS1:Hid (DcSt w W0 rb pb b (.slice none 0 0) (.slice none 0 0) [] [] ⟨4,none⟩ (W0.alloc (.cells #[.slice none 0 0,.slice none 0 0] 27 (0,0)))):=Lib.hid
    ⟨HR0.out.alloc _,by rw[←hsz];exact⟨heap_alloc_new _ _,Nat.le_refl _⟩,HX0.out,World.ownsRow_nil _ _ _ _,World.ownsRow_nil _ _ _ _,fun x hx=>(by cases hx),fun g hg=>by simp[Value.ownBlock] at hg,fun g hg=>by simp[Value.ownBlock] at hg,fun x hx=>(by cases hx),by omega,by omega⟩
   obtain⟨m,hm,hml⟩:=many_nat HS1.out.rd.at_.le
   obtain⟨A,hA⟩:∃A,Hid (rowD (textD b) m (manyD b ⟨4,none⟩).2=A):=⟨_,rfl⟩
   have HM1:=Lib.hid hm
   go_upto_region 10 with(go_at_call 60;refine(many_any HS1.out.rd.at_ (by rw[HN.out];omega)).mono ?_;rintro e w1 ⟨rfl,hb1,hf1⟩;rw[HM1.out];have HS2:=Lib.hid (HS1.out.post hb1 hf1);clear hb1 hf1)
   rw[HN.out] at hml
   clear HX HB0 HBD HXD HR0 HX0 HS1 hm
   go_loopw [7] (fun s7 wr=>∃(k:Nat) (gs:List (List UInt8)) (r1:Drd) (vg:Value),s7= .int .i64 k∧k+gs.length≤2000000∧Hid (DcSt w W0 rb pb b (.slice none 0 0) vg [] (gs.map fun s=>⟨⟨s⟩⟩) r1 wr)∧Hid (gs++(rowD (textD b) k r1).1=A.1∧(rowD (textD b) k r1).2=A.2)) (fun s7 _=>(intOf s7).toNat)
   case atStart=>exact⟨m,[],_,_,rfl,by simp;omega,HS2,Lib.hid (by rw[hA.out];exact⟨rfl,rfl⟩)⟩
   case round=>
    clear HS2
    obtain⟨k,gs,r1,vg,rfl,hk,HS,HQ⟩:=hrel
    have y2:=HS.out.rd.at_.c2
    obtain⟨G,hG⟩:∃G,Hid ((decide (0<k)&&r1.bad.isNone)=G):=⟨_,rfl⟩
    go_upto_region 10 with fail
    go_cut [43] from 35 to 52 (fun s43 wx=>s43= .bool G∧wx=wr)
    case first=>
     cases k with
     |zero=>
      have d:decide ((0:Int)<((0:Nat):Int))=false:=rfl
      go_wp2_with fail
      go_meet
      exact⟨by rw[←hG.out];rfl,rfl⟩
     |succ k=>
      have d:decide (0<k+1)=true:=by simp
      cases hbad:r1.bad with
      |some i=>
       rw[hbad] at y2
       simp only[badI] at y2
       have d2:decide ((i:Int)<0)=false:=by simp
       go_wp2_with fail
       go_meet
       exact⟨by rw[←hG.out,hbad];simp,rfl⟩
      |none=>
       rw[hbad] at y2
       simp only[badI] at y2
       go_wp2_with fail
       go_meet
       exact⟨by rw[←hG.out,hbad];simp,rfl⟩
    case rest=>
     obtain⟨rfl,rfl⟩:=hcut
     cases G with
     |true=>
      obtain⟨k,rfl⟩:∃k',k=k'+1:=by
       cases k with
       |zero=>have:=hG.out;simp at this
       |succ k=>exact⟨k,rfl⟩
      have hbad:r1.bad=none:=by have:=hG.out;simpa using this
      have hq:=HQ.out
      rw[rowD,if_pos hbad] at hq
      dsimp only at hq
      clear hbad
      have HQ2:Hid ((gs++ [(textD b r1).1])++(rowD (textD b) k (textD b r1).2).1=A.1∧(rowD (textD b) k (textD b r1).2).2=A.2):=Lib.hid (by rw[←hq.1];exact⟨by simp,hq.2⟩)
      clear hq y2 HQ
      obtain⟨i0,hi,hz0,hz1,hz2⟩:=info_parts strInfoD
      go_upto_region 12 with fail
      have HS:=Lib.hid HS.out.drew
      have y3:=cell_of_row _ pb 1 _ _ _ HS.out.box.1
      have g3:=frozen_of_row _ pb 1 _ _ HS.out.box.1
      simp only[gq] at y3
      refine wp_region_G [7] (fun x=>x.cell? ⟨pb,1,none⟩=some (vg)∧x.frozen? ⟨pb,1,none⟩=false) (by rfl) ?_ (fun hHeld=> ?_)
      ·exact⟨y3,g3⟩
      refine tk 0 (h:=tk 1 (h:=tk 2 (h:= ?_)))
      try simp only[nmC]
      refine rd1 3 fun KK hKK=> ?_
      go_simp
      go_at_call 61
      refine(rtext_any HS.out.rd.at_ (by rw[HN.out];omega)).mono ?_
      rintro e wz ⟨rfl,hbz,hfz⟩
      have HS:=Lib.hid (HS.out.post hbz hfz)
      clear hbz hfz
      try dsimp only
      have y3:=cell_of_row _ pb 1 _ _ _ HS.out.box.1
      have g3:=frozen_of_row _ pb 1 _ _ HS.out.box.1
      simp only[gq] at y3
      refine hKK.out _ _ (⟨y3,g3⟩) (fun hHeld=> ?_)
      clear hKK KK
      try simp only[nmC]
      refine rd1 4 fun KK hKK=> ?_
      go_simp
      refine hKK.out _ _ (⟨(World.cell?_of_block (a:=⟨pb,1,none⟩) (heap_alloc_old _ _ HS.out.box.lt)).trans y3,(frozen_keep (heap_alloc_old _ _ HS.out.box.lt) 1).trans g3⟩) (fun hHeld=> ?_)
      clear hKK KK
      try simp only[nmC]
      refine rd1 5 fun KK hKK=> ?_
      refine step_append_lies _ rfl (.tmp 47) (.tmp 50) 25 rfl W0.heap.size 9 i0 _ 1 16 Tryz.underlying25 hi hz0 hz1 hz2 rfl (by decide) _ _ _ rfl (HS.out.own2.alloc _) ⟨_,0,none⟩ 1 1 [.string ⟨⟨(textD b r1).1⟩⟩] rfl rfl (fun k u hu=>news_at _ _ _ _ k u hu) (by intro u hu;simp at hu;subst hu;rfl) (by decide) (by unfold maxLen;(try simp);omega) (by(try simp);omega) (by have:=HS.out.rd.foot.size;simp;omega) _ rfl ?_
      intro g2 cap2 w2 ho2 hg2 hb2 hl2
      obtain⟨hb3,hs3⟩:=HS.out.push2 ho2 hg2 hb2
      have y3:=cell_of_row _ pb 1 _ _ _ hb3
      have g3:=frozen_of_row _ pb 1 _ _ hb3
      simp only[gq] at y3
      have HS3:=Lib.hid hs3
      clear hs3 hb3 ho2 hg2 hb2
      refine hKK.out _ _ (⟨y3,g3⟩) (fun hHeld=> ?_)
      clear hKK KK
      try simp only[nmC]
      refine tk 6 (h:= ?_)
      try simp only[nmC]
      refine rl1 7 fun KK hKK=> ?_
      go_simp
      refine hKK.out _ _ ?_
      clear hKK KK
      try simp only[nmC]
      refine wpAny_done (by kernel_rfl) ?_ _
      go_wp2_with fail
      go_roundw
      case rel=>exact⟨k,gs++ [(textD b r1).1],_,_,by simp,by simp only[List.length_append,List.length_cons,List.length_nil];omega,by simpa using HS3,HQ2⟩
      case measure=>simp[intOf]
     |false=>
      have hq:=HQ.out
      rw[rowD_stop _ _ _ hG.out,List.append_nil] at hq
      dsimp only at hq
      rw[hq.1,hq.2] at HS
      clear hq HQ hG y2
      obtain⟨m2,hm2,hml2⟩:=many_nat HS.out.rd.at_.le
      obtain⟨C,hC⟩:∃C,Hid (rowD (funcD b) m2 (manyD b A.2).2=C):=⟨_,rfl⟩
      have HM2:=Lib.hid hm2
      rw[HN.out] at hml2
      go_upto_region 14 with(go_at_call 60;refine(many_any HS.out.rd.at_ (by rw[HN.out];omega)).mono ?_;rintro e w1 ⟨rfl,hb1,hf1⟩;rw[HM2.out];have HS2:=Lib.hid (HS.out.post hb1 hf1);clear hb1 hf1)
      clear HS hm2
      go_loopw [8] (fun s8 wr=>∃(k:Nat) (xs:List (Cf×Fv)) (r1:Drd) (vf:Value),s8= .int .i64 k∧k+xs.length≤2000000∧Hid (DcSt w W0 rb pb b vf vg xs (A.1.map fun s=>⟨⟨s⟩⟩) r1 wr)∧Hid (xs.map Prod.fst++(rowD (funcD b) k r1).1=C.1∧(rowD (funcD b) k r1).2=C.2)) (fun s8 _=>(intOf s8).toNat)
      case atStart=>exact⟨m2,[],_,_,rfl,by simp;omega,HS2,Lib.hid (by rw[hC.out];exact⟨rfl,rfl⟩)⟩
      case round=>
       clear HS2
       obtain⟨k,xs,r1,vf,rfl,hk,HS,HQ⟩:=hrel
       have y2:=HS.out.rd.at_.c2
       obtain⟨G,hG⟩:∃G,Hid ((decide (0<k)&&r1.bad.isNone)=G):=⟨_,rfl⟩
       go_upto_region 14 with fail
       go_cut [63] from 55 to 72 (fun s63 wx=>s63= .bool G∧wx=wr)
       case first=>
        cases k with
        |zero=>
         have d:decide ((0:Int)<((0:Nat):Int))=false:=rfl
         go_wp2_with fail
         go_meet
         exact⟨by rw[←hG.out];rfl,rfl⟩
        |succ k=>
         have d:decide (0<k+1)=true:=by simp
         cases hbad:r1.bad with
         |some i=>
          rw[hbad] at y2
          simp only[badI] at y2
          have d2:decide ((i:Int)<0)=false:=by simp
          go_wp2_with fail
          go_meet
          exact⟨by rw[←hG.out,hbad];simp,rfl⟩
         |none=>
          rw[hbad] at y2
          simp only[badI] at y2
          go_wp2_with fail
          go_meet
          exact⟨by rw[←hG.out,hbad];simp,rfl⟩
       case rest=>
        obtain⟨rfl,rfl⟩:=hcut
        cases G with
        |true=>
         obtain⟨k,rfl⟩:∃k',k=k'+1:=by
          cases k with
          |zero=>have:=hG.out;simp at this
          |succ k=>exact⟨k,rfl⟩
         have hbad:r1.bad=none:=by have:=hG.out;simpa using this
         have hq:=HQ.out
         rw[rowD,if_pos hbad] at hq
         dsimp only at hq
         clear hbad
         have HQ2:Hid ((xs.map Prod.fst++ [(funcD b r1).1])++(rowD (funcD b) k (funcD b r1).2).1=C.1∧(rowD (funcD b) k (funcD b r1).2).2=C.2):=Lib.hid (by rw[←hq.1];exact⟨by simp,hq.2⟩)
         clear hq y2 HQ
         obtain⟨i0,hi,hz0,hz1,hz2⟩:=info_parts funcInfoD
         go_upto_region 16 with fail
         have HS:=Lib.hid HS.out.drew
         have y3:=cell_of_row _ pb 0 _ _ _ HS.out.box.1
         have g3:=frozen_of_row _ pb 0 _ _ HS.out.box.1
         simp only[gq] at y3
         refine wp_region_G [7] (fun x=>x.cell? ⟨pb,0,none⟩=some (vf)∧x.frozen? ⟨pb,0,none⟩=false) (by rfl) ?_ (fun hHeld=> ?_)
         ·exact⟨y3,g3⟩
         refine tk 0 (h:=tk 1 (h:=tk 2 (h:= ?_)))
         try simp only[nmC]
         refine rd1 3 fun KK hKK=> ?_
         go_simp
         go_at_call 62
         refine(function_any HS.out.rd.at_ (by rw[HN.out];omega)).mono ?_
         rintro e wz ⟨fv,rfl,hbz,hfz,hz1,hz2⟩
         have hpl:=HS.out.box.lt
         have hwl:=HS.out.rd.foot.size
         have HV1:Hid (∀g,vf.ownBlock=some g→g<wc.drew.heap.size):=Lib.hid fun g hg=>(HS.out.own1.lt g hg).2
         have HV2:Hid (∀g,vg.ownBlock=some g→g<wc.drew.heap.size):=Lib.hid fun g hg=>(HS.out.own2.lt g hg).2
         have HS:=Lib.hid (HS.out.post hbz hfz)
         have HFO:Hid (FnOwn wz wc.drew.heap.size ((funcD b r1).1,fv)):=Lib.hid ⟨hz1,hz2⟩
         clear hbz hfz hz1 hz2
         try dsimp only[fnV]
         have y3:=cell_of_row _ pb 0 _ _ _ HS.out.box.1
         have g3:=frozen_of_row _ pb 0 _ _ HS.out.box.1
         simp only[gq] at y3
         refine hKK.out _ _ (⟨y3,g3⟩) (fun hHeld=> ?_)
         clear hKK KK
         try simp only[nmC]
         refine rd1 4 fun KK hKK=> ?_
         go_simp
         refine hKK.out _ _ (⟨(World.cell?_of_block (a:=⟨pb,0,none⟩) (heap_alloc_old _ _ HS.out.box.lt)).trans y3,(frozen_keep (heap_alloc_old _ _ HS.out.box.lt) 0).trans g3⟩) (fun hHeld=> ?_)
         clear hKK KK
         try simp only[nmC]
         refine rd1 5 fun KK hKK=> ?_
         refine step_append_lies _ rfl (.tmp 67) (.tmp 70) 24 rfl W0.heap.size 33 i0 _ 6 88 Tryz.underlying24 hi hz0 hz1 hz2 rfl (by decide) _ _ _ rfl (HS.out.own1.alloc _) ⟨_,0,none⟩ 1 1 (fnCells ((funcD b r1).1,fv)) rfl rfl (fun k u hu=>news_at _ _ _ _ k u hu) (by intro u hu;simp[fnCells] at hu;rcases hu with rfl|rfl|rfl|rfl|rfl|rfl<;>rfl) (by decide) (by unfold maxLen;(try simp);omega) (by(try simp);omega) (by have:=HS.out.rd.foot.size;simp;omega) _ rfl ?_
         intro g2 cap2 w2 ho2 hg2 hb2 hl2
         obtain⟨hb3,hs3⟩:=HS.out.push1 HFO.out hpl hwl HV1.out HV2.out ho2 hg2 hb2
         have y3:=cell_of_row _ pb 0 _ _ _ hb3
         have g3:=frozen_of_row _ pb 0 _ _ hb3
         simp only[gq] at y3
         have HS3:=Lib.hid hs3
         clear hs3 hb3 ho2 hg2 hb2
         refine hKK.out _ _ (⟨y3,g3⟩) (fun hHeld=> ?_)
         clear hKK KK
         try simp only[nmC]
         refine tk 6 (h:= ?_)
         try simp only[nmC]
         refine rl1 7 fun KK hKK=> ?_
         go_simp
         refine hKK.out _ _ ?_
         clear hKK KK
         try simp only[nmC]
         refine wpAny_done (by kernel_rfl) ?_ _
         go_wp2_with fail
         go_roundw
         case rel=>exact⟨k,xs++ [((funcD b r1).1,fv)],_,_,by simp,by simp only[List.length_append,List.length_cons,List.length_nil];omega,HS3,by simpa using HQ2⟩
         case measure=>simp[intOf]
        |false=>
         have hq:=HQ.out
         rw[rowD_stop _ _ _ hG.out,List.append_nil] at hq
         dsimp only at hq
         rw[hq.2] at HS
         have HXS:=Lib.hid hq.1
         clear hq HQ hG y2
         have hdec:decodeD b=(⟨C.1,A.1.map fun s=>⟨⟨s⟩⟩⟩,(if C.2.bad=none∧C.2.at_<b.length then {C.2 with bad:=some C.2.at_} else C.2).bad):=by
          unfold decodeD
          rw[HM.out]
          dsimp only
          rw[HM1.out,Int.toNat_natCast,hA.out,HM2.out,Int.toNat_natCast,hC.out]
         have hpp:p=⟨xs.map Prod.fst,A.1.map fun s=>⟨⟨s⟩⟩⟩:=by rw[←HPP.out,hdec,←HXS.out]
         have HD:=Lib.hid hdec
         have hbw:Below w.heap.size w wc:=HBW.out.trans ⟨HS.out.rd.foot.os,HS.out.rd.foot.tape,HS.out.rd.foot.output,HS.out.rd.foot.size,fun k hk=>HS.out.rd.foot.block k (by omega) (by omega)⟩
         have HBE:=Lib.hid hbw
         have y1:=HS.out.rd.at_.c1
         have y2:=HS.out.rd.at_.c2
         have g2:=HS.out.rd.at_.f 2
         have hrbl:=HS.out.rd.at_.lt
         clear hdec hbw
         cases hbad:C.2.bad with
         |some i=>
          have hR:R=some ⟨130,i,none⟩:=by
           rw[←HR.out]
           unfold outD
           rw[HD.out,if_neg (by rw[hbad];simp)]
           simp only[hbad]
          subst hR
          rw[hbad] at y2
          simp only[badI] at y2
          have d1:decide ((i:Int)<0)=false:=by simp
          have d2:decide ((0:Int)≤(i:Int))=true:=by simp
          clear hbad
          go_wp2_with (go_at_call 35;refine(wrong_none 130 i _).mono ?_;intro e w3 hpost;obtain⟨b3,rfl,hb3,hl3,hw3⟩:=WrongPost.out hpost;clear hpost;obtain⟨c0,c1,f0,f1,hfin⟩:=dec_err (p:=p) HBE.out HS.out.res hb3 hl3 hw3;have HFIN:=Lib.hid hfin;clear hfin hb3 hl3 hw3)
          refine bodyPost_ret (decE_result _ _ w.heap.size (.slice none 0 0) (.slice none 0 0) _ rfl rfl ?_ ?_) rfl (HFIN.out _ _)
          iterate 2 (·first|(simp[c0,c1];done)|(go_simp;done))
         |none=>
          rw[hbad] at y2
          simp only[badI] at y2
          have hsz:(⟨⟨b⟩⟩:ByteArray).size=n:=HN.out
          obtain⟨at_,hat⟩:∃at_,C.2.at_=at_:=⟨_,rfl⟩
          rw[hat] at y1
          have HAT:=Lib.hid hat
          have HBAD:=Lib.hid hbad
          clear hbad hat
          by_cases hlt:at_<n
          ·have hR:R=some ⟨130,at_,none⟩:=by
            rw[←HR.out]
            unfold outD
            rw[HD.out,if_pos ⟨HBAD.out,by rw[HAT.out,HN.out];exact hlt⟩]
            simp only[HAT.out]
           subst hR
           have HBS:Hid (∀v,Below w.heap.size w (wc.setCell ⟨rb,2,none⟩ v)∧(wc.setCell ⟨rb,2,none⟩ v).heap[w.heap.size]? =some (.cells #[.slice none 0 0,.slice none 0 0] 27 (0,0))):=Lib.hid fun v=>⟨HBE.out.setCell (by show w.heap.size≤rb;omega) _,(Below.heap_setCell _ _ _ _ HS.out.n5).trans HS.out.res⟩
           have d2:decide ((0:Int)≤(at_:Int))=true:=by simp
           go_wp2_with (go_at_call 35;refine(wrong_none 130 at_ _).mono ?_;intro e w3 hpost;obtain⟨b3,rfl,hb3,hl3,hw3⟩:=WrongPost.out hpost;clear hpost;obtain⟨c0,c1,f0,f1,hfin⟩:=dec_err (p:=p) (HBS.out _).1 (HBS.out _).2 hb3 hl3 hw3;have HFIN:=Lib.hid hfin;clear hfin hb3 hl3 hw3)
           refine bodyPost_ret (decE_result _ _ w.heap.size (.slice none 0 0) (.slice none 0 0) _ rfl rfl ?_ ?_) rfl (HFIN.out _ _)
           iterate 2 (·first|(simp[c0,c1];done)|(go_simp;done))
          ·have d1:decide (at_<n)=false:=decide_eq_false hlt
           have hd2:(decodeD b).2=none:=by
            rw[HD.out,if_neg (by rw[HAT.out,HN.out];exact fun h=>hlt h.2)]
            exact HBAD.out
           have hR:R=rightC p:=by
            rw[←HR.out]
            unfold outD
            rw[hd2,HPP.out]
           have htm:=decode_tame (by rw[HN.out];exact hbl) hd2
           rw[HPP.out] at htm
           have HPO:=Lib.hid HS.out.pgOwn
           obtain⟨nf,ng,fa,fc,ga,gc,rfl,rfl,hn1,hn2,hpg⟩:=HS.out.pgOwn.pg
           rw[←hpp] at hpg
           have HRT:=Lib.hid (right_all hpg hn1 hn2 htm (HGc.out.up HBE.out))
           obtain⟨q0,q1⟩:=cr2 wc pb HS.out.box.1
           simp only[gq] at q0 q1
           have hpl:=HS.out.box.lt
           have HRR:=Lib.hid hR
           clear hR hd2 htm hpg
           cases hrc:rightC p with
           |some c=>
            rw[hrc] at HRT HRR
            have hR:=HRR.out
            subst hR
            clear hrc
            obtain⟨c1,c2,c3⟩:=c
            go_wp2_with (go_at_call 11;refine HRT.out.mono ?_;rintro e w5 ⟨hb5,b5,rfl,hl5,hw5⟩;obtain⟨c0,c1,f0,f1,hfin⟩:=dec_err (p:=p) HBE.out HS.out.res hb5 hl5 hw5;have HFIN:=Lib.hid hfin;clear hfin hb5 hl5 hw5)
            refine bodyPost_ret (decE_result _ _ w.heap.size (.slice none 0 0) (.slice none 0 0) _ rfl rfl ?_ ?_) rfl (HFIN.out _ _)
            iterate 2 (·first|(simp[c0,c1];done)|(go_simp;done))
           |none=>
            rw[hrc] at HRT HRR
            have hR:=HRR.out
            subst hR
            clear hrc
            go_wp2_with (go_at_call 11;refine HRT.out.mono ?_;rintro e w5 ⟨hb5,rfl⟩;have z0:=(World.cell?_of_block (w:=wc) (a:=⟨pb,0,none⟩) (hb5.block pb HS.out.box.lt)).trans q0;have z1:=(World.cell?_of_block (w:=wc) (a:=⟨pb,1,none⟩) (hb5.block pb HS.out.box.lt)).trans q1;have hr5:=(hb5.block w.heap.size (Array.getElem?_eq_some_iff.1 HS.out.res).1).trans HS.out.res;have c0:=cell_of_row w5 _ 0 _ _ _ hr5;have c1:=cell_of_row w5 _ 1 _ _ _ hr5;have f0:=frozen_of_row w5 _ 0 _ _ hr5;have f1:=frozen_of_row w5 _ 1 _ _ hr5;simp only[gq] at c0 c1;have HB5:=Lib.hid hb5;clear hb5 hr5)
            have hset:∀k,k≠w.heap.size→∀(v0 v1:Value),((w5.setCell ⟨w.heap.size,0,none⟩ v0).setCell ⟨w.heap.size,1,none⟩ v1).heap[k]? =w5.heap[k]? :=by
             intro k hk v0 v1
             iterate 2 rw[Below.heap_setCell _ _ _ _ hk]
            refine bodyPost_ret (decE_result _ _ w.heap.size (.slice fa nf fc) (.slice ga ng gc) _ rfl rfl ?_ ?_) rfl ⟨?_,_,_,xs,_,rfl,hpp, ?_⟩
            iterate 2 (·first|(simp[c0,c1];done)|(go_simp;done))
            ·exact((HBE.out.trans (HB5.out.mono HBE.out.size)).setCell (Nat.le_refl _) _).setCell (Nat.le_refl _) _
            ·refine(HPO.out.keep fun g h1 h2=> ?_).less (by omega)
             exact(hset g (by omega) _ _).trans (HB5.out.block g h2)
end Go.Proofs.YtagnicbknbmccaaGreatDoor
