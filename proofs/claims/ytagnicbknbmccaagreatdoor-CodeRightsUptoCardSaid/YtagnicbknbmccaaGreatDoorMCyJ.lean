/- (*Program).line of the first line, and of a function's line. guiseref13.body: a function's instructions, one by one. guiseref13.values: how many values an instruction takes and lays. guiseref13.fits: one round in plain form. -/
import Derived.Test.YtagnicbknbmccaaGreatDoorMCwF
import Derived.Test.YtagnicbknbmccaaGreatDoorSqC
import Derived.Test.YtagnicbknbmccaaGreatDoorMCyG
import Derived.Test.YtagnicbknbmccaaGreatDoorMRgF
import Derived.Test.YtagnicbknbmccaaGreatDoorMRgI
import Derived.Test.YtagnicbknbmccaaGreatDoorMCzV
import Derived.Test.YtagnicbknbmccaaGreatDoorMRgJ
import Derived.Test.YtagnicbknbmccaaGreatDoorRfH
import Derived.Test.YtagnicbknbmccaaGreatDoorMRfI
set_option maxRecDepth 100000
set_option maxHeartbeats 40000000
namespace Go.Proofs.YtagnicbknbmccaaGreatDoor
open Go.RowKit
def cellsS (l:List (List UInt8)):List Value:=l.map fun s=>Value.string ⟨⟨s⟩⟩
def SplitTo (S:ByteArray) (l:List (List UInt8)) (n:Nat):Prop:=∀V,Gc V→Calls Tryz.prog 108 #[.string S,.string ⟨#[32]⟩] V fun e V'=>e= .returned (.slice (some ⟨V.heap.size,0,none⟩) n n)∧V'=V.alloc (.cells (cellsS l).toArray 9)
theorem split_to (S:ByteArray) (l:List (List UInt8)) (n:Nat) (hn:Lib.countB S ⟨#[32]⟩+1=n) (hl:Lib.splitB ⟨#[32]⟩ 0 (Lib.countB S ⟨#[32]⟩) S=l.map fun s=>⟨⟨s⟩⟩) (hs:S.size≤1000000):SplitTo S l n:=fun V hV=>by
 obtain⟨m,hm⟩:=hV.max
 refine(Tryz.strings_Split S ⟨#[32]⟩ m V (by omega) hm (by decide)).mono ?_
 rintro e V' ⟨rfl,rfl⟩
 rw[hn,hl]
 exact⟨rfl,by simp[cellsS,Function.comp_def]⟩
theorem pline_globals {lo:Nat} {W0 W:World} {pb:Nat} (hl:Below lo W0 W) (hlp:lo≤pb) (hb:W.heap[pb]? =some (.cells #[.slice none 0 0,.slice none 0 0] 27 (0,0))) (hG:Gc W) {S:ByteArray} (hS:SplitTo S [[103,108,111,98,97,108,115]] 1):
  Calls Tryz.prog 66 #[.pointer (some ⟨pb,0,none⟩),.int .i64 0,.string S] W fun e W'=>e= .returned (.bool true)∧Below lo W0 W'∧∃ga gc,W'.heap[pb]? =some (.cells #[.slice none 0 0,.slice ga 0 gc] 27 (0,0)):=by
 have HSP:Hid (∀V,Gc V→Calls Tryz.prog 108 #[.string S,.string ⟨#[32]⟩] V fun e V'=>e= .returned (.slice (some ⟨V.heap.size,0,none⟩) 1 1)∧V'=V.alloc (.cells #[.string ⟨#[103,108,111,98,97,108,115]⟩] 9)):=Lib.hid hS
 have hpl:=(Array.getElem?_eq_some_iff.1 hb).1
 have HG:=Lib.hid hG
 have HL:=Lib.hid (hl.alloc (by omega) (.cells #[.string ⟨#[103,108,111,98,97,108,115]⟩] 9 (0,0)))
 have hb1:=(heap_alloc_old W (.cells #[.string ⟨#[103,108,111,98,97,108,115]⟩] 9 (0,0)) hpl).trans hb
 have hs1:=heap_alloc_new W (.cells #[.string ⟨#[103,108,111,98,97,108,115]⟩] 9 (0,0))
 clear hS hG hl hb
 go_enter Tryz.func66,Tryz.ntmps66
 go_upto_region 2 with(go_at_call 108;refine(HSP.out _ HG.out).mono ?_;rintro e w1 ⟨rfl,rfl⟩)
 obtain⟨sb,hsb⟩:∃sb,W.heap.size=sb:=⟨_,rfl⟩
 obtain⟨W1,hW1⟩:∃W1,W.alloc (.cells #[.string ⟨#[103,108,111,98,97,108,115]⟩] 9 (0,0))=W1:=⟨_,rfl⟩
 simp only[hsb,hW1] at HL hb1 hs1 hpl⊢
 have q0:=cell_of_row W1 sb 0 _ _ _ hs1
 obtain⟨p0,p1⟩:=cr2 W1 pb hb1
 have f1:=frozen_of_row W1 pb 1 _ _ hb1
 simp only[gq] at q0 p0 p1
 have HB:=Lib.hid hb1
 have hne:sb≠pb:=by omega
 clear hW1 hs1 hb1 HSP HG hsb
 go_wp2_with fail
 go_loopw [23] (fun i wr=>i= .int .i64 0∧wr=W1) (fun _ _=>0)
 case atStart=>exact⟨rfl,rfl⟩
 case round=>
  obtain⟨rfl,rfl⟩:=hrel
  go_wp2_with fail
  go_ret
  exact⟨rfl,HL.out.setCell hlp _,_,_,heap_setCell_same _ _ 1 _ _ _ HB.out⟩
def wrV:Option Cwr→Value
 |none=> .agg #[.int .i64 0,.int .i64 0,.string ⟨#[]⟩]
 |some c=> .agg #[.int .i64 c.code,.int .i64 c.at_,.string (insName c.ins)]
structure BdS (w W:World) (bp br:Nat) (pc:Array Value):Prop where
 low:Below w.heap.size w W
 hp:W.heap[bp]? =some (.cells pc 27 (0,0))
 hr:W.heap[br]? =some (.cells #[.int .i64 0,.int .i64 0,.string ⟨#[]⟩] 46 (0,0))
 ord:w.heap.size≤br
section
variable {w W W':World} {bp br:Nat} {pc:Array Value}
theorem BdS.under (h:BdS w W bp br pc) (hb:Below W.heap.size W W'):BdS w W' bp br pc:=
 ⟨h.low.trans (hb.mono h.low.size),(hb.block bp (Array.getElem?_eq_some_iff.1 h.hp).1).trans h.hp,(hb.block br (Array.getElem?_eq_some_iff.1 h.hr).1).trans h.hr,h.ord⟩
theorem BdS.rc (h:BdS w W bp br pc):W.cell? ⟨br,0,none⟩=some (.int .i64 0)∧W.cell? ⟨br,1,none⟩=some (.int .i64 0)∧W.cell? ⟨br,2,none⟩=some (.string ⟨#[]⟩)∧W.frozen? ⟨br,0,none⟩=false∧W.frozen? ⟨br,1,none⟩=false∧W.frozen? ⟨br,2,none⟩=false:=
 ⟨(cell_of_row W br 0 _ _ _ h.hr).trans rfl,(cell_of_row W br 1 _ _ _ h.hr).trans rfl,(cell_of_row W br 2 _ _ _ h.hr).trans rfl,frozen_of_row W br 0 _ _ h.hr,frozen_of_row W br 1 _ _ h.hr,frozen_of_row W br 2 _ _ h.hr⟩
theorem BdS.ret (h:BdS w W bp br pc) (v0 v1 v2:Value):(((W.setCell ⟨br,0,none⟩ v0).setCell ⟨br,1,none⟩ v1).setCell ⟨br,2,none⟩ v2).cell? ⟨br,0,none⟩=some v0∧(((W.setCell ⟨br,0,none⟩ v0).setCell ⟨br,1,none⟩ v1).setCell ⟨br,2,none⟩ v2).cell? ⟨br,1,none⟩=some v1∧(((W.setCell ⟨br,0,none⟩ v0).setCell ⟨br,1,none⟩ v1).setCell ⟨br,2,none⟩ v2).cell? ⟨br,2,none⟩=some v2∧
  Below w.heap.size w (((W.setCell ⟨br,0,none⟩ v0).setCell ⟨br,1,none⟩ v1).setCell ⟨br,2,none⟩ v2):=by
 have h3:=heap_setCell_same _ br 2 _ _ v2 (heap_setCell_same _ br 1 _ _ v1 (heap_setCell_same W br 0 _ _ v0 h.hr))
 exact⟨(cell_of_row _ br 0 _ _ _ h3).trans rfl,(cell_of_row _ br 1 _ _ _ h3).trans rfl,(cell_of_row _ br 2 _ _ _ h3).trans rfl,((h.low.setCell h.ord _).setCell h.ord _).setCell h.ord _⟩
end
def bodyC (p:Cp) (f:Nat) (o:Cf):Option Cwr:=if o.code=[] then some ⟨130,f,none⟩ else match fineFrom p f o.code 0 o.code with
 |some k=>some ⟨130,f,some k⟩
 |none=>none
def WvPost (r:Option Cwr) (w:World) (e:Ending) (w':World):Prop:=e= .returned (wrV r)∧Below w.heap.size w w'
theorem r13_body {p:Cp} {n m fc gc:Nat} {fa ga:Option Addr} {xs:List (Cf×Fv)} {w:World} (hp:PgAt w p n m fa ga xs) {f:Nat} {o:Cf} (ho:p.funcs[f]? =some o) (htx:∀x∈o.code,x.text.size≤4000000000) (hcl:o.code.length≤1000000):
  Calls Tryz.prog 50 #[.agg #[.slice fa n fc,.slice ga m gc],.int .i64 f] w (WvPost (bodyC p f o) w):=by
 obtain⟨R,hR⟩:∃R,bodyC p f o=R:=⟨_,rfl⟩
 rw[hR]
 have HPG:Hid (∀W,Below w.heap.size w W→PgAt W p n m fa ga xs):=Lib.hid fun W hb=>hp.rise hb
 obtain⟨g,off,fv,hfa,hlf,c0,c1,c2,c3,c4,c5⟩:=hp.func ho
 have hfn:f<n:=by rw[←hp.fn];exact(List.getElem?_eq_some_iff.1 ho).1
 have hgw:g<w.heap.size:=World.block_lt_of_cell? w ⟨g,off+f*6,none⟩ c0
 subst hfa
 obtain⟨tn,htn⟩:∃tn,o.taken.length=tn:=⟨_,rfl⟩
 obtain⟨cn,hcn⟩:∃cn,o.code.length=cn:=⟨_,rfl⟩
 rw[htn] at c3
 rw[hcn] at c5 hcl
 have HCN:=Lib.hid hcn
 have HFO:=Lib.hid ho
 have HTX:=Lib.hid htx
 have HLF:=Lib.hid hlf
 clear htn hcn ho htx hlf hp
 unfold WvPost
 by_cases h0:cn=0
 ·have hr:R=some ⟨130,f,none⟩:=by rw[←hR];unfold bodyC;rw[if_pos (List.eq_nil_of_length_eq_zero (HCN.out.trans h0))]
  subst hr
  clear hR
  have HC0:((cn:Int)==0)=true:=by simp;omega
  clear h0
  go_enter Tryz.func50,Tryz.ntmps50
  go_upto_region 2 with fail
  obtain⟨k1,k2,k3,kb,_⟩:=below3 w (.cells #[.slice (some ⟨g,off,none⟩) n fc,.slice ga m gc] 27 (0,0)) (.cells #[.int .i64 0,.int .i64 0,.string ⟨#[]⟩] 46 (0,0)) (.cells #[.string o.name,.int .i64 o.params,.int .i64 o.slots,.slice fv.ta tn fv.tc,.int .i64 o.around,.slice fv.ca cn fv.cc] 33 (0,0))
  obtain⟨W3,hW3⟩:∃W3,((w.alloc (.cells #[.slice (some ⟨g,off,none⟩) n fc,.slice ga m gc] 27 (0,0))).alloc (.cells #[.int .i64 0,.int .i64 0,.string ⟨#[]⟩] 46 (0,0))).alloc (.cells #[.string o.name,.int .i64 o.params,.int .i64 o.slots,.slice fv.ta tn fv.tc,.int .i64 o.around,.slice fv.ca cn fv.cc] 33 (0,0))=W3:=⟨_,rfl⟩
  simp only[hW3] at k1 k2 k3 kb⊢
  obtain⟨bp,hbp⟩:∃bp,w.heap.size=bp:=⟨_,rfl⟩
  have HS0:BdS w W3 w.heap.size (w.heap.size+1) #[.slice (some ⟨g,off,none⟩) n fc,.slice ga m gc]:=⟨kb,k1,k2,by omega⟩
  rw[hbp] at HS0
  obtain⟨br,hbr⟩:∃br,bp+1=br:=⟨_,rfl⟩
  obtain⟨bx,hbx⟩:∃bx,br+1=bx:=⟨_,rfl⟩
  simp only[hbp] at k1 k2 k3⊢
  simp only[hbr] at k2 k3 HS0⊢
  simp only[hbx] at k3⊢
  have HS:=Lib.hid HS0
  have HXB:=Lib.hid k3
  obtain⟨y0,y1⟩:=cr2 W3 _ HS0.hp
  have f5:=cell_of_row W3 _ 5 _ _ _ k3
  simp only[gq] at y0 y1 f5
  obtain⟨r0,r1,r2,z0,z1,z2⟩:=HS0.rc
  clear HS0 k1 k2 k3 kb hW3 hbp hbr hbx c0 c1 c2 c3 c4 c5
  go_wp2_with (go_at_call 48;refine(r13_no _ _ _).mono ?_;rintro e w9 ⟨rfl,hb⟩;have HS9:=Lib.hid (HS.out.under hb);obtain⟨r0,r1,r2,z0,z1,z2⟩:=HS9.out.rc;clear hb)
  obtain⟨e0,e1,e2,hbw⟩:=HS9.out.ret (.int .i64 130) (.int .i64 f) (.string ⟨#[]⟩)
  exact bodyPost_ret (wrong_result rfl _ _ br _ _ _ rfl e0 e1 e2) rfl ⟨rfl,hbw⟩
 ·obtain⟨gc',oc,hca,hgl,hcells⟩:=HLF.out.2.1.at (by rw[flat_len ins_len,HCN.out];omega)
  have HCL:Hid (∀W,Below w.heap.size w W→∀(k:Nat) (x:Ci),o.code[k]? =some x→W.cell? ⟨gc',oc+k*5,none⟩=some (.int .i64 x.op)∧W.cell? ⟨gc',oc+k*5+1,none⟩=some (.int .i64 x.a)∧W.cell? ⟨gc',oc+k*5+2,none⟩=some (.int .i64 x.b)∧W.cell? ⟨gc',oc+k*5+3,none⟩=some (.string x.text)∧W.cell? ⟨gc',oc+k*5+4,none⟩=some (.int .i64 x.at_)):=Lib.hid fun W hb k x hx=>by
   obtain⟨d0,d1,d2,d3,d4⟩:=ins_at hcells hx
   have hc:∀j v,w.cell? ⟨gc',j,none⟩=some v→W.cell? ⟨gc',j,none⟩=some v:=fun j v h=>(hb.cell (p:=⟨gc',j,none⟩) hgl).trans h
   exact⟨hc _ _ d0,hc _ _ d1,hc _ _ d2,hc _ _ d3,hc _ _ d4⟩
  rw[hca] at c5
  have hRF:(match fineFrom p f o.code 0 (o.code.drop 0) with
   |some k=>some (⟨130,f,some k⟩:Cwr)
   |none=>none)=R:=by rw[←hR,List.drop_zero];unfold bodyC;rw[if_neg (fun e=>by rw[e] at HCN;exact h0 HCN.out.symm)]
  have HRF:=Lib.hid hRF
  have HC0:((cn:Int)==0)=false:=by simp;omega
  clear hR hRF hcells h0 hgl
  go_enter Tryz.func50,Tryz.ntmps50
  go_upto_region 2 with fail
  obtain⟨k1,k2,k3,kb,_⟩:=below3 w (.cells #[.slice (some ⟨g,off,none⟩) n fc,.slice ga m gc] 27 (0,0)) (.cells #[.int .i64 0,.int .i64 0,.string ⟨#[]⟩] 46 (0,0)) (.cells #[.string o.name,.int .i64 o.params,.int .i64 o.slots,.slice fv.ta tn fv.tc,.int .i64 o.around,.slice (some ⟨gc',oc,none⟩) cn fv.cc] 33 (0,0))
  obtain⟨W3,hW3⟩:∃W3,((w.alloc (.cells #[.slice (some ⟨g,off,none⟩) n fc,.slice ga m gc] 27 (0,0))).alloc (.cells #[.int .i64 0,.int .i64 0,.string ⟨#[]⟩] 46 (0,0))).alloc (.cells #[.string o.name,.int .i64 o.params,.int .i64 o.slots,.slice fv.ta tn fv.tc,.int .i64 o.around,.slice (some ⟨gc',oc,none⟩) cn fv.cc] 33 (0,0))=W3:=⟨_,rfl⟩
  simp only[hW3] at k1 k2 k3 kb⊢
  obtain⟨bp,hbp⟩:∃bp,w.heap.size=bp:=⟨_,rfl⟩
  have HS0:BdS w W3 w.heap.size (w.heap.size+1) #[.slice (some ⟨g,off,none⟩) n fc,.slice ga m gc]:=⟨kb,k1,k2,by omega⟩
  rw[hbp] at HS0
  obtain⟨br,hbr⟩:∃br,bp+1=br:=⟨_,rfl⟩
  obtain⟨bx,hbx⟩:∃bx,br+1=bx:=⟨_,rfl⟩
  simp only[hbp] at k1 k2 k3⊢
  simp only[hbr] at k2 k3 HS0⊢
  simp only[hbx] at k3⊢
  have HS:=Lib.hid HS0
  have HXB:=Lib.hid k3
  obtain⟨y0,y1⟩:=cr2 W3 _ HS0.hp
  have f5:=cell_of_row W3 _ 5 _ _ _ k3
  simp only[gq] at y0 y1 f5
  obtain⟨r0,r1,r2,z0,z1,z2⟩:=HS0.rc
  clear HS0 k1 k2 k3 kb hW3 hbp hbr hbx c0 c1 c2 c3 c4 c5
  go_upto_region 4 with fail
  go_wp2_with fail
  go_loopw [6] (fun i wr=>∃k:Nat,i= .int .i64 k∧k≤cn∧Hid (BdS w wr bp br #[.slice (some ⟨g,off,none⟩) n fc,.slice ga m gc])∧Hid (wr.heap[bx]? =some (.cells #[.string o.name,.int .i64 o.params,.int .i64 o.slots,.slice fv.ta tn fv.tc,.int .i64 o.around,.slice (some ⟨gc',oc,none⟩) cn fv.cc] 33 (0,0)))∧Hid ((match fineFrom p f o.code k (o.code.drop k) with
   |some k=>some (⟨130,f,some k⟩:Cwr)
   |none=>none)=R)) (fun i _=>cn-(intOf i).toNat)
  case atStart=>exact⟨0,rfl,Nat.zero_le _,HS,HXB,HRF⟩
  case round=>
   clear HS HXB HRF y0 y1 f5 r0 r1 r2 z0 z1 z2
   obtain⟨k,rfl,hk,HS,HXB,HRF⟩:=hrel
   have f5:=cell_of_row wr _ 5 _ _ _ HXB.out
   simp only[gq] at f5
   by_cases hlt:k<cn
   ·obtain⟨x,hx⟩:∃x,o.code[k]? =some x:=⟨_,List.getElem?_eq_getElem (by rw[HCN.out];exact hlt)⟩
    have HXK:=Lib.hid hx
    obtain⟨d0,d1,d2,d3,d4⟩:=HCL.out wr HS.out.low k x hx
    have HDG:Hid (∀W,Calls Tryz.prog 94 #[.int .i64 k] W fun e w'=>e= .returned (.string ⟨⟨Lib.itoa k⟩⟩)∧Below W.heap.size W w'):=Lib.hid fun W=>r6_Digits k ⟨by omega,by omega⟩ W
    have hdr:o.code.drop k=x::o.code.drop (k+1):=by
     rw[List.drop_eq_getElem_cons (by rw[HCN.out];exact hlt)]
     congr 1
     exact(List.getElem?_eq_some_iff.1 hx).2
    have hbad:fineR p f o k x=false→R=some ⟨130,f,some k⟩:=fun h=>by
     have:=HRF.out
     rw[hdr,fineFrom_cons,fineR_eq HFO.out,h] at this
     exact this.symm
    have hgood:fineR p f o k x=true→Hid ((match fineFrom p f o.code (k+1) (o.code.drop (k+1)) with
     |some k=>some (⟨130,f,some k⟩:Cwr)
     |none=>none)=R):=fun h=>Lib.hid (by
     have:=HRF.out
     rw[hdr,fineFrom_cons,fineR_eq HFO.out,h] at this
     exact this)
    have HBAD:=Lib.hid hbad
    have HGOOD:=Lib.hid hgood
    have hts:x.text.data.toList.length≤4000000000:=by have:=HTX.out x (List.mem_of_getElem? hx);simpa using this
    clear hx hdr hbad hgood HRF
    obtain⟨op,a,b,tx,q⟩:=x
    obtain⟨⟨s⟩⟩:=tx
    dsimp only at d0 d1 d2 d3 d4 hts
    have HFR:Hid (fineR p f o k ⟨op,a,b,⟨⟨s⟩⟩,q⟩=((decide (1≤op)&&decide (op≤53)&&decide (0≤q)&&decide (q≤60000))&&(numbersR p f o ⟨op,a,b,⟨⟨s⟩⟩,q⟩&&(textR ⟨op,a,b,⟨⟨s⟩⟩,q⟩&&(!(jumpsR op&&decide (a≤(k:Int))&& !(match o.code[a.toNat]? with
     |none=>false
     |some y=>y.op==1||y.op==2))&&(decide (k+1<cn)||(op==50||op==34))))))):=Lib.hid (by rw[←HCN.out];rfl)
    have hAl:∀(i:Nat),i<cn→∃y,o.code[i]? =some y:=fun i hi=>⟨_,List.getElem?_eq_getElem (by rw[HCN.out];exact hi)⟩
    have HAL:=Lib.hid hAl
    clear hAl
    go_upto_region 8 with fail
    have hA1:Below wr.heap.size wr (wr.alloc (.cells #[.int .i64 op,.int .i64 a,.int .i64 b,.string ⟨⟨s⟩⟩,.int .i64 q] 36 (0,0))):=(Below.refl _ _).alloc (Nat.le_refl _) _
    have hS1:=HS.out.under hA1
    have hX1:(wr.alloc (.cells #[.int .i64 op,.int .i64 a,.int .i64 b,.string ⟨⟨s⟩⟩,.int .i64 q] 36 (0,0))).heap[bx]? =some (.cells #[.string o.name,.int .i64 o.params,.int .i64 o.slots,.slice fv.ta tn fv.tc,.int .i64 o.around,.slice (some ⟨gc',oc,none⟩) cn fv.cc] 33 (0,0)):=(hA1.block bx (Array.getElem?_eq_some_iff.1 HXB.out).1).trans HXB.out
    have hI1:=heap_alloc_new wr (.cells #[.int .i64 op,.int .i64 a,.int .i64 b,.string ⟨⟨s⟩⟩,.int .i64 q] 36 (0,0))
    obtain⟨bi,hbi⟩:∃bi,wr.heap.size=bi:=⟨_,rfl⟩
    obtain⟨W1,hW1⟩:∃W1,wr.alloc (.cells #[.int .i64 op,.int .i64 a,.int .i64 b,.string ⟨⟨s⟩⟩,.int .i64 q] 36 (0,0))=W1:=⟨_,rfl⟩
    simp only[hbi,hW1] at hS1 hX1 hI1⊢
    have HS1:=Lib.hid hS1
    have HX1:=Lib.hid hX1
    have HI1:=Lib.hid hI1
    clear hA1 hS1 hX1 hI1 hW1 hbi d0 d1 d2 d3 d4 f5 HS HXB
    go_upto_region 9 with(go_at_call 94;refine(HDG.out _).mono ?_;rintro e w2 ⟨rfl,hb⟩;have HS2:=Lib.hid (HS1.out.under hb);have HX2:Hid (w2.heap[bx]? =some (.cells #[.string o.name,.int .i64 o.params,.int .i64 o.slots,.slice fv.ta tn fv.tc,.int .i64 o.around,.slice (some ⟨gc',oc,none⟩) cn fv.cc] 33 (0,0))):=Lib.hid ((hb.block bx (Array.getElem?_eq_some_iff.1 HX1.out).1).trans HX1.out);have HI2:=Lib.hid ((hb.block bi (Array.getElem?_eq_some_iff.1 HI1.out).1).trans HI1.out);clear hb)
    clear HS1 HX1 HI1 HDG
    obtain⟨i0,i1,i2,i3,i4⟩:=cr5 w2 bi HI2.out
    have f5:=cell_of_row w2 bx 5 _ _ _ HX2.out
    obtain⟨y0,y1⟩:=cr2 w2 bp HS2.out.hp
    simp only[gq] at i0 i1 i2 i3 i4 f5 y0 y1
    by_cases c1:1≤op∧op≤53∧0≤q∧q≤60000
    ·obtain⟨c11,c12,c13,c14⟩:=c1
     have b1:decide (op<1)=false:=by simp;omega
     have b2:decide (53<op)=false:=by simp;omega
     have b3:decide (q<0)=false:=by simp;omega
     have b4:decide (60000<q)=false:=by simp;omega
     have HC1:Hid ((decide (1≤op)&&decide (op≤53)&&decide (0≤q)&&decide (q≤60000))=true):=Lib.hid (by rw[decide_eq_true c11,decide_eq_true c12,decide_eq_true c13,decide_eq_true c14];rfl)
     have HNC:Hid (Calls Tryz.prog 95 #[.agg #[.slice (some ⟨g,off,none⟩) n fc,.slice ga m gc],.int .i64 f,.agg #[.int .i64 op,.int .i64 a,.int .i64 b,.string ⟨⟨s⟩⟩,.int .i64 q]] w2 fun e w'=>e= .returned (.bool (numbersR p f o ⟨op,a,b,⟨⟨s⟩⟩,q⟩))∧Below w2.heap.size w2 w'):=Lib.hid (r13_numbers (HPG.out _ HS2.out.low) HFO.out op a b q ⟨⟨s⟩⟩ ⟨c11,c12⟩)
     clear c11 c12 c13 c14
     cases hnum:numbersR p f o ⟨op,a,b,⟨⟨s⟩⟩,q⟩ with
     |false=>
      have hr:=HBAD.out (by rw[HFR.out,hnum,HC1.out];rfl)
      subst hr
      have HNUM:=Lib.hid hnum
      clear hnum HBAD HGOOD HFR
      go_upto_region 12 with(go_at_call 95;refine HNC.out.mono ?_;rintro e w3 ⟨rfl,hb⟩;rw[HNUM.out];have HS3:=Lib.hid (HS2.out.under hb);have HX3:Hid (w3.heap[bx]? =some (.cells #[.string o.name,.int .i64 o.params,.int .i64 o.slots,.slice fv.ta tn fv.tc,.int .i64 o.around,.slice (some ⟨gc',oc,none⟩) cn fv.cc] 33 (0,0))):=Lib.hid ((hb.block bx (Array.getElem?_eq_some_iff.1 HX2.out).1).trans HX2.out);have HI3:=Lib.hid ((hb.block bi (Array.getElem?_eq_some_iff.1 HI2.out).1).trans HI2.out);clear hb)
      clear i0 i1 i2 i3 i4 f5 y0 y1 HS2 HX2 HI2
      obtain⟨i0,i1,i2,i3,i4⟩:=cr5 w3 bi HI3.out
      have f5:=cell_of_row w3 bx 5 _ _ _ HX3.out
      obtain⟨y0,y1⟩:=cr2 w3 bp HS3.out.hp
      simp only[gq] at i0 i1 i2 i3 i4 f5 y0 y1
      go_wp2_with (go_at_call 48;refine(r13_no _ _ _).mono ?_;rintro e w9 ⟨rfl,hb⟩;have HS9:=Lib.hid (HS3.out.under hb);obtain⟨r0,r1,r2,z0,z1,z2⟩:=HS9.out.rc;clear hb)
      obtain⟨e0,e1,e2,hbw⟩:=HS9.out.ret (.int .i64 130) (.int .i64 f) (.string ⟨⟨Lib.itoa k⟩⟩)
      exact bodyPost_ret (wrong_result rfl _ _ br _ _ _ rfl e0 e1 e2) rfl ⟨rfl,hbw⟩
     |true=>
      have HNUM:=Lib.hid hnum
      have h29:op=29→0≤a∧a≤1000:=fun e=>by
       subst e
       have h1:((false||b==0)&&betw a 31)=true:=hnum
       simp only[Bool.and_eq_true] at h1
       have h2:=h1.2
       unfold betw at h2
       simp only[Bool.and_eq_true,decide_eq_true_eq] at h2
       omega
      have hjr:jumpsR op=true→0≤a∧a<cn:=fun e=>by
       have h1:betw a o.code.length=true:=by
        unfold jumpsR at e
        simp only[Bool.or_eq_true,Bool.and_eq_true,decide_eq_true_eq,beq_iff_eq] at e
        have h3:op=34∨op=35∨op=36∨op=37∨op=52:=by omega
        rcases h3 with rfl|rfl|rfl|rfl|rfl
        all_goals
         have h4:((false||b==0)&&betw a o.code.length)=true:=hnum
         simp only[Bool.and_eq_true] at h4
         exact h4.2
       rw[HCN.out] at h1
       unfold betw at h1
       simp only[Bool.and_eq_true,decide_eq_true_eq] at h1
       exact h1
      have HJR:=Lib.hid hjr
      have HTC:Hid (∀W,Calls Tryz.prog 96 #[.agg #[.int .i64 op,.int .i64 a,.int .i64 b,.string ⟨⟨s⟩⟩,.int .i64 q]] W (TxtPost op a b q s W)):=Lib.hid fun W=>r13_text a b q s hts W op h29
      clear hnum h29 hjr
      go_upto_region 12 with(go_at_call 95;refine HNC.out.mono ?_;rintro e w3 ⟨rfl,hb⟩;rw[HNUM.out];have HS3:=Lib.hid (HS2.out.under hb);have HX3:Hid (w3.heap[bx]? =some (.cells #[.string o.name,.int .i64 o.params,.int .i64 o.slots,.slice fv.ta tn fv.tc,.int .i64 o.around,.slice (some ⟨gc',oc,none⟩) cn fv.cc] 33 (0,0))):=Lib.hid ((hb.block bx (Array.getElem?_eq_some_iff.1 HX2.out).1).trans HX2.out);have HI3:=Lib.hid ((hb.block bi (Array.getElem?_eq_some_iff.1 HI2.out).1).trans HI2.out);clear hb)
      clear i0 i1 i2 i3 i4 f5 y0 y1 HS2 HX2 HI2
      obtain⟨i0,i1,i2,i3,i4⟩:=cr5 w3 bi HI3.out
      have f5:=cell_of_row w3 bx 5 _ _ _ HX3.out
      obtain⟨y0,y1⟩:=cr2 w3 bp HS3.out.hp
      simp only[gq] at i0 i1 i2 i3 i4 f5 y0 y1
      cases htxt:textR ⟨op,a,b,⟨⟨s⟩⟩,q⟩ with
      |false=>
       have hr:=HBAD.out (by rw[HFR.out,htxt,HC1.out,HNUM.out];rfl)
       subst hr
       have HTXT:=Lib.hid htxt
       clear htxt HBAD HGOOD HFR
       go_upto_region 15 with(go_at_call 96;refine(HTC.out _).mono ?_;rintro e w4 ⟨rfl,hb⟩;rw[HTXT.out];have HS4:=Lib.hid (HS3.out.under hb);have HX4:Hid (w4.heap[bx]? =some (.cells #[.string o.name,.int .i64 o.params,.int .i64 o.slots,.slice fv.ta tn fv.tc,.int .i64 o.around,.slice (some ⟨gc',oc,none⟩) cn fv.cc] 33 (0,0))):=Lib.hid ((hb.block bx (Array.getElem?_eq_some_iff.1 HX3.out).1).trans HX3.out);have HI4:=Lib.hid ((hb.block bi (Array.getElem?_eq_some_iff.1 HI3.out).1).trans HI3.out);clear hb)
       clear i0 i1 i2 i3 i4 f5 y0 y1 HS3 HX3 HI3
       obtain⟨i0,i1,i2,i3,i4⟩:=cr5 w4 bi HI4.out
       have f5:=cell_of_row w4 bx 5 _ _ _ HX4.out
       obtain⟨y0,y1⟩:=cr2 w4 bp HS4.out.hp
       simp only[gq] at i0 i1 i2 i3 i4 f5 y0 y1
       go_upto_region 16 with(go_at_call 97;refine(r13_jumps _ _).mono ?_;rintro e w5 ⟨rfl,h5⟩;subst h5)
       go_wp2_with (go_at_call 48;refine(r13_no _ _ _).mono ?_;rintro e w9 ⟨rfl,hb⟩;have HS9:=Lib.hid (HS4.out.under hb);obtain⟨r0,r1,r2,z0,z1,z2⟩:=HS9.out.rc;clear hb)
       obtain⟨e0,e1,e2,hbw⟩:=HS9.out.ret (.int .i64 130) (.int .i64 f) (.string ⟨⟨Lib.itoa k⟩⟩)
       exact bodyPost_ret (wrong_result rfl _ _ br _ _ _ rfl e0 e1 e2) rfl ⟨rfl,hbw⟩
      |true=>
       have HTXT:=Lib.hid htxt
       clear htxt
       go_upto_region 15 with(go_at_call 96;refine(HTC.out _).mono ?_;rintro e w4 ⟨rfl,hb⟩;rw[HTXT.out];have HS4:=Lib.hid (HS3.out.under hb);have HX4:Hid (w4.heap[bx]? =some (.cells #[.string o.name,.int .i64 o.params,.int .i64 o.slots,.slice fv.ta tn fv.tc,.int .i64 o.around,.slice (some ⟨gc',oc,none⟩) cn fv.cc] 33 (0,0))):=Lib.hid ((hb.block bx (Array.getElem?_eq_some_iff.1 HX3.out).1).trans HX3.out);have HI4:=Lib.hid ((hb.block bi (Array.getElem?_eq_some_iff.1 HI3.out).1).trans HI3.out);clear hb)
       clear i0 i1 i2 i3 i4 f5 y0 y1 HS3 HX3 HI3
       obtain⟨i0,i1,i2,i3,i4⟩:=cr5 w4 bi HI4.out
       have f5:=cell_of_row w4 bx 5 _ _ _ HX4.out
       obtain⟨y0,y1⟩:=cr2 w4 bp HS4.out.hp
       simp only[gq] at i0 i1 i2 i3 i4 f5 y0 y1
       have hw1:IntKind.i64.wrap ((cn:Int)-1)=(cn:Int)-1:=by rw[IntKind.wrap_i64];omega
       cases hj:jumpsR op with
       |false=>
        have HJ:=Lib.hid hj
        have HFJ:Hid (fineR p f o k ⟨op,a,b,⟨⟨s⟩⟩,q⟩=(decide (k+1<cn)||(op==50||op==34))):=Lib.hid (by rw[HFR.out,HC1.out,HNUM.out,HTXT.out,hj];rfl)
        clear hj HFR HC1 HNUM HTXT HJR HTC HNC
        go_upto_region 16 with(go_at_call 97;refine(r13_jumps _ _).mono ?_;rintro e w5 ⟨rfl,h5⟩;subst h5;rw[HJ.out])
        by_cases hl:k+1<cn
        ·have HG:=HGOOD.out (by rw[HFJ.out,decide_eq_true hl];rfl)
         have bl:((k:Int)==(cn:Int)-1)=false:=by simp;omega
         clear HBAD HGOOD HFJ
         go_wp2_with fail
         go_roundw
         case rel=>exact⟨k+1,by simp,by omega,HS4,HX4,HG⟩
         case measure=>simp[intOf];omega
        ·have bl:((k:Int)==(cn:Int)-1)=true:=by simp;omega
         cases e50:(op==50) with
         |true=>
          have HG:=HGOOD.out (by rw[HFJ.out,e50];simp)
          have e50n:(op !=50)=false:=by simp only[bne,e50];rfl
          clear HBAD HGOOD HFJ
          go_wp2_with fail
          go_roundw
          case rel=>exact⟨k+1,by simp,by omega,HS4,HX4,HG⟩
          case measure=>simp[intOf];omega
         |false=>
          have e50n:(op !=50)=true:=by simp only[bne,e50];rfl
          cases e34:(op==34) with
          |true=>
           have HG:=HGOOD.out (by rw[HFJ.out,e34];simp)
           have e34n:(op !=34)=false:=by simp only[bne,e34];rfl
           clear HBAD HGOOD HFJ
           go_wp2_with fail
           go_roundw
           case rel=>exact⟨k+1,by simp,by omega,HS4,HX4,HG⟩
           case measure=>simp[intOf];omega
          |false=>
           have e34n:(op !=34)=true:=by simp only[bne,e34];rfl
           have hr:=HBAD.out (by rw[HFJ.out,e50,e34,decide_eq_false hl];rfl)
           subst hr
           clear HBAD HGOOD HFJ
           go_wp2_with (go_at_call 48;refine(r13_no _ _ _).mono ?_;rintro e w9 ⟨rfl,hb⟩;have HS9:=Lib.hid (HS4.out.under hb);obtain⟨r0,r1,r2,z0,z1,z2⟩:=HS9.out.rc;clear hb)
           obtain⟨e0,e1,e2,hbw⟩:=HS9.out.ret (.int .i64 130) (.int .i64 f) (.string ⟨⟨Lib.itoa k⟩⟩)
           exact bodyPost_ret (wrong_result rfl _ _ br _ _ _ rfl e0 e1 e2) rfl ⟨rfl,hbw⟩
       |true=>
        obtain⟨ha0,hac⟩:=HJR.out hj
        obtain⟨j,rfl⟩:=Int.eq_ofNat_of_zero_le ha0
        have hjc:j<cn:=by omega
        obtain⟨y,hy⟩:=HAL.out j hjc
        obtain⟨e0,_⟩:=HCL.out w4 HS4.out.low j y hy
        have HJ:=Lib.hid hj
        have HYY:=Lib.hid hy
        clear hj ha0 hac hy
        by_cases hjk:j≤k
        ·have b5:decide ((j:Int)≤(k:Int))=true:=by simp;omega
         have b5n:decide (j≤k)=true:=by simp;omega
         have HFJ0:Hid (fineR p f o k ⟨op,j,b,⟨⟨s⟩⟩,q⟩=((y.op==1||y.op==2)&&(decide (k+1<cn)||(op==50||op==34)))):=Lib.hid (by rw[HFR.out,HC1.out,HNUM.out,HTXT.out,HJ.out,b5,Int.toNat_natCast,HYY.out];dsimp only;cases(y.op==1||y.op==2)<;>rfl)
         clear HFR HC1 HNUM HTXT HJR HTC HNC HYY hjk
         cases e1:(y.op==1) with
         |true=>
          have e1n:(y.op !=1)=false:=by simp only[bne,e1];rfl
          have HFJ:Hid (fineR p f o k ⟨op,j,b,⟨⟨s⟩⟩,q⟩=(decide (k+1<cn)||(op==50||op==34))):=Lib.hid (by rw[HFJ0.out,e1];rfl)
          clear HFJ0 e1
          go_upto_region 16 with(go_at_call 97;refine(r13_jumps _ _).mono ?_;rintro e w5 ⟨rfl,h5⟩;subst h5;rw[HJ.out])
          by_cases hl:k+1<cn
          ·have HG:=HGOOD.out (by rw[HFJ.out,decide_eq_true hl];rfl)
           have bl:((k:Int)==(cn:Int)-1)=false:=by simp;omega
           clear HBAD HGOOD HFJ
           go_wp2_with fail
           go_roundw
           case rel=>exact⟨k+1,by simp,by omega,HS4,HX4,HG⟩
           case measure=>simp[intOf];omega
          ·have bl:((k:Int)==(cn:Int)-1)=true:=by simp;omega
           cases e50:(op==50) with
           |true=>
            have HG:=HGOOD.out (by rw[HFJ.out,e50];simp)
            have e50n:(op !=50)=false:=by simp only[bne,e50];rfl
            clear HBAD HGOOD HFJ
            go_wp2_with fail
            go_roundw
            case rel=>exact⟨k+1,by simp,by omega,HS4,HX4,HG⟩
            case measure=>simp[intOf];omega
           |false=>
            have e50n:(op !=50)=true:=by simp only[bne,e50];rfl
            cases e34:(op==34) with
            |true=>
             have HG:=HGOOD.out (by rw[HFJ.out,e34];simp)
             have e34n:(op !=34)=false:=by simp only[bne,e34];rfl
             clear HBAD HGOOD HFJ
             go_wp2_with fail
             go_roundw
             case rel=>exact⟨k+1,by simp,by omega,HS4,HX4,HG⟩
             case measure=>simp[intOf];omega
            |false=>
             have e34n:(op !=34)=true:=by simp only[bne,e34];rfl
             have hr:=HBAD.out (by rw[HFJ.out,e50,e34,decide_eq_false hl];rfl)
             subst hr
             clear HBAD HGOOD HFJ
             go_wp2_with (go_at_call 48;refine(r13_no _ _ _).mono ?_;rintro e w9 ⟨rfl,hb⟩;have HS9:=Lib.hid (HS4.out.under hb);obtain⟨r0,r1,r2,z0,z1,z2⟩:=HS9.out.rc;clear hb)
             obtain⟨e0,e1,e2,hbw⟩:=HS9.out.ret (.int .i64 130) (.int .i64 f) (.string ⟨⟨Lib.itoa k⟩⟩)
             exact bodyPost_ret (wrong_result rfl _ _ br _ _ _ rfl e0 e1 e2) rfl ⟨rfl,hbw⟩
         |false=>
          have e1n:(y.op !=1)=true:=by simp only[bne,e1];rfl
          cases e2:(y.op==2) with
          |true=>
           have e2n:(y.op !=2)=false:=by simp only[bne,e2];rfl
           have HFJ:Hid (fineR p f o k ⟨op,j,b,⟨⟨s⟩⟩,q⟩=(decide (k+1<cn)||(op==50||op==34))):=Lib.hid (by rw[HFJ0.out,e1,e2];rfl)
           clear HFJ0 e1 e2
           go_upto_region 16 with(go_at_call 97;refine(r13_jumps _ _).mono ?_;rintro e w5 ⟨rfl,h5⟩;subst h5;rw[HJ.out])
           by_cases hl:k+1<cn
           ·have HG:=HGOOD.out (by rw[HFJ.out,decide_eq_true hl];rfl)
            have bl:((k:Int)==(cn:Int)-1)=false:=by simp;omega
            clear HBAD HGOOD HFJ
            go_wp2_with fail
            go_roundw
            case rel=>exact⟨k+1,by simp,by omega,HS4,HX4,HG⟩
            case measure=>simp[intOf];omega
           ·have bl:((k:Int)==(cn:Int)-1)=true:=by simp;omega
            cases e50:(op==50) with
            |true=>
             have HG:=HGOOD.out (by rw[HFJ.out,e50];simp)
             have e50n:(op !=50)=false:=by simp only[bne,e50];rfl
             clear HBAD HGOOD HFJ
             go_wp2_with fail
             go_roundw
             case rel=>exact⟨k+1,by simp,by omega,HS4,HX4,HG⟩
             case measure=>simp[intOf];omega
            |false=>
             have e50n:(op !=50)=true:=by simp only[bne,e50];rfl
             cases e34:(op==34) with
             |true=>
              have HG:=HGOOD.out (by rw[HFJ.out,e34];simp)
              have e34n:(op !=34)=false:=by simp only[bne,e34];rfl
              clear HBAD HGOOD HFJ
              go_wp2_with fail
              go_roundw
              case rel=>exact⟨k+1,by simp,by omega,HS4,HX4,HG⟩
              case measure=>simp[intOf];omega
             |false=>
              have e34n:(op !=34)=true:=by simp only[bne,e34];rfl
              have hr:=HBAD.out (by rw[HFJ.out,e50,e34,decide_eq_false hl];rfl)
              subst hr
              clear HBAD HGOOD HFJ
              go_wp2_with (go_at_call 48;refine(r13_no _ _ _).mono ?_;rintro e w9 ⟨rfl,hb⟩;have HS9:=Lib.hid (HS4.out.under hb);obtain⟨r0,r1,r2,z0,z1,z2⟩:=HS9.out.rc;clear hb)
              obtain⟨e0,e1,e2,hbw⟩:=HS9.out.ret (.int .i64 130) (.int .i64 f) (.string ⟨⟨Lib.itoa k⟩⟩)
              exact bodyPost_ret (wrong_result rfl _ _ br _ _ _ rfl e0 e1 e2) rfl ⟨rfl,hbw⟩
          |false=>
           have e2n:(y.op !=2)=true:=by simp only[bne,e2];rfl
           have hr:=HBAD.out (by rw[HFJ0.out,e1,e2];rfl)
           subst hr
           clear HFJ0 e1 e2 HBAD HGOOD
           go_upto_region 16 with(go_at_call 97;refine(r13_jumps _ _).mono ?_;rintro e w5 ⟨rfl,h5⟩;subst h5;rw[HJ.out])
           go_wp2_with (go_at_call 48;refine(r13_no _ _ _).mono ?_;rintro e w9 ⟨rfl,hb⟩;have HS9:=Lib.hid (HS4.out.under hb);obtain⟨r0,r1,r2,z0,z1,z2⟩:=HS9.out.rc;clear hb)
           obtain⟨e0,e1,e2,hbw⟩:=HS9.out.ret (.int .i64 130) (.int .i64 f) (.string ⟨⟨Lib.itoa k⟩⟩)
           exact bodyPost_ret (wrong_result rfl _ _ br _ _ _ rfl e0 e1 e2) rfl ⟨rfl,hbw⟩
        ·have b5:decide ((j:Int)≤(k:Int))=false:=by simp;omega
         have b5n:decide (j≤k)=false:=by simp;omega
         have HFJ:Hid (fineR p f o k ⟨op,j,b,⟨⟨s⟩⟩,q⟩=(decide (k+1<cn)||(op==50||op==34))):=Lib.hid (by rw[HFR.out,HC1.out,HNUM.out,HTXT.out,HJ.out,b5];rfl)
         clear HFR HC1 HNUM HTXT HJR HTC HNC HYY hjk
         go_upto_region 16 with(go_at_call 97;refine(r13_jumps _ _).mono ?_;rintro e w5 ⟨rfl,h5⟩;subst h5;rw[HJ.out])
         by_cases hl:k+1<cn
         ·have HG:=HGOOD.out (by rw[HFJ.out,decide_eq_true hl];rfl)
          have bl:((k:Int)==(cn:Int)-1)=false:=by simp;omega
          clear HBAD HGOOD HFJ
          go_wp2_with fail
          go_roundw
          case rel=>exact⟨k+1,by simp,by omega,HS4,HX4,HG⟩
          case measure=>simp[intOf];omega
         ·have bl:((k:Int)==(cn:Int)-1)=true:=by simp;omega
          cases e50:(op==50) with
          |true=>
           have HG:=HGOOD.out (by rw[HFJ.out,e50];simp)
           have e50n:(op !=50)=false:=by simp only[bne,e50];rfl
           clear HBAD HGOOD HFJ
           go_wp2_with fail
           go_roundw
           case rel=>exact⟨k+1,by simp,by omega,HS4,HX4,HG⟩
           case measure=>simp[intOf];omega
          |false=>
           have e50n:(op !=50)=true:=by simp only[bne,e50];rfl
           cases e34:(op==34) with
           |true=>
            have HG:=HGOOD.out (by rw[HFJ.out,e34];simp)
            have e34n:(op !=34)=false:=by simp only[bne,e34];rfl
            clear HBAD HGOOD HFJ
            go_wp2_with fail
            go_roundw
            case rel=>exact⟨k+1,by simp,by omega,HS4,HX4,HG⟩
            case measure=>simp[intOf];omega
           |false=>
            have e34n:(op !=34)=true:=by simp only[bne,e34];rfl
            have hr:=HBAD.out (by rw[HFJ.out,e50,e34,decide_eq_false hl];rfl)
            subst hr
            clear HBAD HGOOD HFJ
            go_wp2_with (go_at_call 48;refine(r13_no _ _ _).mono ?_;rintro e w9 ⟨rfl,hb⟩;have HS9:=Lib.hid (HS4.out.under hb);obtain⟨r0,r1,r2,z0,z1,z2⟩:=HS9.out.rc;clear hb)
            obtain⟨e0,e1,e2,hbw⟩:=HS9.out.ret (.int .i64 130) (.int .i64 f) (.string ⟨⟨Lib.itoa k⟩⟩)
            exact bodyPost_ret (wrong_result rfl _ _ br _ _ _ rfl e0 e1 e2) rfl ⟨rfl,hbw⟩
    ·have hr:=HBAD.out (by
      rw[HFR.out]
      cases hc:(decide (1≤op)&&decide (op≤53)&&decide (0≤q)&&decide (q≤60000)) with
      |false=>rfl
      |true=>
       simp only[Bool.and_eq_true,decide_eq_true_eq] at hc
       exact absurd ⟨hc.1.1.1,hc.1.1.2,hc.1.2,hc.2⟩ c1)
     subst hr
     clear HBAD HGOOD HFR
     go_wp2_with (go_at_call 48;refine(r13_no _ _ _).mono ?_;rintro e w9 ⟨rfl,hb⟩;have HS9:=Lib.hid (HS2.out.under hb);obtain⟨r0,r1,r2,z0,z1,z2⟩:=HS9.out.rc;clear hb)
     all_goals first
      |(exfalso;omega)
      |(obtain⟨e0,e1,e2,hbw⟩:=HS9.out.ret (.int .i64 130) (.int .i64 f) (.string ⟨⟨Lib.itoa k⟩⟩)
        exact bodyPost_ret (wrong_result rfl _ _ br _ _ _ rfl e0 e1 e2) rfl ⟨rfl,hbw⟩)
   ·obtain rfl:k=cn:=by omega
    have hr:=HRF.out
    rw[List.drop_of_length_le (by rw[HCN.out];exact Nat.le_refl _)] at hr
    have hr2:R=none:=hr.symm
    subst hr2
    obtain⟨r0,r1,r2,z0,z1,z2⟩:=HS.out.rc
    go_wp2_with fail
    obtain⟨e0,e1,e2,hbw⟩:=HS.out.ret (.int .i64 0) (.int .i64 0) (.string ⟨#[]⟩)
    exact bodyPost_ret (wrong_result rfl _ _ br _ _ _ rfl e0 e1 e2) rfl ⟨rfl,hbw⟩
def VaOk (op a b:Int):Prop:=(op=27∨op=28∨op=29∨op=46∨op=47∨op=48∨op=49∨op=53→0≤a∧a≤20000)∧(op=26→(a=2∨a=3)∧(b=0∨b=1∨b=2∨b=3))
theorem r13_values (op a b q:Int) (t:ByteArray) (hop:1≤op∧op≤53) (hv:VaOk op a b) (w:World):Calls Tryz.prog 140 #[.agg #[.int .i64 op,.int .i64 a,.int .i64 b,.string t,.int .i64 q]] w fun e w'=>e= .returned (.tuple #[.int .i64 (valuesR ⟨op,a,b,t,q⟩).1,.int .i64 (valuesR ⟨op,a,b,t,q⟩).2])∧Below w.heap.size w w':=by
 have HV:=Lib.hid hv
 clear hv
 have HB:Hid (Below w.heap.size w (w.alloc (.cells #[.int .i64 op,.int .i64 a,.int .i64 b,.string t,.int .i64 q] 36 (0,0)))):=Lib.hid ((Below.refl _ _).alloc (Nat.le_refl _) _)
 go_enter Tryz.func140,Tryz.ntmps140
 by_cases h1:op=1∨op=2∨op=34
 ·rcases h1 with rfl|rfl|rfl
  all_goals
   go_wp2_with fail
   go_ret2
   exact⟨rfl,HB.out⟩
 by_cases h3:op=3∨op=4∨op=5∨op=6∨op=7∨op=8∨op=9∨op=10∨op=11∨op=23∨op=31
 ·rcases h3 with rfl|rfl|rfl|rfl|rfl|rfl|rfl|rfl|rfl|rfl|rfl
  all_goals
   go_wp2_with fail
   go_ret2
   exact⟨rfl,HB.out⟩
 by_cases h12:op=12∨op=13∨op=14∨op=15∨op=16∨op=35∨op=36∨op=37∨op=50
 ·rcases h12 with rfl|rfl|rfl|rfl|rfl|rfl|rfl|rfl|rfl
  all_goals
   go_wp2_with fail
   go_ret2
   exact⟨rfl,HB.out⟩
 by_cases h17:op=17∨op=33
 ·rcases h17 with rfl|rfl
  all_goals
   go_wp2_with fail
   go_ret2
   exact⟨rfl,HB.out⟩
 by_cases h18:op=18∨op=20∨op=21∨op=22∨op=30∨op=32
 ·rcases h18 with rfl|rfl|rfl|rfl|rfl|rfl
  all_goals
   go_wp2_with fail
   go_ret2
   exact⟨rfl,HB.out⟩
 by_cases h19:op=19∨op=24
 ·rcases h19 with rfl|rfl
  all_goals
   go_wp2_with fail
   go_ret2
   exact⟨rfl,HB.out⟩
 by_cases h25:op=25
 ·subst h25
  all_goals
   go_wp2_with fail
   go_ret2
   exact⟨rfl,HB.out⟩
 by_cases h27:op=27∨op=29∨op=47
 ·rcases h27 with rfl|rfl|rfl
  all_goals
   obtain⟨ha0,ha1⟩:=HV.out.1 (by omega)
   go_wp2_with fail
   go_ret2
   exact⟨rfl,HB.out⟩
 by_cases h28:op=28
 ·subst h28
  all_goals
   obtain⟨ha0,ha1⟩:=HV.out.1 (by omega)
   have hw:IntKind.i64.wrap (2*a)=2*a:=by rw[IntKind.wrap_i64];omega
   go_wp2_with fail
   go_ret2
   exact⟨rfl,HB.out⟩
 by_cases h46:op=46
 ·subst h46
  all_goals
   obtain⟨ha0,ha1⟩:=HV.out.1 (by omega)
   have hw:IntKind.i64.wrap (a+1)=a+1:=by rw[IntKind.wrap_i64];omega
   go_wp2_with fail
   go_ret2
   exact⟨rfl,HB.out⟩
 by_cases h48:op=48
 ·subst h48
  all_goals
   obtain⟨ha0,ha1⟩:=HV.out.1 (by omega)
   have hw:IntKind.i64.wrap (a+1)=a+1:=by rw[IntKind.wrap_i64];omega
   go_wp2_with fail
   go_ret2
   exact⟨rfl,HB.out⟩
 by_cases h49:op=49
 ·subst h49
  all_goals
   obtain⟨ha0,ha1⟩:=HV.out.1 (by omega)
   go_wp2_with fail
   go_ret2
   exact⟨rfl,HB.out⟩
 by_cases h26:op=26
 ·subst h26
  obtain⟨ha,hb⟩:=HV.out.2 rfl
  clear HV
  have q0:bits .and .i64 0 1=0:=by kernel_rfl
  have q1:bits .and .i64 1 1=1:=by kernel_rfl
  have q2:bits .and .i64 2 1=0:=by kernel_rfl
  have q3:bits .and .i64 3 1=1:=by kernel_rfl
  rcases ha with rfl|rfl<;>rcases hb with rfl|rfl|rfl|rfl
  all_goals
   go_wp2_with fail
   go_ret2
   exact⟨rfl,HB.out⟩
 have hr:op=38∨op=39∨op=40∨op=41∨op=42∨op=43∨op=44∨op=45∨op=51∨op=52∨op=53:=by omega
 rcases hr with rfl|rfl|rfl|rfl|rfl|rfl|rfl|rfl|rfl|rfl|rfl
 all_goals
  go_wp2_with fail
  go_ret2
  exact⟨rfl,HB.out⟩
structure InOk (n k:Nat) (x:Ci):Prop where
 op:1≤x.op∧x.op≤53
 va:VaOk x.op x.a x.b
 go:x.op=34∨x.op=35∨x.op=36∨x.op=37∨x.op=52→0≤x.a∧x.a<n
 last:k+1<n∨x.op=50∨x.op=34
theorem counted_va {x:Ci} (h:VaOk x.op x.a x.b):0≤(countedP x).2:=by
 have h1:=h.1
 have h2:=h.2
 unfold countedP
 repeat' split
 all_goals (try (dsimp only;omega))
theorem map_fst {α β γ:Type} {o:Option α} {f:α→β×Option γ} {q:β×Option γ} (h:o.map f=some q) (hf:∀t,(f t).2=none):q.2=none:=by
 cases o with
 |none=>cases h
 |some t=>
  obtain rfl:=Option.some.inj h
  exact hf t
theorem does_goes {x:Ci} {s:List UInt8} {q:Option (List UInt8)×Option (List UInt8)} (h:doesR x s=some q) (hq:q.2≠none):x.op=34∨x.op=35∨x.op=36∨x.op=37∨x.op=52:=by
 unfold doesR at h
 by_cases hv:0≤(valuesR x).1
 ·rw[if_pos hv] at h
  cases hl:lessP s 118 (valuesR x).1.toNat with
  |none=>rw[hl] at h;cases h
  |some t=>
   rw[hl] at h
   dsimp only at h
   by_cases h50:x.op=50
   ·rw[if_pos h50] at h;obtain rfl:=Option.some.inj h;exact absurd rfl hq
   ·rw[if_neg h50] at h
    by_cases h34:x.op=34
    ·exact .inl h34
    ·rw[if_neg h34] at h
     by_cases h35:x.op=35
     ·exact .inr (.inl h35)
     ·rw[if_neg h35] at h
      by_cases h36:x.op=36∨x.op=37
      ·rcases h36 with e|e
       ·exact .inr (.inr (.inl e))
       ·exact .inr (.inr (.inr (.inl e)))
      ·rw[if_neg h36] at h;obtain rfl:=Option.some.inj h;exact absurd rfl hq
 ·rw[if_neg hv] at h
  by_cases h52:x.op=52
  ·exact .inr (.inr (.inr (.inr h52)))
  ·exfalso
   apply hq
   by_cases h38:x.op=38∨x.op=39∨x.op=40
   ·rw[if_pos h38] at h;obtain rfl:=Option.some.inj h;rfl
   rw[if_neg h38] at h
   by_cases h41:x.op=41
   ·rw[if_pos h41] at h;exact map_fst h fun _=>rfl
   rw[if_neg h41] at h
   by_cases h42:x.op=42
   ·rw[if_pos h42] at h;exact map_fst h fun _=>rfl
   rw[if_neg h42] at h
   by_cases h43:x.op=43
   ·rw[if_pos h43] at h
    split at h
    ·obtain rfl:=Option.some.inj h;rfl
    ·exact map_fst h fun _=>rfl
   rw[if_neg h43] at h
   by_cases h44:x.op=44
   ·rw[if_pos h44] at h;exact map_fst h fun _=>rfl
   rw[if_neg h44] at h
   by_cases h45:x.op=45
   ·rw[if_pos h45] at h
    split at h
    ·exact map_fst h fun _=>rfl
    ·cases h
   rw[if_neg h45] at h
   by_cases h51:x.op=51
   ·rw[if_pos h51] at h;exact map_fst h fun _=>rfl
   rw[if_neg h51,if_neg h52] at h
   by_cases h53:x.op=53
   ·rw[if_pos h53] at h;exact map_fst h fun _=>rfl
   ·rw[if_neg h53] at h;obtain rfl:=Option.some.inj h;rfl
theorem does_last {x:Ci} {s:List UInt8} {q:Option (List UInt8)×Option (List UInt8)} (h:doesR x s=some q) (hx:x.op=50∨x.op=34):q.1=none:=by
 obtain⟨op,a,b,t,p⟩:=x
 dsimp only at hx
 unfold doesR at h
 rcases hx with rfl|rfl
 ·have hv:valuesR ⟨50,a,b,t,p⟩=(1,0):=rfl
  rw[hv] at h
  dsimp only at h
  rw[if_pos (by decide)] at h
  cases hl:lessP s 118 (1:Int).toNat with
  |none=>rw[hl] at h;cases h
  |some u=>rw[hl] at h;obtain rfl:=Option.some.inj h;rfl
 ·have hv:valuesR ⟨34,a,b,t,p⟩=(0,0):=rfl
  rw[hv] at h
  dsimp only at h
  rw[if_pos (by decide)] at h
  cases hl:lessP s 118 (0:Int).toNat with
  |none=>rw[hl] at h;cases h
  |some u=>rw[hl] at h;obtain rfl:=Option.some.inj h;rfl
theorem step_does {x:Ci} {s:List UInt8} {q:Option (List UInt8)×Option (List UInt8)} (h:stepR x s=some q):doesR x s=some q:=by
 unfold stepR at h
 cases hd:doesR x s with
 |none=>rw[hd] at h;cases h
 |some r=>
  rw[hd] at h
  dsimp only at h
  split at h
  ·cases h
  ·exact h
structure RnOk (code:List Ci) (a:List (Option (List UInt8))) (d:List Bool) (k:Nat) (r:Option Int):Prop where
 run:MinRun code a d r
 le:∀j,PendB code a d j→k≤j
 st:StOk a
 al:a.length=code.length+1
theorem RnOk.skip {code:List Ci} {a:List (Option (List UInt8))} {d:List Bool} {k:Nat} {r:Option Int} (h:RnOk code a d k r) (hn:¬PendB code a d k):RnOk code a d (k+1) r:=
 ⟨h.run,fun j hj=>by
  have:=h.le j hj
  rcases Nat.lt_or_ge k j with e|e
  ·exact e
  ·obtain rfl:j=k:=by omega
   exact absurd hj hn,h.st,h.al⟩
theorem RnOk.end {code:List Ci} {a:List (Option (List UInt8))} {d:List Bool} {k:Nat} {r:Option Int} (h:RnOk code a d k r) (hk:code.length≤k):r=none:=
 h.run.done fun j hj=>by have:=h.le j hj;have:=hj.1;omega
section
variable {code:List Ci} {a:List (Option (List UInt8))} {d:List Bool} {k:Nat} {r:Option Int} {x:Ci} {s:List UInt8}
theorem RnOk.eq (h:RnOk code a d k r) (hx:code[k]? =some x) (hs:a.getD k none=some s) (hi:InOk code.length k x):roundS code a k=roundB code a k:=
 roundS_eq fun y t hy ht=>by
  rw[hx] at hy
  rw[hs] at ht
  obtain rfl:=Option.some.inj hy
  obtain rfl:=Option.some.inj ht
  have hm:=getD_mem_some hs
  exact step_leaf x hi.op s (h.st s hm).1 (h.st.not63 hm) (counted_va hi.va) hi.va.2
theorem RnOk.bad (h:RnOk code a d k r) (hp:PendB code a d k) (hx:code[k]? =some x) (hs:a.getD k none=some s) (hi:InOk code.length k x) {e:Int} {a':List (Option (List UInt8))} (hr:roundS code a k=(some e,a')):r=some e:=
 (h.run.at hp h.le).1 e a' (by rw[←h.eq hx hs hi];exact hr)
theorem RnOk.good (h:RnOk code a d k r) (hdl:d.length=code.length) (hp:PendB code a d k) (hx:code[k]? =some x) (hs:a.getD k none=some s) (hi:InOk code.length k x) {a':List (Option (List UInt8))} (hr:roundS code a k=(none,a')) {l:Nat} (hl:l≤k+1) (hla:(goesB x.op=true∧d.getD x.a.toNat false=false∧x.a.toNat≠k)→l≤x.a.toNat) (hal:a'.length=code.length+1):RnOk code a' (d.set k true) l r:=by
 have hrb:roundB code a k=(none,a'):=by rw[←h.eq hx hs hi];exact hr
 refine⟨(h.run.at hp h.le).2 a' hrb,fun j hj=> ?_,by have:=h.st.round (code:=code) k;rw[hr] at this;exact this,hal⟩
 obtain⟨h1,h2,h3⟩:=hj
 have hjk:j≠k:=fun e=>by
  subst e
  rw[List.getD_eq_getElem?_getD,List.getElem?_set,if_pos rfl] at h3
  rw[if_pos (by rw[hdl];exact hp.1)] at h3
  cases h3
 have h3':d.getD j false=false:=by
  rw[List.getD_eq_getElem?_getD,List.getElem?_set,if_neg (fun e=>hjk e.symm),←List.getD_eq_getElem?_getD] at h3
  exact h3
 have hnew:=roundB_new (code:=code) (a:=a) (k:=k) hx j (by rw[hrb];exact h2)
 rcases hnew with e|e|⟨e1,e2⟩
 ·have:=h.le j ⟨h1,e,h3'⟩
  omega
 ·omega
 ·subst e2
  exact hla ⟨e1,h3',hjk⟩
end
end Go.Proofs.YtagnicbknbmccaaGreatDoor
