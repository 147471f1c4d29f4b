/- code.fits. A map of texts and how often each came (map[string]int, as globals, headed and names use it); code.globals. code.typed; strings.Split at a blank; code.says$1 (among); code.names. -/
import Derived.Maps.OwnOps
import Derived.Maps.Views
import Derived.Lib.SplitLaws
import Derived.Test.YtagnicbknbmccaaGreatDoorMCwF
import Derived.Test.YtagnicbknbmccaaGreatDoorSqC
import Derived.Test.YtagnicbknbmccaaGreatDoorMCwP
import Derived.Test.YtagnicbknbmccaaGreatDoorMCwG
import Derived.Test.YtagnicbknbmccaaGreatDoorMCwX
set_option maxRecDepth 100000
set_option maxHeartbeats 4000000
namespace Go.Proofs.YtagnicbknbmccaaGreatDoor
open Go.RowKit
theorem fits_any {f:Cf} {v:Fv} {w:World} (hrow:RowIs w w.heap.size v.ca (f.code.flatMap insCells)) (h0:0<f.code.length) (hlen:f.code.length≤60000) (hfit:∀(k:Nat) (x:Ci),f.code[k]? =some x→FitI f.code k x) (hcnt:∀x∈f.code,CountedOk x):
  Calls Tryz.prog 38 #[fnV (f,v)] w fun e w'=>e= .returned (.int .i64 (fitsR (fitsP f.code)))∧Below w.heap.size w w':=by
 obtain⟨R,HR⟩:∃R,Hid (fitsP f.code=R):=⟨_,rfl⟩
 rw[HR.out]
 obtain⟨ca,o,hca,hcb,hcc⟩:=hrow.at (by rw[flat_len ins_len];omega)
 simp only[fnV]
 rw[hca]
 have HC:=Lib.hid hcc
 have HFI:=Lib.hid hfit
 have HCN:=Lib.hid hcnt
 obtain⟨n,hn⟩:∃n,f.code.length=n:=⟨_,rfl⟩
 have HLN:=Lib.hid hn
 rw[hn] at h0 hlen⊢
 have m1:=make_at n (by omega)
 have m2:=make_ints n (by omega)
 clear hrow hca hcc hfit hcnt hn
 go_enter Tryz.func38,Tryz.ntmps38
 have hB:=FtAt.begin w (.cells #[.string f.name,.int .i64 f.params,.int .i64 f.slots,.slice v.ta f.taken.length v.tc,.int .i64 f.around,.slice (some ⟨ca,o,none⟩) n v.cc] 33 (0,0)) n h0
 have hw0:=heap_alloc_new w (.cells #[.string f.name,.int .i64 f.params,.int .i64 f.slots,.slice v.ta f.taken.length v.tc,.int .i64 f.around,.slice (some ⟨ca,o,none⟩) n v.cc] 33 (0,0))
 have hbw:Below w.heap.size w (w.alloc (.cells #[.string f.name,.int .i64 f.params,.int .i64 f.slots,.slice v.ta f.taken.length v.tc,.int .i64 f.around,.slice (some ⟨ca,o,none⟩) n v.cc] 33 (0,0))):=(Below.refl _ _).alloc (Nat.le_refl _) _
 have HINV:=Lib.hid (Inv.begin f.code (by rw[HLN.out];exact h0))
 rw[HLN.out] at HINV
 have hloop:fitsLoop f.code (4*n+4) ⟨some []::List.replicate n none,List.replicate n false,[0]⟩=R:=by rw[←HR.out];unfold fitsP;rw[HLN.out]
 have HLP:=Lib.hid hloop
 have HB:=Lib.hid hB
 have HW0:=Lib.hid hw0
 have HBW:=Lib.hid hbw
 clear hB hw0 hbw hloop
 go_wp2_with fail
 go_step3
 go_wp2_with fail
 go_step3
 go_wp2_with fail
 obtain⟨w0,hw⟩:∃w0,w.alloc (.cells #[.string f.name,.int .i64 f.params,.int .i64 f.slots,.slice v.ta f.taken.length v.tc,.int .i64 f.around,.slice (some ⟨ca,o,none⟩) n v.cc] 33 (0,0))=w0:=⟨_,rfl⟩
 have hs0:w0.heap.size=w.heap.size+1:=by rw[←hw];simp
 rw[hw] at HB HW0 HBW
 obtain⟨s0,hs1⟩:∃s0,w.heap.size=s0:=⟨_,rfl⟩
 simp only[hw,hs1]
 rw[hs1] at hs0 HB HW0
 go_loopg [] (4*n+4) (fun fu wr=>∃(g cap:Nat) (T:Tab) (c:Cst),Hid (FtAt w0 (s0+1) (s0+1+1) (s0+1+1+1+1) n g cap T c wr)∧Hid (Inv f.code c)∧c.mu+1≤fu∧fu≤4*n+4∧Hid (fitsLoop f.code fu c=R))
 case atStart=>exact⟨_,_,_,_,HB,Lib.hid HINV.out.1,by rw[HINV.out.2];omega,Nat.le_refl _,HLP⟩
 case round=>
  obtain⟨g,cap,T,c,HF,HI,hmu,hfu,HL⟩:=hrel
  have hca0:ca<s0:=by rw[←hs1];exact hcb
  have hwl:w.heap.size≤w0.heap.size:=by omega
  clear hs1 hw
  cases gk with
  |zero=>exfalso;omega
  |succ gf=>
  have t0:=cell_of_row wr (s0+1+1+1+1) 0 _ _ _ HF.out.todo.box
  simp only[List.getElem?_toArray,List.getElem?_cons_zero] at t0
  have hl:=HL.out
  rw[fitsLoop] at hl
  have hmt:c.todo.length≤c.mu:=by unfold Cst.mu;omega
  by_cases htd:c.todo=[]
  ·rw[if_pos htd] at hl
   have hz:c.todo.length=0:=by rw[htd];rfl
   rw[hz] at t0
   have HR2:=Lib.hid hl
   clear hl hz
   go_wp2_with fail
   try rw[Exit.noGoto_ret]
   go_ret
   rw[←HR2.out]
   exact⟨rfl,HBW.out.trans (HF.out.below.mono hwl)⟩
  ·rw[if_neg htd] at hl
   have hpos:0<c.todo.length:=List.length_pos_iff.2 htd
   obtain⟨k,hpk,hkn,s,hs⟩:=pop_at HI.out htd
   rw[HLN.out] at hkn
   obtain⟨x,hx⟩:∃x,f.code[k]? =some x:=⟨_,List.getElem?_eq_getElem (by rw[HLN.out];exact hkn)⟩
   obtain⟨r,hp⟩:∃r,popL c.todo=((k:Int),r):=⟨(popL c.todo).2,Prod.ext hpk rfl⟩
   have HP:=Lib.hid (pop_any HF.out.todo hpos (by omega))
   rw[hp] at HP hl
   simp only[Int.toNat_natCast] at hl
   have HPI:=Lib.hid (HI.out.pop htd)
   rw[hp] at HPI
   have HPP:=Lib.hid hp
   obtain⟨tl,htl⟩:∃tl,c.todo.length=tl:=⟨_,rfl⟩
   rw[htl] at t0 hpos
   have dl:decide (0<(tl:Int))=true:=by simp;omega
   by_cases hsn:c.seen.getD k false=true
   ·rw[if_pos hsn] at hl
    have HL2:=Lib.hid hl
    clear hl htl hp hpk hx
    go_wp2_with (go_at_call 84;refine HP.out.mono ?_;rintro e w1 ⟨rfl,ht1,hf1⟩;have hF1:=HF.out.pop (by rw[HPP.out];exact ht1) hf1;rw[HPP.out] at hF1;obtain⟨q1,_⟩:=hF1.seenAt hkn;simp only at q1;rw[hsn] at q1;simp only[seenV,if_true] at q1;have HF1:=Lib.hid hF1;clear hF1 ht1 hf1;try dsimp only)
    go_roundg gf
    case rel=>exact⟨g,cap,T,_,HF1,Lib.hid HPI.out.1,by have:=HPI.out.2;omega,by omega,HL2⟩
    case measure=>omega
   ·have hsn2:c.seen.getD k false=false:=by simpa using hsn
    rw[if_neg hsn] at hl
    have hcell:=ins_at HC.out hx
    have hfx:=HFI.out k x hx
    have hxc:=HCN.out x (List.mem_of_getElem? hx)
    have HLK:=Lib.hid (HPI.out.1.look (k:=k) (by rw[HLN.out];exact hkn) hsn2)
    obtain⟨c2,hc2⟩:∃c2:Cst,({c with todo:=r,seen:=c.seen.set k true}:Cst)=c2:=⟨_,rfl⟩
    have hc2':({({c with todo:=r}:Cst) with seen:=c.seen.set k true}:Cst)=c2:=hc2
    have hat2:c2.at_.getD k none=some s:=by rw[←hc2];exact hs
    rw[hc2,round_eq hx hat2] at hl
    rw[hc2'] at HLK
    have hmu3:c2.mu+4=c.mu:=by
     have h1:({c with todo:=r}:Cst).mu+1=c.mu:=HPI.out.2
     have h2:c2.mu+3=({c with todo:=r}:Cst).mu:=HLK.out.2
     omega
    have hm2:c2.todo.length≤c2.mu:=by unfold Cst.mu;omega
    have hIR:=HLK.out.1.round HFI.out k
    rw[round_eq hx hat2] at hIR
    have HIR:=Lib.hid hIR
    have hs3:s.length≤30000:=HF.out.deep k s hs
    have HFX:=Lib.hid hfx
    have HXC:=Lib.hid hxc
    have HL2:=Lib.hid hl
    have HPCL:Hid (∀ {W:World},FtAt w0 (s0+1) (s0+1+1) (s0+1+1+1+1) n g cap T {c with todo:=r} W→FtAt w0 (s0+1) (s0+1+1) (s0+1+1+1+1) n g cap T c2 (W.setCell ⟨s0+1+1,k,none⟩ (.int .i64 1))):=Lib.hid fun h=>by
     have:=h.look hkn
     rw[←hc2]
     exact this
    have HCELL:=Lib.hid hcell
    have hcne:(ca=s0+1+1)=False:=by simp;omega
    have hsne:(s0=s0+1+1)=False:=eq_false (by omega)
    clear hl htl hp hpk hx hfx hxc hc2 hc2' hIR hcell
    go_upto_region 10 with(go_at_call 84;refine HP.out.mono ?_;rintro e w1 ⟨rfl,ht1,hf1⟩;have hF1:=HF.out.pop (by rw[HPP.out];exact ht1) hf1;rw[HPP.out] at hF1;obtain⟨q1,q2⟩:=hF1.seenAt hkn;simp only at q1;rw[hsn2] at q1;simp only[seenV,Bool.false_eq_true,if_false] at q1;have hk1:=fun i (hi:i<w0.heap.size)=>hF1.below.block i hi;have u5:w1.cell? ⟨s0,5,none⟩=some (.slice (some ⟨ca,o,none⟩) n v.cc):=cell_of_row w1 s0 5 _ _ _ ((hk1 s0 (by omega)).trans HW0.out);have hcx:∀j,w1.cell? ⟨ca,j,none⟩=w.cell? ⟨ca,j,none⟩:=fun j=>World.cell?_of_block (w:=w) (a:=⟨ca,j,none⟩) ((hk1 ca (by omega)).trans (HBW.out.block ca hcb));obtain⟨x0,x1,x2,x3,x4⟩:=HCELL.out;rw[←hcx] at x0 x1 x2 x3 x4;have HF1:=Lib.hid hF1;clear hF1 ht1 hf1 hk1 hcx;try dsimp only)
    have hF2:=HPCL.out HF1.out
    have hF3:=hF2.alloc (.cells #[.int .i64 x.op,.int .i64 x.a,.int .i64 x.b,.string x.text,.int .i64 x.at_] 36 (0,0))
    have hxr:=heap_alloc_new (w1.setCell ⟨s0+1+1,k,none⟩ (.int .i64 1)) (.cells #[.int .i64 x.op,.int .i64 x.a,.int .i64 x.b,.string x.text,.int .i64 x.at_] 36 (0,0))
    obtain⟨xb,hxb⟩:∃xb,(w1.setCell ⟨s0+1+1,k,none⟩ (.int .i64 1)).heap.size=xb:=⟨_,rfl⟩
    have hxb1:w1.heap.size=xb:=by rw[←hxb];simp
    have hxn:∀s,(xb,s) ∉ T:=fun s hs=>by have:=(hF2.stk.node _ s hs).2.1;omega
    obtain⟨l1,l2,l3,l4⟩:=hF2.alt
    have hxne:xb≠s0+1∧xb≠s0+1+1+1+1∧xb≠g:=by omega
    rw[hxb] at hxr
    obtain⟨W3,hW3⟩:∃W3,(w1.setCell ⟨s0+1+1,k,none⟩ (.int .i64 1)).alloc (.cells #[.int .i64 x.op,.int .i64 x.a,.int .i64 x.b,.string x.text,.int .i64 x.at_] 36 (0,0))=W3:=⟨_,rfl⟩
    rw[hW3] at hxr hF3
    simp only[hW3,hxb1]
    have hxlt:xb<W3.heap.size:=(Array.getElem?_eq_some_iff.1 hxr).1
    obtain⟨y0,y1,y2,y3,y4⟩:=cr5 W3 xb hxr
    simp only[gq] at y0 y1 y2 y3 y4
    obtain⟨va,a0,hva,_⟩:=hF3.at_ (k:=k) (by omega)
    rw[hat2] at hva
    obtain⟨bk,rfl,hbk⟩:=hva
    have HF3:=Lib.hid hF3
    have HXR:=Lib.hid hxr
    clear hF2 hF3 hxr hW3 hxb hxb1 x0 x1 x2 x3 x4 u5 l1 l2 l3 l4 q1 q2 HP t0 dl
    have hbd:((k:Int)<(n:Int)+1)=True:=eq_true (by omega)
    have HDR:Hid (FtAt w0 (s0+1) (s0+1+1) (s0+1+1+1+1) n g cap T c2 W3.drew):=Lib.hid (HF3.out.under ⟨rfl,rfl,rfl,Nat.le_refl _,fun _ _=>rfl⟩)
    cases hlv:leavesP x s with
    |none=>
     rw[hlv] at HL2
     have hR2:R=some (k:Int):=HL2.out.symm
     have HR2:=Lib.hid hR2
     clear hR2
     refine wp_region_G [] (fun y=>y.cell? ⟨xb,0,none⟩=some (.int .i64 x.op)∧y.cell? ⟨xb,1,none⟩=some (.int .i64 x.a)∧y.cell? ⟨xb,2,none⟩=some (.int .i64 x.b)∧y.cell? ⟨xb,3,none⟩=some (.string x.text)∧y.cell? ⟨xb,4,none⟩=some (.int .i64 x.at_)∧y.cell? ⟨s0+1,k,none⟩=some (.pointer (some ⟨bk,0,none⟩))) (by rfl) ?_ (fun hHeld=> ?_)
     ·exact⟨y0,y1,y2,y3,y4,a0⟩
     refine tk 0 (h:=tk 1 (h:=tk 2 (h:=tk 3 (h:=tk 4 (h:= ?_)))))
     try simp only[nmC]
     refine rd1 5 fun KK hKK=> ?_
     go_simp
     go_at_call 85
     refine(leaves_any HXC.out HFX.out.count HDR.out.stk hbk hs3).mono ?_
     intro e w5 hpost
     rw[hlv] at hpost
     obtain⟨T5,hs5,hsub5,hnew5,hf5,hres⟩:=hpost
     obtain⟨vb,rfl⟩:=hres
     have hF5:=HDR.out.more hs5 hsub5 hnew5 hf5
     have hxr5:=(hf5.block xb hxlt (fun⟨s,hs⟩=>hxn s hs)).trans HXR.out
     obtain⟨z0,z1,z2,z3,z4⟩:=cr5 w5 xb hxr5
     simp only[gq] at z0 z1 z2 z3 z4
     obtain⟨va,z5,hva,_⟩:=hF5.at_ (k:=k) (by omega)
     rw[hat2] at hva
     obtain⟨bk5,rfl,hbk5⟩:=hva
     obtain rfl:=hs5.one _ _ _ (hsub5 _ hbk) hbk5
     have HF5:=Lib.hid hF5
     have HXR5:=Lib.hid hxr5
     have hxl5:=Nat.lt_of_lt_of_le hxlt hf5.size
     clear hF5 hxr5 hs5 hf5 hbk5
     try dsimp only
     refine hKK.out _ _ (⟨z0,z1,z2,z3,z4,z5⟩) (fun hHeld=> ?_)
     clear hKK KK
     try simp only[nmC]
     refine tk 6 (h:=tk 7 (h:=tk 8 (h:=tk 9 (h:=tk 10 (h:= ?_)))))
     try simp only[nmC]
     refine wpAnyG_done (by kernel_rfl) ?_ _
     go_wp2_with fail
     try rw[Exit.noGoto_ret]
     go_ret
     rw[HR2.out]
     exact⟨rfl,HBW.out.trans (HF5.out.below.mono hwl)⟩
    |some pr=>
     obtain⟨nx,th⟩:=pr
     obtain⟨hn3,ht3⟩:=leaves_len hlv hs3
     rw[hlv] at HL2 HIR
     have hl:=HL2.out
     have hir:=HIR.out
     dsimp only at hl hir
     refine wp_region_G [] (fun y=>y.cell? ⟨xb,0,none⟩=some (.int .i64 x.op)∧y.cell? ⟨xb,1,none⟩=some (.int .i64 x.a)∧y.cell? ⟨xb,2,none⟩=some (.int .i64 x.b)∧y.cell? ⟨xb,3,none⟩=some (.string x.text)∧y.cell? ⟨xb,4,none⟩=some (.int .i64 x.at_)∧y.cell? ⟨s0+1,k,none⟩=some (.pointer (some ⟨bk,0,none⟩))) (by rfl) ?_ (fun hHeld=> ?_)
     ·exact⟨y0,y1,y2,y3,y4,a0⟩
     refine tk 0 (h:=tk 1 (h:=tk 2 (h:=tk 3 (h:=tk 4 (h:= ?_)))))
     try simp only[nmC]
     refine rd1 5 fun KK hKK=> ?_
     go_simp
     go_at_call 85
     refine(leaves_any HXC.out HFX.out.count HDR.out.stk hbk hs3).mono ?_
     intro e w5 hpost
     rw[hlv] at hpost
     obtain⟨T5,hs5,hsub5,hnew5,hf5,hres⟩:=hpost
     obtain⟨ga,gb,rfl,hga,hgb⟩:=hres
     have hF5:=HDR.out.more hs5 hsub5 hnew5 hf5
     have hxr5:=(hf5.block xb hxlt (fun⟨s,hs⟩=>hxn s hs)).trans HXR.out
     obtain⟨z0,z1,z2,z3,z4⟩:=cr5 w5 xb hxr5
     simp only[gq] at z0 z1 z2 z3 z4
     obtain⟨va,z5,hva,_⟩:=hF5.at_ (k:=k) (by omega)
     rw[hat2] at hva
     obtain⟨bk5,rfl,hbk5⟩:=hva
     obtain rfl:=hs5.one _ _ _ (hsub5 _ hbk) hbk5
     have HF5:=Lib.hid hF5
     have HXR5:=Lib.hid hxr5
     have hxl5:=Nat.lt_of_lt_of_le hxlt hf5.size
     clear hF5 hxr5 hs5 hf5 hbk5
     try dsimp only
     refine hKK.out _ _ (⟨z0,z1,z2,z3,z4,z5⟩) (fun hHeld=> ?_)
     clear hKK KK
     try simp only[nmC]
     refine tk 6 (h:=tk 7 (h:=tk 8 (h:=tk 9 (h:=tk 10 (h:= ?_)))))
     try simp only[nmC]
     refine wpAnyG_done (by kernel_rfl) ?_ _
     have hq0:c2.todo.length≤900000:=by omega
     by_cases h34:x.op=34
     ·have e1:(x.op !=34)=false:=by simp[h34]
      have hgo:goesB x.op=true:=by rw[h34];decide
      simp only[if_pos (Or.inl h34:x.op=34∨x.op=50),hgo,if_true,Bool.true_eq_false,if_false] at hl hir
      obtain⟨hxa0,hxa1⟩:=HFX.out.goes hgo
      rw[HLN.out] at hxa1
      obtain⟨xa,hxa⟩:=Int.eq_ofNat_of_zero_le hxa0
      have hxan:xa≤n:=by omega
      rw[hxa,Int.toNat_natCast] at hl hir
      obtain⟨c4,b4,h4⟩:∃c4 b4,handP c2 xa th=(c4,b4):=⟨_,_,rfl⟩
      rw[h4] at hl hir
      dsimp only at hl hir
      clear h34
      cases b4 with
      |false=>
       have hR2:R=some (xa:Int):=by rw[if_pos rfl] at hl;exact hl.symm
       have HR2:=Lib.hid hR2
       clear hR2 hl hir
       go_wp2_with (first
        |(go_at_call 83;refine(goes_any _ _).mono ?_;rintro e w7 ⟨rfl,hb7⟩;rw[hgo];have hF7:=HF5.out.under hb7;have hxr7:=(hb7.block xb hxl5).trans HXR5.out;have r0:=cell_of_row w7 xb 0 _ _ _ hxr7;have r1:=cell_of_row w7 xb 1 _ _ _ hxr7;simp only[gq] at r0 r1;rw[hxa] at r1;have HH7:=Lib.hid (hand_any hF7 (k:=xa) hxan hgb ht3 hq0);rw[h4] at HH7;dsimp only at HH7;have hs7:=hb7.size;clear hb7 hF7)
        |(go_at_call 86;refine HH7.out.mono ?_;rintro e w8 ⟨rfl,⟨g8,cap8,hF8,_⟩,hfo8⟩;have hr8:=(World.cell?_of_block (w:=w7) (a:=⟨xb,1,none⟩) (hfo8.block xb (Nat.lt_of_lt_of_le hxl5 hs7) (by rintro(e|e|e);exact hxne.1 e;exact hxne.2.1 e;exact hxne.2.2 e))).trans r1;have HF8:=Lib.hid hF8;clear hF8 hfo8))
       try rw[Exit.noGoto_ret]
       go_ret
       rw[HR2.out]
       exact⟨rfl,HBW.out.trans (HF8.out.below.mono hwl)⟩
      |true=>
       simp only[Bool.true_eq_false,if_false] at hl hir
       have HLZ:=Lib.hid hl
       have HIZ:=Lib.hid (hir trivial)
       clear hl hir
       go_wp2_with (first
        |(go_at_call 83;refine(goes_any _ _).mono ?_;rintro e w7 ⟨rfl,hb7⟩;rw[hgo];have hF7:=HF5.out.under hb7;have hxr7:=(hb7.block xb hxl5).trans HXR5.out;have r0:=cell_of_row w7 xb 0 _ _ _ hxr7;have r1:=cell_of_row w7 xb 1 _ _ _ hxr7;simp only[gq] at r0 r1;rw[hxa] at r1;have HH7:=Lib.hid (hand_any hF7 (k:=xa) hxan hgb ht3 hq0);rw[h4] at HH7;dsimp only at HH7;have hs7:=hb7.size;clear hb7 hF7)
        |(go_at_call 86;refine HH7.out.mono ?_;rintro e w8 ⟨rfl,⟨g8,cap8,hF8,_⟩,hfo8⟩;have hr8:=(World.cell?_of_block (w:=w7) (a:=⟨xb,1,none⟩) (hfo8.block xb (Nat.lt_of_lt_of_le hxl5 hs7) (by rintro(e|e|e);exact hxne.1 e;exact hxne.2.1 e;exact hxne.2.2 e))).trans r1;have HF8:=Lib.hid hF8;clear hF8 hfo8))
       go_roundg gf
       case rel=>exact⟨g8,cap8,T5,c4,HF8,Lib.hid HIZ.out.1,by have:=HIZ.out.2;omega,by omega,HLZ⟩
       case measure=>omega
     ·have e1:(x.op !=34)=true:=by simp[h34]
      by_cases h50:x.op=50
      ·have e2:(x.op !=50)=false:=by simp[h50]
       have hgo:goesB x.op=false:=by rw[h50];decide
       simp only[if_pos (Or.inr h50:x.op=34∨x.op=50),hgo,if_false,Bool.true_eq_false,Bool.false_eq_true] at hl hir
       have HLZ:=Lib.hid hl
       have HIZ:=Lib.hid (hir trivial)
       clear hl hir h34 h50
       go_wp2_with (go_at_call 83;refine(goes_any _ _).mono ?_;rintro e w6 ⟨rfl,hb6⟩;rw[hgo];have HF6:=Lib.hid (HF5.out.under hb6))
       go_roundg gf
       case rel=>exact⟨g,cap,T5,c2,HF6,Lib.hid HIZ.out.1,by omega,by omega,HLZ⟩
       case measure=>omega
      ·have e2:(x.op !=50)=true:=by simp[h50]
       have hj:¬(x.op=34∨x.op=50):=by rintro(e|e);exact h34 e;exact h50 e
       have hlast:=HFX.out.last h34 h50
       rw[HLN.out] at hlast
       simp only[if_neg hj] at hl hir
       have hh1:=(HLK.out.1.hand (k:=k+1) (by rw[HLN.out];omega) nx).2
       obtain⟨c3,b3,h3⟩:∃c3 b3,handP c2 (k+1) nx=(c3,b3):=⟨_,_,rfl⟩
       have HH:=Lib.hid (hand_any HF5.out (k:=k+1) (by omega) hga hn3 hq0)
       rw[h3] at HH hl hir hh1
       dsimp only at HH hl hir hh1
       have hq1:c3.todo.length≤900000:=Nat.le_trans (show c3.todo.length≤c3.mu by unfold Cst.mu;omega) (by omega)
       clear h34 h50 hj h3
       cases b3 with
       |false=>
        have hR2:R=some ((k:Int)+1):=by rw[if_pos rfl] at hl;exact hl.symm
        have HR2:=Lib.hid hR2
        clear hR2 hl hir
        go_wp2_with (go_at_call 86;refine HH.out.mono ?_;rintro e w6 ⟨rfl,⟨g6,cap6,hF6,hgn6⟩,hfo6⟩;have HF6:=Lib.hid hF6;clear hF6 hfo6)
        try rw[Exit.noGoto_ret]
        go_ret
        rw[HR2.out]
        exact⟨rfl,HBW.out.trans (HF6.out.below.mono hwl)⟩
       |true=>
        simp only[Bool.true_eq_false,if_false] at hl hir
        cases hgo:goesB x.op with
        |false=>
         simp only[hgo,Bool.false_eq_true,if_false,Bool.true_eq_false] at hl hir
         have HLZ:=Lib.hid hl
         have HIZ:=Lib.hid (hir trivial)
         clear hl hir
         go_wp2_with (first
          |(go_at_call 86;refine HH.out.mono ?_;rintro e w6 ⟨rfl,⟨g6,cap6,hF6,hgn6⟩,hfo6⟩;have hxr6:=(hfo6.block xb hxl5 (by rintro(e|e|e);exact hxne.1 e;exact hxne.2.1 e;exact hxne.2.2 e)).trans HXR5.out;have p0:=cell_of_row w6 xb 0 _ _ _ hxr6;simp only[List.getElem?_toArray,List.getElem?_cons_zero] at p0;have hxl6:=Nat.lt_of_lt_of_le hxl5 hfo6.size;have hg6:xb≠g6:=(by have:=hxne.2.2;rcases hgn6 with e|e<;>omega);have HXR6:=Lib.hid hxr6;have HF6:=Lib.hid hF6;clear hF6 hxr6 hfo6)
          |(go_at_call 83;refine(goes_any _ _).mono ?_;rintro e w7 ⟨rfl,hb7⟩;rw[hgo];have HF7:=Lib.hid (HF6.out.under hb7)))
         go_roundg gf
         case rel=>exact⟨g6,cap6,T5,c3,HF7,Lib.hid HIZ.out.1,by have:=HIZ.out.2;omega,by omega,HLZ⟩
         case measure=>omega
        |true=>
         obtain⟨hxa0,hxa1⟩:=HFX.out.goes hgo
         rw[HLN.out] at hxa1
         obtain⟨xa,hxa⟩:=Int.eq_ofNat_of_zero_le hxa0
         have hxan:xa≤n:=by omega
         simp only[hgo,if_true] at hl hir
         rw[hxa,Int.toNat_natCast] at hl hir
         obtain⟨c4,b4,h4⟩:∃c4 b4,handP c3 xa th=(c4,b4):=⟨_,_,rfl⟩
         rw[h4] at hl hir
         dsimp only at hl hir
         cases b4 with
         |false=>
          have hR2:R=some (xa:Int):=by rw[if_pos rfl] at hl;exact hl.symm
          have HR2:=Lib.hid hR2
          clear hR2 hl hir
          go_wp2_with (first
           |(go_at_call 83;refine(goes_any _ _).mono ?_;rintro e w7 ⟨rfl,hb7⟩;rw[hgo];have hF7:=HF6.out.under hb7;have hxr7:=(hb7.block xb hxl6).trans HXR6.out;have r0:=cell_of_row w7 xb 0 _ _ _ hxr7;have r1:=cell_of_row w7 xb 1 _ _ _ hxr7;simp only[gq] at r0 r1;rw[hxa] at r1;have HH7:=Lib.hid (hand_any hF7 (k:=xa) hxan hgb ht3 hq1);rw[h4] at HH7;dsimp only at HH7;have hs7:=hb7.size;clear hb7 hF7)
           |(go_at_call 86;first|(refine HH7.out.mono ?_;rintro e w8 ⟨rfl,⟨g8,cap8,hF8,_⟩,hfo8⟩;have hr8:=(World.cell?_of_block (w:=w7) (a:=⟨xb,1,none⟩) (hfo8.block xb (Nat.lt_of_lt_of_le hxl6 hs7) (by rintro(e|e|e);exact hxne.1 e;exact hxne.2.1 e;exact hg6 e))).trans r1;have HF8:=Lib.hid hF8;clear hF8 hfo8)|(refine HH.out.mono ?_;rintro e w6 ⟨rfl,⟨g6,cap6,hF6,hgn6⟩,hfo6⟩;have hxr6:=(hfo6.block xb hxl5 (by rintro(e|e|e);exact hxne.1 e;exact hxne.2.1 e;exact hxne.2.2 e)).trans HXR5.out;have p0:=cell_of_row w6 xb 0 _ _ _ hxr6;simp only[List.getElem?_toArray,List.getElem?_cons_zero] at p0;have hxl6:=Nat.lt_of_lt_of_le hxl5 hfo6.size;have hg6:xb≠g6:=(by have:=hxne.2.2;rcases hgn6 with e|e<;>omega);have HXR6:=Lib.hid hxr6;have HF6:=Lib.hid hF6;clear hF6 hxr6 hfo6)))
          try rw[Exit.noGoto_ret]
          go_ret
          rw[HR2.out]
          exact⟨rfl,HBW.out.trans (HF8.out.below.mono hwl)⟩
         |true=>
          simp only[Bool.true_eq_false,if_false] at hl hir
          have HLZ:=Lib.hid hl
          have HIZ:=Lib.hid (hir trivial)
          clear hl hir
          go_wp2_with (first
           |(go_at_call 83;refine(goes_any _ _).mono ?_;rintro e w7 ⟨rfl,hb7⟩;rw[hgo];have hF7:=HF6.out.under hb7;have hxr7:=(hb7.block xb hxl6).trans HXR6.out;have r0:=cell_of_row w7 xb 0 _ _ _ hxr7;have r1:=cell_of_row w7 xb 1 _ _ _ hxr7;simp only[gq] at r0 r1;rw[hxa] at r1;have HH7:=Lib.hid (hand_any hF7 (k:=xa) hxan hgb ht3 hq1);rw[h4] at HH7;dsimp only at HH7;have hs7:=hb7.size;clear hb7 hF7)
           |(go_at_call 86;first|(refine HH7.out.mono ?_;rintro e w8 ⟨rfl,⟨g8,cap8,hF8,_⟩,hfo8⟩;have hr8:=(World.cell?_of_block (w:=w7) (a:=⟨xb,1,none⟩) (hfo8.block xb (Nat.lt_of_lt_of_le hxl6 hs7) (by rintro(e|e|e);exact hxne.1 e;exact hxne.2.1 e;exact hg6 e))).trans r1;have HF8:=Lib.hid hF8;clear hF8 hfo8)|(refine HH.out.mono ?_;rintro e w6 ⟨rfl,⟨g6,cap6,hF6,hgn6⟩,hfo6⟩;have hxr6:=(hfo6.block xb hxl5 (by rintro(e|e|e);exact hxne.1 e;exact hxne.2.1 e;exact hxne.2.2 e)).trans HXR5.out;have p0:=cell_of_row w6 xb 0 _ _ _ hxr6;simp only[List.getElem?_toArray,List.getElem?_cons_zero] at p0;have hxl6:=Nat.lt_of_lt_of_le hxl5 hfo6.size;have hg6:xb≠g6:=(by have:=hxne.2.2;rcases hgn6 with e|e<;>omega);have HXR6:=Lib.hid hxr6;have HF6:=Lib.hid hF6;clear hF6 hxr6 hfo6)))
          go_roundg gf
          case rel=>exact⟨g8,cap8,T5,c4,HF8,Lib.hid HIZ.out.1,by have:=HIZ.out.2;omega,by omega,HLZ⟩
          case measure=>omega
def CntAt (w:World) (b n:Nat) (l:List (List UInt8)):Prop:=
 ∃D:DataW Unit,w.ownsMap Tryz.prog 9 (plainElem Tryz.prog 3) b n D∧Maps.IsMap D∧∀s,D.atKey (.string s) (.lit (.int .i64 0))= .lit (.int .i64 ((l.count s:Nat):Int))
theorem cntKey:Maps.Keyed Tryz.prog 9:=Maps.string_keyed Tryz.underlying9
theorem cnt_keyOf (s:ByteArray) (hs:s.size≤140737488351232):keyOf Tryz.prog 9 (.string s)=some (.string s.data.toList):=by
 have h2:s.size≤maxLen:=Nat.le_trans hs (by decide)
 simp[keyOf,mapKey,Tryz.underlying9,h2]
theorem CntAt.made (w:World):CntAt (w.alloc (.map #[] 0)) w.heap.size 0 []:=⟨.map [],World.ownsMap_made _ _ _ _,Maps.isMap_empty,fun _=>rfl⟩
theorem CntAt.keep {w w':World} {b n:Nat} {l:List (List UInt8)} (h:CntAt w b n l) (hb:Below w.heap.size w w'):CntAt w' b n l:=by
 obtain⟨D,h1,h2,h3⟩:=h
 exact⟨D,h1.kept (row:=none) ⟨hb.os,hb.tape,hb.output,hb.size,fun k hk _=>hb.block k hk⟩ (by simp),h2,h3⟩
theorem CntAt.look {w:World} {b n:Nat} {l:List (List UInt8)} (h:CntAt w b n l) (s:ByteArray) (hs:s.size≤140737488351232):
  (Instr.lookup 71 (.map (some b)) (.string s) false).run Tryz.prog w= .ok (.int .i64 ((l.count s.data.toList:Nat):Int)) w:=by
 obtain⟨D,h1,h2,h3⟩:=h
 obtain⟨c,hrun,hat,_⟩:=h1.lookup_int cntKey Tryz.underlying71 Tryz.underlying3 (by kernel_rfl) (cnt_keyOf s hs)
 rw[h3] at hat
 have e:=(Lit.int.inj (DataW.lit.inj hat)).2
 rw[e]
 exact hrun
theorem CntAt.put {w:World} {b n:Nat} {l:List (List UInt8)} (h:CntAt w b n l) (s:ByteArray) (hs:s.size≤140737488351232) (hn:n≤140737488351232) (hl:l.length≤140737488351232):
  ∃w',(Instr.mapUpdate 71 (.map (some b)) (.string s) (.int .i64 (((l.count s.data.toList:Nat):Int)+1))).run Tryz.prog w= .ok () w'∧CntAt w' b (n+1) (s.data.toList::l)∧w.grownBy w' (some b):=by
 obtain⟨D,h1,h2,h3⟩:=h
 have hc:l.count s.data.toList≤l.length:=List.count_le_length
 have hw:(Lit.int .i64 (((l.count s.data.toList:Nat):Int)+1)).wf=true:=WalkArith.wf_i64 (by omega)
 obtain⟨w',hrun,hown,hg⟩:=h1.update cntKey Tryz.underlying71 (Nat.lt_of_le_of_lt hn (by decide)) (cnt_keyOf s hs) (plainElem_int Tryz.underlying3 hw)
 refine⟨w',hrun,⟨_,hown,h2.put _ _,fun s'=> ?_⟩,hg⟩
 by_cases he:s'=s.data.toList
 ·subst he
  rw[Maps.atKey_put_same h2 (by exact True.intro),List.count_cons_self]
  simp
 ·rw[Maps.atKey_put_other (by simpa using he),h3,List.count_cons_of_ne (by simpa using fun e=>he e.symm)]
theorem grownTo_below {w w':World} {b B:Nat} (h:w.grownBy w' (some b)) (hB:B≤b) (hs:B≤w.heap.size):Below B w w':=
 ⟨h.os,h.tape,h.output,h.size,fun k hk=>h.block k (by omega) (by intro e;injection e with e;omega)⟩
theorem globalsB_stop {old r:List (List UInt8)} {s:List UInt8} (h:nameL s=false∨old.contains s=true):globalsB old (s::r)=false:=by
 rw[globalsB];rcases h with h|h
 ·rw[h];rfl
 ·rw[h];cases nameL s<;>rfl
theorem globalsB_go {old r:List (List UInt8)} {s:List UInt8} (h:nameL s=true) (h2:old.contains s=false):globalsB old (s::r)=globalsB (s::old) r:=by
 rw[globalsB,h,h2];rfl
theorem count_zero_not {l:List (List UInt8)} {s:List UInt8}:l.count s=0→l.contains s=false:=fun h=>by
 rw[List.count_eq_zero] at h
 simpa using h
theorem count_pos_in {l:List (List UInt8)} {s:List UInt8} (h:l.count s≠0):l.contains s=true:=by
 have:=List.count_pos_iff.1 (Nat.pos_of_ne_zero h)
 simpa using this
theorem globals_any (l:List ByteArray) (ga:Option Addr) (gc:Nat) (w:World) (h:Gc w) (hrow:RowIs w w.heap.size ga (l.map Value.string)) (hl:l.length≤140737488351232) (hs:∀s∈l,s.size≤140737488351232):
  Calls Tryz.prog 34 #[.slice ga l.length gc] w fun e w'=>e= .returned (.bool (globalsB [] (l.map fun s=>s.data.toList)))∧Below w.heap.size w w':=by
 have hm:=mapNew
 have HR:=Lib.hid hrow
 have HG:=Lib.hid h
 have HS:=Lib.hid hs
 obtain⟨n,hn⟩:∃n,l.length=n:=⟨_,rfl⟩
 have HL:=Lib.hid hn
 rw[hn] at hl⊢
 clear hrow h hs hn
 go_enter Tryz.func34,Tryz.ntmps34
 have HB0:Hid (Below w.heap.size w (w.alloc (.map #[] 0))):=Lib.hid ((Below.refl _ _).alloc (Nat.le_refl _) _)
 have HC0:Hid (CntAt (w.alloc (.map #[] 0)) w.heap.size 0 []):=Lib.hid (CntAt.made w)
 go_wp2_with fail
 go_loopw [9] (fun i wr=>∃j:Nat,j≤n∧i= .int .i64 j∧∃old:List (List UInt8),old.length=j∧Hid (CntAt wr w.heap.size j old)∧Hid (Below w.heap.size w wr)∧Hid (globalsB old ((l.map fun s=>s.data.toList).drop j)=globalsB [] (l.map fun s=>s.data.toList))) (fun i _=>n-(intOf i).toNat)
 case atStart=>exact⟨0,Nat.zero_le _,rfl,[],rfl,HC0,HB0,Lib.hid rfl⟩
 case round=>
  obtain⟨j,hj,rfl,old,hold,HC,HB,HI⟩:=hrel
  by_cases hlt:j<n
  ·obtain⟨g,o,rfl,hg,hc⟩:=HR.out.at (by rw[List.length_map,HL.out];omega)
   obtain⟨s,hsj⟩:∃s,l[j]? =some s:=⟨_,List.getElem?_eq_getElem (by rw[HL.out];exact hlt)⟩
   have hcell:wr.cell? ⟨g,o+j,none⟩=some (.string s):=by
    rw[HB.out.cell (p:=⟨g,o+j,none⟩) hg]
    exact hc j _ (by rw[List.getElem?_map,hsj];rfl)
   have hss:=HS.out s (List.mem_of_getElem? hsj)
   have HD:Hid ((l.map fun s=>s.data.toList).drop j=s.data.toList::(l.map fun s=>s.data.toList).drop (j+1)):=Lib.hid (drop_cons (by rw[List.getElem?_map,hsj];rfl))
   obtain⟨m,hm'⟩:∃m:Nat,old.count s.data.toList=m:=⟨_,rfl⟩
   have hm2:m≤j:=by rw[←hm',←hold];exact List.count_le_length
   have hk1:=HC.out.look s hss
   obtain⟨w1,hu,hC1,hg1⟩:=HC.out.put s hss (by omega) (by omega)
   have hb1:Below w.heap.size wr w1:=grownTo_below hg1 (Nat.le_refl _) HB.out.size
   have HB1:=Lib.hid (HB.out.trans hb1)
   have HC1:=Lib.hid hC1
   rw[hm'] at hk1 hu
   have HG1:=Lib.hid (HG.out.up HB1.out)
   have HK2:Hid (∀w2,Below w1.heap.size w1 w2→(Instr.lookup 71 (.map (some w.heap.size)) (.string s) false).run Tryz.prog w2= .ok (.int .i64 ((m+1:Nat):Int)) w2):=Lib.hid fun w2 hb2=>by
    have:=(HC1.out.keep hb2).look s hss
    rw[List.count_cons_self,hm'] at this
    exact this
   have HM:=Lib.hid hm'
   clear hc hsj hC1 hg1 hb1 hm'
   cases hnm:nameB s with
   |false=>
    go_wp2_with (go_at_call 76;refine(named_any s w1 HG1.out hss).mono ?_;rw[hnm];rintro e w2 ⟨rfl,hb2⟩)
    go_ret
    refine⟨ret_bool ?_,HB1.out.trans (hb2.mono HB1.out.size)⟩
    rw[←HI.out,HD.out,globalsB_stop (.inl hnm)]
   |true=>
    by_cases hm0:m=0
    ·subst hm0
     rw[show((0:Nat):Int)+1=1 from rfl] at hu
     rw[show((0:Nat):Int)=0 from rfl] at hk1
     go_wp2_with (go_at_call 76;refine(named_any s w1 HG1.out hss).mono ?_;rw[hnm];rintro e w2 ⟨rfl,hb2⟩;have hk2:=HK2.out w2 hb2)
     go_roundw
     case rel=>
      refine⟨j+1,by omega,by go_num,s.data.toList::old,by simp[hold],Lib.hid (HC1.out.keep hb2),Lib.hid (HB1.out.trans (hb2.mono HB1.out.size)),Lib.hid ?_⟩
      rw[←HI.out,HD.out,globalsB_go hnm (count_zero_not HM.out)]
     case measure=>simp[intOf];omega
    ·go_wp2_with (go_at_call 76;refine(named_any s w1 HG1.out hss).mono ?_;rw[hnm];rintro e w2 ⟨rfl,hb2⟩;have hk2:=HK2.out w2 hb2)
     go_ret
     refine⟨ret_bool ?_,HB1.out.trans (hb2.mono HB1.out.size)⟩
     rw[←HI.out,HD.out,globalsB_stop (.inr (count_pos_in (by rw[HM.out];exact hm0)))]
  ·obtain rfl:j=n:=by omega
   go_wp2_with fail
   go_ret
   refine⟨ret_bool ?_,HB.out⟩
   rw[←HI.out,List.drop_of_length_le (by rw[List.length_map,HL.out];exact Nat.le_refl _)]
   rfl
theorem typed_any (s:List UInt8) (p a:Bool) (w:World) (h:Gc w) (hs:s.length≤4000000000):Calls Tryz.prog 123 #[.string ⟨⟨s⟩⟩,.bool p,.bool a] w fun e w'=>e= .returned (.bool (typedB s p a))∧Below w.heap.size w w':=by
 have HN:Hid (Calls Tryz.prog 76 #[.string ⟨⟨s⟩⟩] w fun e w'=>e= .returned (.bool (nameL s))∧Below w.heap.size w w'):=Lib.hid (named_any ⟨⟨s⟩⟩ w h (by show s.length≤_;omega))
 have HR:Hid (typedB s p a=(nameL s||(!p&&(s==[109,97,112]||s==[102,117,110,99]||(a&&s==[97,110,121]))))):=Lib.hid rfl
 clear h
 go_enter Tryz.func123,Tryz.ntmps123
 cases e0:nameL s<;>rw[e0] at HN HR
 ·cases p
  ·cases e1:(s==[109,97,112])<;>rw[e1] at HR
   ·cases e2:(s==[102,117,110,99])<;>rw[e2] at HR
    ·cases a<;>rw[HR.out]<;>clear HR
     all_goals
      go_wp2_with (go_at_call 76;refine HN.out.mono ?_;rintro e w' ⟨rfl,hb⟩)
      go_ret
      exact⟨ret_bool (by first|rfl|simp_all),hb⟩
    ·rw[HR.out]
     clear HR
     go_wp2_with (go_at_call 76;refine HN.out.mono ?_;rintro e w' ⟨rfl,hb⟩)
     go_ret
     exact⟨ret_bool (by first|rfl|simp_all),hb⟩
   ·rw[HR.out]
    clear HR
    go_wp2_with (go_at_call 76;refine HN.out.mono ?_;rintro e w' ⟨rfl,hb⟩)
    go_ret
    exact⟨ret_bool (by first|rfl|simp_all),hb⟩
  ·rw[HR.out]
   clear HR
   go_wp2_with (go_at_call 76;refine HN.out.mono ?_;rintro e w' ⟨rfl,hb⟩)
   go_ret
   exact⟨ret_bool (by first|rfl|simp_all),hb⟩
 ·rw[HR.out]
  clear HR
  go_wp2_with (go_at_call 76;refine HN.out.mono ?_;rintro e w' ⟨rfl,hb⟩)
  go_ret
  exact⟨ret_bool (by first|rfl|simp_all),hb⟩
theorem part_len (c:UInt8):∀(s:List UInt8) (t:List UInt8),t∈splitC c s→t.length≤s.length
 | [],t,h=>by
  rw[splitC,List.mem_singleton] at h
  rw[h];exact Nat.le_refl _
 |x::r,t,h=>by
  rw[splitC] at h
  by_cases hx:x=c
  ·rw[if_pos hx,List.mem_cons] at h
   rcases h with rfl|h
   ·exact Nat.zero_le _
   ·exact Nat.le_succ_of_le (part_len c r t h)
  ·rw[if_neg hx] at h
   have ih:=part_len c r
   cases hs:splitC c r with
   |nil=>
    rw[hs] at h
    rw[List.mem_singleton.1 h]
    simp
   |cons y ys=>
    rw[hs] at h ih
    rcases List.mem_cons.1 h with rfl|h
    ·have:=ih y (List.mem_cons_self ..)
     simp only[List.length_cons];omega
    ·exact Nat.le_succ_of_le (ih t (List.mem_cons_of_mem _ h))
theorem split32 (S:ByteArray) (hs:S.size≤4000000000):∃xs:List ByteArray,xs.map (fun x=>x.data.toList)=splitC 32 S.data.toList∧(∀x∈xs,x.size≤S.size)∧xs.length≤S.size+1∧
  ∀V,Gc V→Calls Tryz.prog 108 #[.string S,.string ⟨#[32]⟩] V fun e V'=>e= .returned (.slice (some ⟨V.heap.size,0,none⟩) xs.length xs.length)∧V'=V.alloc (.cells (xs.map Value.string).toArray 9):=by
 have h1:=split_one S 32
 have hc:Lib.countB S ⟨#[32]⟩≤S.size:=by
  unfold Lib.countB
  rw[show(⟨#[32]⟩:ByteArray).data.toList=[32] from rfl,Lib.count_one]
  exact List.count_le_length
 refine⟨_,h1,fun x hx=> ?_, ?_,fun V hV=> ?_⟩
 ·have hm:x.data.toList∈splitC 32 S.data.toList:=by rw[←h1];exact List.mem_map_of_mem hx
  exact part_len 32 _ _ hm
 ·rw[Lib.splitB_all ⟨#[32]⟩ (by decide) 0 _ S rfl];omega
 ·obtain⟨m,hm⟩:=hV.max
  refine(Tryz.strings_Split S ⟨#[32]⟩ m V (by omega) hm (by decide)).mono ?_
  rintro e V' ⟨rfl,rfl⟩
  rw[Lib.splitB_all ⟨#[32]⟩ (by decide) 0 _ S rfl]
  exact⟨rfl,rfl⟩
theorem among_any (L:ByteArray) (W:List (List UInt8)) (hL:splitC 32 L.data.toList=W) (hLs:L.size≤1000) {w:World} (hG:Gc w) {b:Nat} {T:List UInt8} (hc:w.cell? ⟨b,3,none⟩=some (.string ⟨⟨T⟩⟩)):
  Calls Tryz.prog 120 #[.string L,.pointer (some ⟨b,0,none⟩)] w fun e w'=>e= .returned (.bool (amongB W T))∧Below w.heap.size w w':=by
 obtain⟨xs,h1,h2,h3,h4⟩:=split32 L (by omega)
 have hbw:=World.block_lt_of_cell? w _ hc
 dsimp only at hbw
 have HS:=Lib.hid h4
 have HA:Hid (amongB W T=(!T.isEmpty&&xs.any (fun x=>(⟨⟨T⟩⟩:ByteArray).toList==x.toList))):=Lib.hid (by
  unfold amongB
  congr 1
  rw[←hL,←h1,List.any_map]
  congr 1
  funext x
  rw[ByteArray.toList_eq,ByteArray.toList_eq,Function.comp_apply,Bool.beq_comm])
 have HX:Hid (xs.length≤140737488351232):=Lib.hid (by omega)
 obtain⟨n,hn⟩:∃n,xs.length=n:=⟨_,rfl⟩
 have HC:Hid (∀(V:World) (cap:Nat),Calls Tryz.prog 116 #[.slice (some ⟨V.heap.size,0,none⟩) n cap,.string ⟨⟨T⟩⟩] (V.alloc (.cells (xs.map Value.string).toArray 9)) fun e w'=>e= .returned (.bool (xs.any (fun x=>(⟨⟨T⟩⟩:ByteArray).toList==x.toList)))∧w'=V.alloc (.cells (xs.map Value.string).toArray 9)):=
  Lib.hid fun V cap=>hn▸Contains_list xs V.heap.size cap 9 (0,0) ⟨⟨T⟩⟩ _ (heap_alloc_new _ _) HX.out
 rw[hn] at HS
 have HG:Hid (Gc w.drew):=Lib.hid (hG.up (drew_under w 1))
 have hc0:w.drew.cell? ⟨b,3,none⟩=some (.string ⟨⟨T⟩⟩):=hc
 have hbd:b<w.drew.heap.size:=hbw
 have HB:Hid (Below w.heap.size w w.drew):=Lib.hid (drew_under w 1)
 clear h1 h2 h3 h4 hG hn HX hc hbw
 cases T with
 |cons c r=>
  rw[HA.out]
  clear HA
  obtain⟨B,hB⟩:∃B,w.heap.size=B:=⟨_,rfl⟩
  obtain⟨R,hR⟩:∃R,(xs.any fun x=>(⟨⟨c::r⟩⟩:ByteArray).toList==x.toList)=R:=⟨_,rfl⟩
  rw[hR] at HC⊢
  go_enter Tryz.func120,Tryz.ntmps120
  go_upto_region 1 with fail
  refine wp_region_G [] (fun u=>u.cell? ⟨b,3,none⟩=some (.string ⟨⟨c::r⟩⟩)) (by rfl) ?_ (fun hHeld=> ?_)
  ·exact hc0
  generalize hwd:World.drew w=wd at HG HB hc0 hbd hHeld⊢
  refine tk 0 (h:=tk 1 (h:=tk 2 (h:=tk 3 (h:=tk 4 (h:=tk 6 (h:= ?_))))))
  try simp only[nmC]
  refine tk 7 (h:= ?_)
  try simp only[nmC]
  refine rd1 5 fun KK hKK=> ?_
  go_simp
  go_at_call 108
  refine(HS.out _ HG.out).mono ?_
  rintro e wz ⟨rfl,rfl⟩
  have hc1:=(((Below.refl wd.heap.size wd).alloc (Nat.le_refl _) (.cells (xs.map Value.string).toArray 9)).cell (p:=⟨b,3,none⟩) hbd).trans hc0
  try dsimp only
  refine hKK.out _ _ (hc1) (fun hHeld=> ?_)
  clear hKK KK
  try simp only[nmC]
  refine rd1 8 fun KK hKK=> ?_
  go_simp
  go_at_call 116
  refine(HC.out _ _).mono ?_
  rintro e wz ⟨rfl,rfl⟩
  try dsimp only
  refine hKK.out _ _ (hc1) (fun hHeld=> ?_)
  clear hKK KK
  try simp only[nmC]
  refine tk 9 (h:=tk 10 (h:= ?_))
  try simp only[nmC]
  refine wpAnyG_done (by kernel_rfl) ?_ _
  go_wp2_with fail
  go_ret
  exact⟨ret_bool rfl,HB.out.alloc HB.out.size _⟩
 |nil=>
  rw[HA.out]
  clear HA HC
  go_enter Tryz.func120,Tryz.ntmps120
  go_upto_region 1 with fail
  refine wp_region_G [] (fun u=>u.cell? ⟨b,3,none⟩=some (.string ⟨⟨[]⟩⟩)) (by rfl) ?_ (fun hHeld=> ?_)
  ·exact hc0
  generalize hwd:World.drew w=wd at HG HB hc0 hbd hHeld⊢
  refine tk 0 (h:=tk 1 (h:=tk 2 (h:=tk 3 (h:=tu 4 (h:=tu 5 (h:= ?_))))))
  try simp only[nmC]
  refine tu 6 (h:=tu 7 (h:=tu 8 (h:=tk 9 (h:=tk 10 (h:= ?_)))))
  try simp only[nmC]
  refine wpAnyG_done (by kernel_rfl) ?_ _
  go_wp2_with fail
  go_ret
  exact⟨ret_bool rfl,HB.out⟩
end Go.Proofs.YtagnicbknbmccaaGreatDoor
