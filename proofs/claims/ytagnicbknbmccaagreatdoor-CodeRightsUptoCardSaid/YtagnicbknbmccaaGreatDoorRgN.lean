/- guiseref13.heads: the functions' heads, one by one. -/
import Derived.Test.YtagnicbknbmccaaGreatDoorMCwF
import Derived.Test.YtagnicbknbmccaaGreatDoorSqC
import Derived.Test.YtagnicbknbmccaaGreatDoorMCyJ
import Derived.Test.YtagnicbknbmccaaGreatDoorMRgJ
import Derived.Test.YtagnicbknbmccaaGreatDoorMCxD
import Derived.Test.YtagnicbknbmccaaGreatDoorMCzO
import Derived.Test.YtagnicbknbmccaaGreatDoorMCyP
set_option maxRecDepth 100000
set_option maxHeartbeats 40000000
namespace Go.Proofs.YtagnicbknbmccaaGreatDoor
open Go.RowKit
structure HdS (w W:World) (bp br bm k:Nat) (pc:Array Value) (old:List (List UInt8)):Prop where
 s:BdS w W bp br pc
 c:CntAt W bm k old
 lo:w.heap.size≤bm
 n1:bm≠bp
 n2:bm≠br
section
variable {w W W':World} {bp br bm k:Nat} {pc:Array Value} {old:List (List UInt8)}
theorem HdS.under (h:HdS w W bp br bm k pc old) (hb:Below W.heap.size W W'):HdS w W' bp br bm k pc old:=⟨h.s.under hb,h.c.keep hb,h.lo,h.n1,h.n2⟩
theorem HdS.lt (h:HdS w W bp br bm k pc old):bm<W.heap.size:=by obtain⟨D,h1,_⟩:=h.c;exact h1.lt
theorem HdS.put (h:HdS w W bp br bm k pc old) (s:List UInt8) (hs:s.length≤140737488351232) (hk:k≤140737488351232) (hl:old.length≤140737488351232) (h0:old.count s=0):
  ∃w',(Instr.mapUpdate 71 (.map (some bm)) (.string ⟨⟨s⟩⟩) (.int .i64 1)).run Tryz.prog W= .ok () w'∧HdS w w' bp br bm (k+1) pc (s::old)∧W.grownBy w' (some bm):=by
 obtain⟨w',h1,h2,h3⟩:=h.c.put ⟨⟨s⟩⟩ hs hk hl
 have e:old.count (⟨⟨s⟩⟩:ByteArray).data.toList=0:=h0
 rw[e] at h1
 have hlow:=h.s.low
 have hkeep:∀b,b<W.heap.size→b≠bm→w'.heap[b]? =W.heap[b]? :=fun b hb hn=>h3.block b hb (by intro e;injection e with e;exact hn e)
 refine⟨w',h1,⟨⟨⟨h3.os.trans hlow.os,h3.tape.trans hlow.tape,h3.output.trans hlow.output,Nat.le_trans hlow.size h3.size,fun b hb=>(hkeep b (Nat.lt_of_lt_of_le hb hlow.size) (by have:=h.lo;omega)).trans (hlow.block b hb)⟩,
  (hkeep bp (Array.getElem?_eq_some_iff.1 h.s.hp).1 h.n1.symm).trans h.s.hp,(hkeep br (Array.getElem?_eq_some_iff.1 h.s.hr).1 h.n2.symm).trans h.s.hr,h.s.ord⟩,h2,h.lo,h.n1,h.n2⟩,h3⟩
end
section
variable {fs:List Cf} {i:Nat} {f:Cf} {old:List (List UInt8)}
theorem hb_params (h:f.params<0∨13<f.params∨f.slots<f.params):headedB fs i f old=false:=by unfold headedB;rw[if_pos h]
theorem hb_zero (hi:i=0) (h:(f.name.data.toList==[]&&(f.params==0&&(f.taken.length==0&&f.around== -1)))=false):headedB fs i f old=false:=by
 unfold headedB
 by_cases hh:f.params<0∨13<f.params∨f.slots<f.params
 ·rw[if_pos hh]
 ·rw[if_neg hh,if_pos hi];exact h
theorem hb_zero_ok (hi:i=0) (h:(f.name.data.toList==[]&&(f.params==0&&(f.taken.length==0&&f.around== -1)))=true) (h2:¬(f.params<0∨13<f.params∨f.slots<f.params)):headedB fs i f old=true:=by
 unfold headedB;rw[if_neg h2,if_pos hi];exact h
theorem hb_decl (hi:i≠0) (hr:f.around= -1) (h:(f.taken.length==0&&(declaredB f.name.data.toList&& !old.contains f.name.data.toList))=false):headedB fs i f old=false:=by
 unfold headedB
 by_cases hh:f.params<0∨13<f.params∨f.slots<f.params
 ·rw[if_pos hh]
 ·rw[if_neg hh,if_neg hi,if_pos hr];exact h
theorem hb_decl_ok (hi:i≠0) (hr:f.around= -1) (h:(f.taken.length==0&&(declaredB f.name.data.toList&& !old.contains f.name.data.toList))=true) (h2:¬(f.params<0∨13<f.params∨f.slots<f.params)):headedB fs i f old=true:=by
 unfold headedB;rw[if_neg h2,if_neg hi,if_pos hr];exact h
theorem hb_odd (hi:i≠0) (hr:f.around≠-1) (h:f.name.data.toList≠ [102,117,110,99]∨f.around<0∨(i:Int)≤f.around):headedB fs i f old=false:=by
 unfold headedB
 by_cases hh:f.params<0∨13<f.params∨f.slots<f.params
 ·rw[if_pos hh]
 ·rw[if_neg hh,if_neg hi,if_neg hr,if_pos h]
theorem hb_taken (hi:i≠0) (hr:f.around≠-1) (h:¬(f.name.data.toList≠ [102,117,110,99]∨f.around<0∨(i:Int)≤f.around)) (h2:¬(f.params<0∨13<f.params∨f.slots<f.params)) {y:Cf} (hy:fs[f.around.toNat]? =some y):
  headedB fs i f old=f.taken.all fun t=>decide (t<y.slots)&&decide (-(y.taken.length:Int)≤t):=by
 unfold headedB;rw[if_neg h2,if_neg hi,if_neg hr,if_neg h,hy]
end
def headsC (o:Option Nat):Option Cwr:=match o with
 |some i=>some ⟨130,i,none⟩
 |none=>none
theorem r13_heads {p:Cp} {n m fc gc:Nat} {fa ga:Option Addr} {xs:List (Cf×Fv)} {w:World} (hp:PgAt w p n m fa ga xs) (hok:CpOk p) (hnm:∀f∈p.funcs,f.name.size≤4000000000) (h1n:1≤n) (hn6:n≤1000000):
  Calls Tryz.prog 49 #[.agg #[.slice fa n fc,.slice ga m gc]] w (WvPost (headsC (headsFrom p.funcs 0 p.funcs [])) w):=by
 obtain⟨R,hR⟩:∃R,headsC (headsFrom p.funcs 0 p.funcs [])=R:=⟨_,rfl⟩
 rw[hR]
 have HFN:=Lib.hid hp.fn
 obtain⟨f0,hf0⟩:∃f,p.funcs[0]? =some f:=⟨_,List.getElem?_eq_getElem (by rw[HFN.out];omega)⟩
 obtain⟨g,off,fv0,hfa,_,_⟩:=headAll hp hf0
 have hall:∀(i:Nat) (y:Cf),p.funcs[i]? =some y→∃fv,LiesF w w.heap.size (y,fv)∧∀W,Below w.heap.size w W→HeadAt W g off i n y.name y.params y.slots y.around fv.ta y.taken.length fv.tc fv.ca y.code.length fv.cc:=fun i y hy=>by
  obtain⟨g',off',fv,e,h2,h3⟩:=headAll hp hy
  rw[hfa] at e
  injection e with e
  injection e with e1 e2
  subst e1 e2
  exact⟨fv,h2,h3⟩
 have HALL:=Lib.hid hall
 have HOK:=Lib.hid hok
 have HNM:=Lib.hid hnm
 have HRR:Hid (headsC (headsFrom p.funcs 0 (p.funcs.drop 0) [])=R):=Lib.hid (by rw[List.drop_zero];exact hR)
 subst hfa
 clear hall hok hnm hf0 hR hp
 unfold WvPost
 have hm:=mapNew
 go_enter Tryz.func49,Tryz.ntmps49
 go_upto_region 2 with fail
 obtain⟨k1,k2,k3,kb,_⟩:=below3 w (.cells #[.slice (some ⟨g,off,none⟩) n fc,.slice ga m gc] 27 (0,0)) (.cells #[.int .i64 0,.int .i64 0,.string ⟨#[]⟩] 46 (0,0)) (.map #[] 0)
 have hc0:=CntAt.made ((w.alloc (.cells #[.slice (some ⟨g,off,none⟩) n fc,.slice ga m gc] 27 (0,0))).alloc (.cells #[.int .i64 0,.int .i64 0,.string ⟨#[]⟩] 46 (0,0)))
 have hsz2:((w.alloc (.cells #[.slice (some ⟨g,off,none⟩) n fc,.slice ga m gc] 27 (0,0))).alloc (.cells #[.int .i64 0,.int .i64 0,.string ⟨#[]⟩] 46 (0,0))).heap.size=w.heap.size+1+1:=by simp
 rw[hsz2] at hc0
 obtain⟨W3,hW3⟩:∃W3,((w.alloc (.cells #[.slice (some ⟨g,off,none⟩) n fc,.slice ga m gc] 27 (0,0))).alloc (.cells #[.int .i64 0,.int .i64 0,.string ⟨#[]⟩] 46 (0,0))).alloc (.map #[] 0)=W3:=⟨_,rfl⟩
 simp only[hW3] at k1 k2 kb hc0⊢
 obtain⟨bp,hbp⟩:∃bp,w.heap.size=bp:=⟨_,rfl⟩
 have HS0:HdS w W3 w.heap.size (w.heap.size+1) (w.heap.size+1+1) 0 #[.slice (some ⟨g,off,none⟩) n fc,.slice ga m gc] []:=⟨⟨kb,k1,k2,by omega⟩,hc0,by omega,by omega,by omega⟩
 rw[hbp] at HS0
 obtain⟨br,hbr⟩:∃br,bp+1=br:=⟨_,rfl⟩
 obtain⟨bm,hbm⟩:∃bm,br+1=bm:=⟨_,rfl⟩
 simp only[hbp] at⊢
 simp only[hbr] at HS0⊢
 simp only[hbm] at HS0⊢
 have HS:=Lib.hid HS0
 clear HS0 k1 k2 k3 kb hc0 hsz2 hW3 hbp hbr hbm
 go_wp2_with fail
 go_loopw [4] (fun i wr=>∃(j k:Nat) (old:List (List UInt8)),i= .int .i64 j∧j≤n∧k≤j∧old.length≤j∧Hid (HdS w wr bp br bm k #[.slice (some ⟨g,off,none⟩) n fc,.slice ga m gc] old)∧Hid (headsC (headsFrom p.funcs j (p.funcs.drop j) old)=R)) (fun i _=>n-(intOf i).toNat)
 case atStart=>exact⟨0,0,[],rfl,Nat.zero_le _,Nat.le_refl _,Nat.le_refl _,HS,HRR⟩
 case round=>
  clear HS HRR
  obtain⟨j,k,old,rfl,hj,hkj,hol,HS,HRR⟩:=hrel
  have y0:=cell_of_row wr bp 0 _ _ _ HS.out.s.hp
  simp only[List.getElem?_toArray,List.getElem?_cons_zero] at y0
  by_cases hlt:j<n
  ·obtain⟨o,ho⟩:∃o,p.funcs[j]? =some o:=⟨_,List.getElem?_eq_getElem (by rw[HFN.out];exact hlt)⟩
   obtain⟨fv,hlf,hh⟩:=HALL.out j o ho
   have hA:=hh wr HS.out.s.low
   have hom:=List.mem_of_getElem? ho
   have HTK:Hid (∀t∈o.taken,okI t):=Lib.hid (HOK.out.2.2.1 o hom).2.2.2.2.2.2.1
   have htl:o.taken.length≤140737488351232:=(HOK.out.2.2.1 o hom).2.2.2.2.1
   have hnm4:o.name.data.toList.length≤4000000000:=by have:=HNM.out o hom;simpa using this
   have hdr:p.funcs.drop j=o::p.funcs.drop (j+1):=by
    rw[List.drop_eq_getElem_cons (by rw[HFN.out];exact hlt)]
    congr 1
    exact(List.getElem?_eq_some_iff.1 ho).2
   have HBAD:Hid (headedB p.funcs j o old=false→R=some ⟨130,j,none⟩):=Lib.hid fun h=>by
    have:=HRR.out
    rw[hdr,headsFrom_cons,h] at this
    exact this.symm
   have HGOOD:Hid (headedB p.funcs j o old=true→Hid (headsC (headsFrom p.funcs (j+1) (p.funcs.drop (j+1)) (nextOld j o old))=R)):=Lib.hid fun h=>Lib.hid (by
    have:=HRR.out
    rw[hdr,headsFrom_cons,h] at this
    exact this)
   obtain⟨hgl,hjn,x0,x1,x2,x3,x4,x5⟩:=hA
   have HLF:=Lib.hid hlf
   have HO:=Lib.hid ho
   clear hdr hh hlf ho hom HRR
   obtain⟨nmB,pa,sl,tk,ar,cd⟩:=o
   obtain⟨⟨nm⟩⟩:=nmB
   dsimp only at x0 x1 x2 x3 x4 x5 HTK hnm4 htl
   obtain⟨tn,htn⟩:∃tn,tk.length=tn:=⟨_,rfl⟩
   obtain⟨cn,hcn⟩:∃cn,cd.length=cn:=⟨_,rfl⟩
   rw[htn] at x3 htl
   rw[hcn] at x5
   have HTN:=Lib.hid htn
   clear htn hcn
   go_upto_region 8 with fail
   have hA1:Below wr.heap.size wr (wr.alloc (.cells #[.string ⟨⟨nm⟩⟩,.int .i64 pa,.int .i64 sl,.slice fv.ta tn fv.tc,.int .i64 ar,.slice fv.ca cn fv.cc] 33 (0,0))):=(Below.refl _ _).alloc (Nat.le_refl _) _
   have hS1:=HS.out.under hA1
   have hX1:=heap_alloc_new wr (.cells #[.string ⟨⟨nm⟩⟩,.int .i64 pa,.int .i64 sl,.slice fv.ta tn fv.tc,.int .i64 ar,.slice fv.ca cn fv.cc] 33 (0,0))
   obtain⟨bx,hbx⟩:∃bx,wr.heap.size=bx:=⟨_,rfl⟩
   obtain⟨W1,hW1⟩:∃W1,wr.alloc (.cells #[.string ⟨⟨nm⟩⟩,.int .i64 pa,.int .i64 sl,.slice fv.ta tn fv.tc,.int .i64 ar,.slice fv.ca cn fv.cc] 33 (0,0))=W1:=⟨_,rfl⟩
   simp only[hbx,hW1] at hS1 hX1⊢
   have HS1:=Lib.hid hS1
   have HX1:=Lib.hid hX1
   have hne1:bm≠bx:=by have:=HS.out.lt;omega
   clear hA1 hS1 hX1 hW1 hbx x0 x1 x2 x3 x4 x5 y0 HS hgl hjn
   have y0:=cell_of_row W1 bp 0 _ _ _ HS1.out.s.hp
   obtain⟨x0,x1,x2,x3,x4,x5⟩:=cr6 W1 bx HX1.out
   simp only[gq] at y0 x0 x1 x2 x3 x4 x5
   have hemp:(⟨⟨nm⟩⟩:ByteArray).toList.isEmpty=(nm==[]):=by rw[data_toList];cases nm<;>rfl
   have hfun:((⟨⟨nm⟩⟩:ByteArray).toList==[102,117,110,99])=(nm==[102,117,110,99]):=by rw[data_toList]
   have HEMP:=Lib.hid hemp
   have HFUN:=Lib.hid hfun
   clear hemp hfun
   by_cases hj0:j=0
   ·subst hj0
    cases e1:(nm==[]) with
    |false=>
     have hemp:(⟨⟨nm⟩⟩:ByteArray).toList.isEmpty=false:=by rw[HEMP.out,e1]
     obtain rfl:=HBAD.out (hb_zero rfl (by show(nm==[]&&(pa==0&&(tk.length==0&&ar== -1)))=false;rw[HTN.out,e1];simp))
     go_wp2_with (go_at_call 48;refine(r13_no _ _ _).mono ?_;rintro e w9 ⟨rfl,hb⟩;have HS9:=Lib.hid (HS1.out.s.under hb);obtain⟨r0,r1,r2,z0,z1,z2⟩:=HS9.out.rc;clear hb)
     obtain⟨e0,e1,e2,hbw⟩:=HS9.out.ret (.int .i64 130) (.int .i64 0) (.string ⟨#[]⟩)
     exact bodyPost_ret (wrong_result rfl _ _ br _ _ _ rfl e0 e1 e2) rfl ⟨rfl,hbw⟩
    |true=>
     have hemp:(⟨⟨nm⟩⟩:ByteArray).toList.isEmpty=true:=by rw[HEMP.out,e1]
     cases e2:(pa==0) with
     |false=>
      have e2n:(pa !=0)=true:=by simp only[bne,e2];rfl
      obtain rfl:=HBAD.out (hb_zero rfl (by show(nm==[]&&(pa==0&&(tk.length==0&&ar== -1)))=false;rw[HTN.out,e1,e2];simp))
      go_wp2_with (go_at_call 48;refine(r13_no _ _ _).mono ?_;rintro e w9 ⟨rfl,hb⟩;have HS9:=Lib.hid (HS1.out.s.under hb);obtain⟨r0,r1,r2,z0,z1,z2⟩:=HS9.out.rc;clear hb)
      obtain⟨e0,e1,e2,hbw⟩:=HS9.out.ret (.int .i64 130) (.int .i64 0) (.string ⟨#[]⟩)
      exact bodyPost_ret (wrong_result rfl _ _ br _ _ _ rfl e0 e1 e2) rfl ⟨rfl,hbw⟩
     |true=>
      have e2n:(pa !=0)=false:=by simp only[bne,e2];rfl
      cases e3:(tn==0) with
      |false=>
       have t0:decide ((0:Int)<(tn:Int))=true:=by(have h:=e3;simp at h⊢;omega)
       have t0n:decide (0<tn)=true:=by(have h:=e3;simp at h⊢;omega)
       obtain rfl:=HBAD.out (hb_zero rfl (by show(nm==[]&&(pa==0&&(tk.length==0&&ar== -1)))=false;rw[HTN.out,e1,e2,e3];simp))
       go_wp2_with (go_at_call 48;refine(r13_no _ _ _).mono ?_;rintro e w9 ⟨rfl,hb⟩;have HS9:=Lib.hid (HS1.out.s.under hb);obtain⟨r0,r1,r2,z0,z1,z2⟩:=HS9.out.rc;clear hb)
       obtain⟨e0,e1,e2,hbw⟩:=HS9.out.ret (.int .i64 130) (.int .i64 0) (.string ⟨#[]⟩)
       exact bodyPost_ret (wrong_result rfl _ _ br _ _ _ rfl e0 e1 e2) rfl ⟨rfl,hbw⟩
      |true=>
       have t0:decide ((0:Int)<(tn:Int))=false:=by(have h:=e3;simp at h⊢;omega)
       have t0n:decide (0<tn)=false:=by(have h:=e3;simp at h⊢;omega)
       cases e4:(ar== -1) with
       |false=>
        have e4n:(ar != -1)=true:=by simp only[bne,e4];rfl
        obtain rfl:=HBAD.out (hb_zero rfl (by show(nm==[]&&(pa==0&&(tk.length==0&&ar== -1)))=false;rw[HTN.out,e1,e2,e3,e4];simp))
        go_wp2_with (go_at_call 48;refine(r13_no _ _ _).mono ?_;rintro e w9 ⟨rfl,hb⟩;have HS9:=Lib.hid (HS1.out.s.under hb);obtain⟨r0,r1,r2,z0,z1,z2⟩:=HS9.out.rc;clear hb)
        obtain⟨e0,e1,e2,hbw⟩:=HS9.out.ret (.int .i64 130) (.int .i64 0) (.string ⟨#[]⟩)
        exact bodyPost_ret (wrong_result rfl _ _ br _ _ _ rfl e0 e1 e2) rfl ⟨rfl,hbw⟩
       |true=>
        have e4n:(ar != -1)=false:=by simp only[bne,e4];rfl
        cases d1:decide (pa<0) with
        |false=>
         cases d2:decide (13<pa) with
         |false=>
          cases d3:decide (sl<pa) with
          |false=>
           have HG:=HGOOD.out (hb_zero_ok rfl (by show(nm==[]&&(pa==0&&(tk.length==0&&ar== -1)))=true;rw[HTN.out,e1,e2,e3,e4];rfl) (by have g1:=of_decide_eq_false d1;have g2:=of_decide_eq_false d2;have g3:=of_decide_eq_false d3;rintro(h|h|h);exact g1 h;exact g2 h;exact g3 h))
           clear HBAD HGOOD
           go_wp2_with fail
           go_loopw [7] (fun i wr=>i= .int .i64 0∧wr=W1) (fun _ _=>0)
           case atStart=>exact⟨rfl,rfl⟩
           case round=>
            obtain⟨rfl,rfl⟩:=hrel
            go_wp2_with fail
            go_roundw
            case rel=>exact⟨0+1,k,old,by simp,by omega,by omega,by omega,HS1,HG⟩
            case measure=>simp[intOf];omega
          |true=>
           obtain rfl:=HBAD.out (hb_params (.inr (.inr (of_decide_eq_true d3))))
           go_wp2_with (go_at_call 48;refine(r13_no _ _ _).mono ?_;rintro e w9 ⟨rfl,hb⟩;have HS9:=Lib.hid (HS1.out.s.under hb);obtain⟨r0,r1,r2,z0,z1,z2⟩:=HS9.out.rc;clear hb)
           obtain⟨e0,e1,e2,hbw⟩:=HS9.out.ret (.int .i64 130) (.int .i64 0) (.string ⟨#[]⟩)
           exact bodyPost_ret (wrong_result rfl _ _ br _ _ _ rfl e0 e1 e2) rfl ⟨rfl,hbw⟩
         |true=>
          obtain rfl:=HBAD.out (hb_params (.inr (.inl (of_decide_eq_true d2))))
          go_wp2_with (go_at_call 48;refine(r13_no _ _ _).mono ?_;rintro e w9 ⟨rfl,hb⟩;have HS9:=Lib.hid (HS1.out.s.under hb);obtain⟨r0,r1,r2,z0,z1,z2⟩:=HS9.out.rc;clear hb)
          obtain⟨e0,e1,e2,hbw⟩:=HS9.out.ret (.int .i64 130) (.int .i64 0) (.string ⟨#[]⟩)
          exact bodyPost_ret (wrong_result rfl _ _ br _ _ _ rfl e0 e1 e2) rfl ⟨rfl,hbw⟩
        |true=>
         obtain rfl:=HBAD.out (hb_params (.inl (of_decide_eq_true d1)))
         go_wp2_with (go_at_call 48;refine(r13_no _ _ _).mono ?_;rintro e w9 ⟨rfl,hb⟩;have HS9:=Lib.hid (HS1.out.s.under hb);obtain⟨r0,r1,r2,z0,z1,z2⟩:=HS9.out.rc;clear hb)
         obtain⟨e0,e1,e2,hbw⟩:=HS9.out.ret (.int .i64 130) (.int .i64 0) (.string ⟨#[]⟩)
         exact bodyPost_ret (wrong_result rfl _ _ br _ _ _ rfl e0 e1 e2) rfl ⟨rfl,hbw⟩
   ·have hj0b:((j:Int)==0)=false:=by simp;omega
    by_cases har:ar= -1
    ·subst har
     have HDC:Hid (∀W,Calls Tryz.prog 93 #[.string ⟨⟨nm⟩⟩] W fun e w'=>e= .returned (.bool (declaredB nm))∧Below W.heap.size W w'):=Lib.hid fun W=>by rw[←declaredR_eq];exact r13_declared nm hnm4 W
     cases e5:declaredB nm with
     |false=>
      have E5:=Lib.hid e5
      clear e5
      go_upto_region 13 with(go_at_call 93;refine(HDC.out _).mono ?_;rintro e w2 ⟨rfl,hb⟩;rw[E5.out];have HS2:=Lib.hid (HS1.out.under hb);have HX2:Hid (w2.heap[bx]? =some (.cells #[.string ⟨⟨nm⟩⟩,.int .i64 pa,.int .i64 sl,.slice fv.ta tn fv.tc,.int .i64 (-1),.slice fv.ca cn fv.cc] 33 (0,0))):=Lib.hid ((hb.block bx (Array.getElem?_eq_some_iff.1 HX1.out).1).trans HX1.out);clear hb)
      clear y0 x0 x1 x2 x3 x4 x5
      have y0:=cell_of_row w2 bp 0 _ _ _ HS2.out.s.hp
      obtain⟨x0,x1,x2,x3,x4,x5⟩:=cr6 w2 bx HX2.out
      simp only[gq] at y0 x0 x1 x2 x3 x4 x5
      obtain rfl:=HBAD.out (hb_decl hj0 rfl (by show(tk.length==0&&(declaredB nm&& !old.contains nm))=false;rw[HTN.out,E5.out];simp))
      go_wp2_with (go_at_call 48;refine(r13_no _ _ _).mono ?_;rintro e w9 ⟨rfl,hb⟩;have HS9:=Lib.hid (HS2.out.s.under hb);obtain⟨r0,r1,r2,z0,z1,z2⟩:=HS9.out.rc;clear hb)
      obtain⟨e0,e1,e2,hbw⟩:=HS9.out.ret (.int .i64 130) (.int .i64 j) (.string ⟨#[]⟩)
      exact bodyPost_ret (wrong_result rfl _ _ br _ _ _ rfl e0 e1 e2) rfl ⟨rfl,hbw⟩
     |true=>
      have E5:=Lib.hid e5
      clear e5
      go_upto_region 13 with(go_at_call 93;refine(HDC.out _).mono ?_;rintro e w2 ⟨rfl,hb⟩;rw[E5.out];have HS2:=Lib.hid (HS1.out.under hb);have HX2:Hid (w2.heap[bx]? =some (.cells #[.string ⟨⟨nm⟩⟩,.int .i64 pa,.int .i64 sl,.slice fv.ta tn fv.tc,.int .i64 (-1),.slice fv.ca cn fv.cc] 33 (0,0))):=Lib.hid ((hb.block bx (Array.getElem?_eq_some_iff.1 HX1.out).1).trans HX1.out);clear hb)
      clear y0 x0 x1 x2 x3 x4 x5
      have y0:=cell_of_row w2 bp 0 _ _ _ HS2.out.s.hp
      obtain⟨x0,x1,x2,x3,x4,x5⟩:=cr6 w2 bx HX2.out
      simp only[gq] at y0 x0 x1 x2 x3 x4 x5
      cases e3:(tn==0) with
      |false=>
       have t0:decide ((0:Int)<(tn:Int))=true:=by(have h:=e3;simp at h⊢;omega)
       have t0n:decide (0<tn)=true:=by(have h:=e3;simp at h⊢;omega)
       obtain rfl:=HBAD.out (hb_decl hj0 rfl (by show(tk.length==0&&(declaredB nm&& !old.contains nm))=false;rw[HTN.out,e3];simp))
       go_wp2_with (go_at_call 48;refine(r13_no _ _ _).mono ?_;rintro e w9 ⟨rfl,hb⟩;have HS9:=Lib.hid (HS2.out.s.under hb);obtain⟨r0,r1,r2,z0,z1,z2⟩:=HS9.out.rc;clear hb)
       obtain⟨e0,e1,e2,hbw⟩:=HS9.out.ret (.int .i64 130) (.int .i64 j) (.string ⟨#[]⟩)
       exact bodyPost_ret (wrong_result rfl _ _ br _ _ _ rfl e0 e1 e2) rfl ⟨rfl,hbw⟩
      |true=>
       have t0:decide ((0:Int)<(tn:Int))=false:=by(have h:=e3;simp at h⊢;omega)
       have t0n:decide (0<tn)=false:=by(have h:=e3;simp at h⊢;omega)
       by_cases hcn:old.count nm=0
       ·obtain⟨w3,hu,hs3,hg3⟩:=HS2.out.put nm (by omega) (by omega) (by omega) hcn
        have hk1:=HS2.out.c.look ⟨⟨nm⟩⟩ (by show nm.length≤_;omega)
        have e:old.count (⟨⟨nm⟩⟩:ByteArray).data.toList=0:=hcn
        rw[e] at hk1
        have hk1:(Instr.lookup 71 (.map (some bm)) (.string ⟨⟨nm⟩⟩) false).run Tryz.prog w2= .ok (.int .i64 0) w2:=hk1
        have hnc:=count_zero_not hcn
        have HS3:=Lib.hid hs3
        have HX3:Hid (w3.heap[bx]? =some (.cells #[.string ⟨⟨nm⟩⟩,.int .i64 pa,.int .i64 sl,.slice fv.ta tn fv.tc,.int .i64 (-1),.slice fv.ca cn fv.cc] 33 (0,0))):=Lib.hid ((hg3.block bx (Array.getElem?_eq_some_iff.1 HX2.out).1 (by intro e;injection e with e;exact hne1 e.symm)).trans HX2.out)
        have HNC:=Lib.hid hnc
        clear hs3 hg3 hcn e hnc
        have v1:=cell_of_row w3 bx 1 _ _ _ HX3.out
        have v2:=cell_of_row w3 bx 2 _ _ _ HX3.out
        have v3:=cell_of_row w3 bx 3 _ _ _ HX3.out
        have v0:=cell_of_row w3 bp 0 _ _ _ HS3.out.s.hp
        simp only[gq] at v0 v1 v2 v3
        cases d1:decide (pa<0) with
        |false=>
         cases d2:decide (13<pa) with
         |false=>
          cases d3:decide (sl<pa) with
          |false=>
           have HG:=HGOOD.out (hb_decl_ok hj0 rfl (by show(tk.length==0&&(declaredB nm&& !old.contains nm))=true;rw[HTN.out,e3,E5.out,HNC.out];rfl) (by have g1:=of_decide_eq_false d1;have g2:=of_decide_eq_false d2;have g3:=of_decide_eq_false d3;rintro(h|h|h);exact g1 h;exact g2 h;exact g3 h))
           clear HBAD HGOOD
           go_wp2_with fail
           go_loopw [7] (fun i wr=>i= .int .i64 0∧wr=w3) (fun _ _=>0)
           case atStart=>exact⟨rfl,rfl⟩
           case round=>
            obtain⟨rfl,rfl⟩:=hrel
            go_wp2_with fail
            go_roundw
            case rel=>exact⟨j+1,k+1,nm::old,by simp,by omega,by omega,by rw[List.length_cons];omega,HS3,by have h:=HG.out;rw[nextOld,if_pos ⟨hj0,rfl⟩] at h;exact Lib.hid h⟩
            case measure=>simp[intOf];omega
          |true=>
           obtain rfl:=HBAD.out (hb_params (.inr (.inr (of_decide_eq_true d3))))
           go_wp2_with (go_at_call 48;refine(r13_no _ _ _).mono ?_;rintro e w9 ⟨rfl,hb⟩;have HS9:=Lib.hid (HS3.out.s.under hb);obtain⟨r0,r1,r2,z0,z1,z2⟩:=HS9.out.rc;clear hb)
           obtain⟨e0,e1,e2,hbw⟩:=HS9.out.ret (.int .i64 130) (.int .i64 j) (.string ⟨#[]⟩)
           exact bodyPost_ret (wrong_result rfl _ _ br _ _ _ rfl e0 e1 e2) rfl ⟨rfl,hbw⟩
         |true=>
          obtain rfl:=HBAD.out (hb_params (.inr (.inl (of_decide_eq_true d2))))
          go_wp2_with (go_at_call 48;refine(r13_no _ _ _).mono ?_;rintro e w9 ⟨rfl,hb⟩;have HS9:=Lib.hid (HS3.out.s.under hb);obtain⟨r0,r1,r2,z0,z1,z2⟩:=HS9.out.rc;clear hb)
          obtain⟨e0,e1,e2,hbw⟩:=HS9.out.ret (.int .i64 130) (.int .i64 j) (.string ⟨#[]⟩)
          exact bodyPost_ret (wrong_result rfl _ _ br _ _ _ rfl e0 e1 e2) rfl ⟨rfl,hbw⟩
        |true=>
         obtain rfl:=HBAD.out (hb_params (.inl (of_decide_eq_true d1)))
         go_wp2_with (go_at_call 48;refine(r13_no _ _ _).mono ?_;rintro e w9 ⟨rfl,hb⟩;have HS9:=Lib.hid (HS3.out.s.under hb);obtain⟨r0,r1,r2,z0,z1,z2⟩:=HS9.out.rc;clear hb)
         obtain⟨e0,e1,e2,hbw⟩:=HS9.out.ret (.int .i64 130) (.int .i64 j) (.string ⟨#[]⟩)
         exact bodyPost_ret (wrong_result rfl _ _ br _ _ _ rfl e0 e1 e2) rfl ⟨rfl,hbw⟩
       ·obtain⟨cm,hcm⟩:∃cm,old.count nm=cm:=⟨_,rfl⟩
        have hk1:=HS2.out.c.look ⟨⟨nm⟩⟩ (by show nm.length≤_;omega)
        have e:old.count (⟨⟨nm⟩⟩:ByteArray).data.toList=cm:=hcm
        rw[e] at hk1
        have hnc:=count_pos_in hcn
        have tcm:decide ((0:Int)<(cm:Int))=true:=by simp;omega
        have tcmn:decide (0<cm)=true:=by simp;omega
        obtain rfl:=HBAD.out (hb_decl hj0 rfl (by show(tk.length==0&&(declaredB nm&& !old.contains nm))=false;rw[HTN.out,e3,E5.out,hnc];rfl))
        clear hcn hcm e hnc
        go_wp2_with (go_at_call 48;refine(r13_no _ _ _).mono ?_;rintro e w9 ⟨rfl,hb⟩;have HS9:=Lib.hid (HS2.out.s.under hb);obtain⟨r0,r1,r2,z0,z1,z2⟩:=HS9.out.rc;clear hb)
        obtain⟨e0,e1,e2,hbw⟩:=HS9.out.ret (.int .i64 130) (.int .i64 j) (.string ⟨#[]⟩)
        exact bodyPost_ret (wrong_result rfl _ _ br _ _ _ rfl e0 e1 e2) rfl ⟨rfl,hbw⟩
    ·have harb:(ar== -1)=false:=by simpa using har
     cases f1:(nm==[102,117,110,99]) with
     |false=>
      have hfun:((⟨⟨nm⟩⟩:ByteArray).toList==[102,117,110,99])=false:=by rw[HFUN.out,f1]
      obtain rfl:=HBAD.out (hb_odd hj0 har (.inl (by show nm≠_;intro e;rw[e] at f1;exact absurd f1 (by decide))))
      go_wp2_with (go_at_call 48;refine(r13_no _ _ _).mono ?_;rintro e w9 ⟨rfl,hb⟩;have HS9:=Lib.hid (HS1.out.s.under hb);obtain⟨r0,r1,r2,z0,z1,z2⟩:=HS9.out.rc;clear hb)
      obtain⟨e0,e1,e2,hbw⟩:=HS9.out.ret (.int .i64 130) (.int .i64 j) (.string ⟨#[]⟩)
      exact bodyPost_ret (wrong_result rfl _ _ br _ _ _ rfl e0 e1 e2) rfl ⟨rfl,hbw⟩
     |true=>
      have hfun:((⟨⟨nm⟩⟩:ByteArray).toList==[102,117,110,99])=true:=by rw[HFUN.out,f1]
      cases f2:decide (ar<0) with
      |false=>
       cases f3:decide ((j:Int)≤ar) with
       |false=>
        cases d1:decide (pa<0) with
        |false=>
         cases d2:decide (13<pa) with
         |false=>
          cases d3:decide (sl<pa) with
          |false=>
           have g2:=of_decide_eq_false f2
           have g3:=of_decide_eq_false f3
           obtain⟨r,rfl⟩:=Int.eq_ofNat_of_zero_le (show 0≤ar by omega)
           have hrj:r<j:=by omega
           have hrn:r<n:=by omega
           obtain⟨y,hy⟩:∃y,p.funcs[r]? =some y:=⟨_,List.getElem?_eq_getElem (by rw[HFN.out];exact hrn)⟩
           obtain⟨fy,hly,hhy⟩:=HALL.out r y hy
           have HHY:=Lib.hid hhy
           have HTA:Hid (headedB p.funcs j ⟨⟨⟨nm⟩⟩,pa,sl,tk,r,cd⟩ old=tk.all fun t=>decide (t<y.slots)&&decide (-(y.taken.length:Int)≤t)):=Lib.hid (hb_taken hj0 har (by rintro(h|h|h);exact h (by simpa using f1);exact g2 h;exact g3 h) (by have g1:=of_decide_eq_false d1;have g2:=of_decide_eq_false d2;have g3:=of_decide_eq_false d3;rintro(h|h|h);exact g1 h;exact g2 h;exact g3 h) (by rw[Int.toNat_natCast];exact hy))
           obtain⟨yt,hyt⟩:∃yt,y.taken.length=yt:=⟨_,rfl⟩
           rw[hyt] at HHY HTA
           have hytl:yt≤140737488351232:=by rw[←hyt];exact(HOK.out.2.2.1 y (List.mem_of_getElem? hy)).2.2.2.2.1
           have hnx:nextOld j ⟨⟨⟨nm⟩⟩,pa,sl,tk,r,cd⟩ old=old:=by rw[nextOld,if_neg (fun h=>har h.2)]
           rw[hnx] at HGOOD
           clear hy hly hhy g2 g3 hyt hnx
           go_wp2_with fail
           go_loopw [7] (fun i wr2=>∃q:Nat,i= .int .i64 q∧q≤tn∧Hid (HdS w wr2 bp br bm k #[.slice (some ⟨g,off,none⟩) n fc,.slice ga m gc] old)∧Hid (wr2.heap[bx]? =some (.cells #[.string ⟨⟨nm⟩⟩,.int .i64 pa,.int .i64 sl,.slice fv.ta tn fv.tc,.int .i64 r,.slice fv.ca cn fv.cc] 33 (0,0)))∧Hid (((tk.drop q).all fun t=>decide (t<y.slots)&&decide (-(yt:Int)≤t))=tk.all fun t=>decide (t<y.slots)&&decide (-(yt:Int)≤t))) (fun i _=>tn-(intOf i).toNat)
           case atStart=>exact⟨0,rfl,Nat.zero_le _,HS1,HX1,rfl⟩
           case round=>
            clear HS1 HX1 y0 x0 x1 x2 x3 x4 x5
            obtain⟨q,rfl,hq,HS1,HX1,HQ⟩:=hrel
            have y0:=cell_of_row wr bp 0 _ _ _ HS1.out.s.hp
            obtain⟨x0,x1,x2,x3,x4,x5⟩:=cr6 wr bx HX1.out
            simp only[gq] at y0 x0 x1 x2 x3 x4 x5
            by_cases hqt:q<tn
            ·obtain⟨t,ht⟩:∃t,tk[q]? =some t:=⟨_,List.getElem?_eq_getElem (by rw[HTN.out];exact hqt)⟩
             obtain⟨gt,ot,hta,hgtl,htc⟩:=HLF.out.1.at (by rw[List.length_map];show 0<tk.length;rw[HTN.out];omega)
             have hct:wr.cell? ⟨gt,ot+q,none⟩=some (.int .i64 t):=(HS1.out.s.low.cell (p:=⟨gt,ot+q,none⟩) hgtl).trans (htc q _ (by rw[List.getElem?_map];show(tk[q]?).map _=_;rw[ht];rfl))
             have hok:=HTK.out t (List.mem_of_getElem? ht)
             have hta:fv.ta=some ⟨gt,ot,none⟩:=hta
             rw[hta] at x3
             obtain⟨hgl,hrn2,a0,a1,a2,a3,a4,a5⟩:=HHY.out wr HS1.out.s.low
             have hdq:tk.drop q=t::tk.drop (q+1):=by rw[List.drop_eq_getElem_cons (by rw[HTN.out];exact hqt)];congr 1;exact(List.getElem?_eq_some_iff.1 ht).2
             have HQ1:=HQ.out
             rw[hdq,List.all_cons] at HQ1
             have HQQ:=Lib.hid HQ1
             clear htc hgtl hta ht hdq HQ1 HQ
             go_upto_region 23 with fail
             have hA4:Below wr.heap.size wr (wr.alloc (.cells #[.string y.name,.int .i64 y.params,.int .i64 y.slots,.slice fy.ta yt fy.tc,.int .i64 y.around,.slice fy.ca y.code.length fy.cc] 33 (0,0))):=(Below.refl _ _).alloc (Nat.le_refl _) _
             have hS4:=HS1.out.under hA4
             have hX4:(wr.alloc (.cells #[.string y.name,.int .i64 y.params,.int .i64 y.slots,.slice fy.ta yt fy.tc,.int .i64 y.around,.slice fy.ca y.code.length fy.cc] 33 (0,0))).heap[bx]? =some (.cells #[.string ⟨⟨nm⟩⟩,.int .i64 pa,.int .i64 sl,.slice fv.ta tn fv.tc,.int .i64 r,.slice fv.ca cn fv.cc] 33 (0,0)):=(hA4.block bx (Array.getElem?_eq_some_iff.1 HX1.out).1).trans HX1.out
             have hY4:=heap_alloc_new wr (.cells #[.string y.name,.int .i64 y.params,.int .i64 y.slots,.slice fy.ta yt fy.tc,.int .i64 y.around,.slice fy.ca y.code.length fy.cc] 33 (0,0))
             obtain⟨yb,hyb⟩:∃yb,wr.heap.size=yb:=⟨_,rfl⟩
             obtain⟨W4,hW4⟩:∃W4,wr.alloc (.cells #[.string y.name,.int .i64 y.params,.int .i64 y.slots,.slice fy.ta yt fy.tc,.int .i64 y.around,.slice fy.ca y.code.length fy.cc] 33 (0,0))=W4:=⟨_,rfl⟩
             simp only[hyb,hW4] at hS4 hX4 hY4⊢
             have HS4:=Lib.hid hS4
             have HX4:=Lib.hid hX4
             have b2:=cell_of_row W4 yb 2 _ _ _ hY4
             have b3:=cell_of_row W4 yb 3 _ _ _ hY4
             simp only[gq] at b2 b3
             clear hA4 hS4 hX4 hY4 hW4 hyb a0 a1 a2 a3 a4 a5 hct x0 x1 x2 x3 x4 x5 y0 HS1 HX1
             obtain⟨hok1,hok2⟩:=hok
             have hbadt:(decide (t<y.slots)&&decide (-(yt:Int)≤t))=false→R=some ⟨130,j,none⟩:=fun h=>by have e:=HQQ.out;rw[h,Bool.false_and] at e;exact HBAD.out (by rw[HTA.out];exact e.symm)
             have hgoodt:(decide (t<y.slots)&&decide (-(yt:Int)≤t))=true→Hid (((tk.drop (q+1)).all fun t=>decide (t<y.slots)&&decide (-(yt:Int)≤t))=tk.all fun t=>decide (t<y.slots)&&decide (-(yt:Int)≤t)):=fun h=>Lib.hid (by have e:=HQQ.out;rw[h,Bool.true_and] at e;exact e)
             have HBT:=Lib.hid hbadt
             have HGT:=Lib.hid hgoodt
             clear hbadt hgoodt HBAD HGOOD HQQ
             by_cases c1:y.slots≤t
             ·have c1b:decide (y.slots≤t)=true:=decide_eq_true c1
              obtain rfl:=HBT.out (by rw[decide_eq_false (show¬t<y.slots by omega)];rfl)
              go_wp2_with (go_at_call 48;refine(r13_no _ _ _).mono ?_;rintro e w9 ⟨rfl,hb⟩;have HS9:=Lib.hid (HS4.out.s.under hb);obtain⟨r0,r1,r2,z0,z1,z2⟩:=HS9.out.rc;clear hb)
              obtain⟨e0,e1,e2,hbw⟩:=HS9.out.ret (.int .i64 130) (.int .i64 j) (.string ⟨#[]⟩)
              exact bodyPost_ret (wrong_result rfl _ _ br _ _ _ rfl e0 e1 e2) rfl ⟨rfl,hbw⟩
             ·have c1b:decide (y.slots≤t)=false:=decide_eq_false c1
              by_cases c2:t<0
              ·have c2b:decide (t<0)=true:=decide_eq_true c2
               have w1:IntKind.i64.wrap (t+1)=t+1:=by rw[IntKind.wrap_i64];omega
               have w2:IntKind.i64.wrap (-(t+1))= -(t+1):=by rw[IntKind.wrap_i64];omega
               by_cases c3:(yt:Int)≤-(t+1)
               ·have c3b:decide ((yt:Int)≤-(t+1))=true:=decide_eq_true c3
                obtain rfl:=HBT.out (by rw[decide_eq_false (show¬-(yt:Int)≤t by omega),Bool.and_false])
                go_wp2_with (go_at_call 48;refine(r13_no _ _ _).mono ?_;rintro e w9 ⟨rfl,hb⟩;have HS9:=Lib.hid (HS4.out.s.under hb);obtain⟨r0,r1,r2,z0,z1,z2⟩:=HS9.out.rc;clear hb)
                obtain⟨e0,e1,e2,hbw⟩:=HS9.out.ret (.int .i64 130) (.int .i64 j) (.string ⟨#[]⟩)
                exact bodyPost_ret (wrong_result rfl _ _ br _ _ _ rfl e0 e1 e2) rfl ⟨rfl,hbw⟩
               ·have c3b:decide ((yt:Int)≤-(t+1))=false:=decide_eq_false c3
                have HQ2:=HGT.out (by rw[decide_eq_true (show t<y.slots by omega),decide_eq_true (show-(yt:Int)≤t by omega)];rfl)
                go_wp2_with fail
                go_roundw
                case rel=>exact⟨q+1,by simp,by omega,HS4,HX4,HQ2⟩
                case measure=>simp[intOf];omega
              ·have c2b:decide (t<0)=false:=decide_eq_false c2
               have HQ2:=HGT.out (by rw[decide_eq_true (show t<y.slots by omega),decide_eq_true (show-(yt:Int)≤t by omega)];rfl)
               go_wp2_with fail
               go_roundw
               case rel=>exact⟨q+1,by simp,by omega,HS4,HX4,HQ2⟩
               case measure=>simp[intOf];omega
            ·obtain rfl:q=tn:=by omega
             have hqa:=HQ.out
             rw[List.drop_of_length_le (by rw[HTN.out];exact Nat.le_refl _)] at hqa
             have HG:=HGOOD.out (by rw[HTA.out];exact hqa.symm)
             clear HBAD HGOOD hqa
             go_wp2_with fail
             go_roundw
             case rel=>exact⟨j+1,k,old,by simp,by omega,by omega,by omega,HS1,HG⟩
             case measure=>simp[intOf];omega
          |true=>
           obtain rfl:=HBAD.out (hb_params (.inr (.inr (of_decide_eq_true d3))))
           go_wp2_with (go_at_call 48;refine(r13_no _ _ _).mono ?_;rintro e w9 ⟨rfl,hb⟩;have HS9:=Lib.hid (HS1.out.s.under hb);obtain⟨r0,r1,r2,z0,z1,z2⟩:=HS9.out.rc;clear hb)
           obtain⟨e0,e1,e2,hbw⟩:=HS9.out.ret (.int .i64 130) (.int .i64 j) (.string ⟨#[]⟩)
           exact bodyPost_ret (wrong_result rfl _ _ br _ _ _ rfl e0 e1 e2) rfl ⟨rfl,hbw⟩
         |true=>
          obtain rfl:=HBAD.out (hb_params (.inr (.inl (of_decide_eq_true d2))))
          go_wp2_with (go_at_call 48;refine(r13_no _ _ _).mono ?_;rintro e w9 ⟨rfl,hb⟩;have HS9:=Lib.hid (HS1.out.s.under hb);obtain⟨r0,r1,r2,z0,z1,z2⟩:=HS9.out.rc;clear hb)
          obtain⟨e0,e1,e2,hbw⟩:=HS9.out.ret (.int .i64 130) (.int .i64 j) (.string ⟨#[]⟩)
          exact bodyPost_ret (wrong_result rfl _ _ br _ _ _ rfl e0 e1 e2) rfl ⟨rfl,hbw⟩
        |true=>
         obtain rfl:=HBAD.out (hb_params (.inl (of_decide_eq_true d1)))
         go_wp2_with (go_at_call 48;refine(r13_no _ _ _).mono ?_;rintro e w9 ⟨rfl,hb⟩;have HS9:=Lib.hid (HS1.out.s.under hb);obtain⟨r0,r1,r2,z0,z1,z2⟩:=HS9.out.rc;clear hb)
         obtain⟨e0,e1,e2,hbw⟩:=HS9.out.ret (.int .i64 130) (.int .i64 j) (.string ⟨#[]⟩)
         exact bodyPost_ret (wrong_result rfl _ _ br _ _ _ rfl e0 e1 e2) rfl ⟨rfl,hbw⟩
       |true=>
        obtain rfl:=HBAD.out (hb_odd hj0 har (.inr (.inr (of_decide_eq_true f3))))
        go_wp2_with (go_at_call 48;refine(r13_no _ _ _).mono ?_;rintro e w9 ⟨rfl,hb⟩;have HS9:=Lib.hid (HS1.out.s.under hb);obtain⟨r0,r1,r2,z0,z1,z2⟩:=HS9.out.rc;clear hb)
        obtain⟨e0,e1,e2,hbw⟩:=HS9.out.ret (.int .i64 130) (.int .i64 j) (.string ⟨#[]⟩)
        exact bodyPost_ret (wrong_result rfl _ _ br _ _ _ rfl e0 e1 e2) rfl ⟨rfl,hbw⟩
      |true=>
       obtain rfl:=HBAD.out (hb_odd hj0 har (.inr (.inl (of_decide_eq_true f2))))
       go_wp2_with (go_at_call 48;refine(r13_no _ _ _).mono ?_;rintro e w9 ⟨rfl,hb⟩;have HS9:=Lib.hid (HS1.out.s.under hb);obtain⟨r0,r1,r2,z0,z1,z2⟩:=HS9.out.rc;clear hb)
       obtain⟨e0,e1,e2,hbw⟩:=HS9.out.ret (.int .i64 130) (.int .i64 j) (.string ⟨#[]⟩)
       exact bodyPost_ret (wrong_result rfl _ _ br _ _ _ rfl e0 e1 e2) rfl ⟨rfl,hbw⟩
  ·obtain rfl:j=n:=by omega
   have hr:=HRR.out
   rw[List.drop_of_length_le (by rw[HFN.out];exact Nat.le_refl _)] at hr
   have hr2:R=none:=hr.symm
   subst hr2
   obtain⟨r0,r1,r2,z0,z1,z2⟩:=HS.out.s.rc
   go_wp2_with fail
   obtain⟨e0,e1,e2,hbw⟩:=HS.out.s.ret (.int .i64 0) (.int .i64 0) (.string ⟨#[]⟩)
   exact bodyPost_ret (wrong_result rfl _ _ br _ _ _ rfl e0 e1 e2) rfl ⟨rfl,hbw⟩
end Go.Proofs.YtagnicbknbmccaaGreatDoor
