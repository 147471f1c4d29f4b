/- guiselaw13.kept: what was lent stands as it was, and so do the marks. The law CodeRights: for every program that is not too large it answers true. -/
import Derived.Test.YtagnicbknbmccaaGreatDoorMCwF
import Derived.Test.YtagnicbknbmccaaGreatDoorSqC
import Derived.Test.YtagnicbknbmccaaGreatDoorMCyQ
import Derived.Test.YtagnicbknbmccaaGreatDoorMCzV
import Derived.Test.YtagnicbknbmccaaGreatDoorMCyK
set_option maxRecDepth 100000
set_option maxHeartbeats 8000000
namespace Go.Proofs.YtagnicbknbmccaaGreatDoor
open Go.RowKit
theorem PgAt.funcM {w:World} {p:Cp} {n m:Nat} {fa ga:Option Addr} {xs:List (Cf×Fv)} (h:PgAt w p n m fa ga xs) {j:Nat} {f:Cf} (hf:p.funcs[j]? =some f):∃g o fv,fa=some ⟨g,o,none⟩∧(f,fv)∈xs∧
  w.cell? ⟨g,o+j*6,none⟩=some (.string f.name)∧w.cell? ⟨g,o+j*6+1,none⟩=some (.int .i64 f.params)∧w.cell? ⟨g,o+j*6+2,none⟩=some (.int .i64 f.slots)∧w.cell? ⟨g,o+j*6+3,none⟩=some (.slice fv.ta f.taken.length fv.tc)∧
   w.cell? ⟨g,o+j*6+4,none⟩=some (.int .i64 f.around)∧w.cell? ⟨g,o+j*6+5,none⟩=some (.slice fv.ca f.code.length fv.cc):=by
 have hj:j<p.funcs.length:=(List.getElem?_eq_some_iff.1 hf).1
 have hl:xs.length=p.funcs.length:=by have:=congrArg List.length h.fs;simpa using this
 obtain⟨y,hy⟩:∃y,xs[j]? =some y:=⟨_,List.getElem?_eq_getElem (by omega)⟩
 have hyf:y.1=f:=by
  have:(xs.map Prod.fst)[j]? =some y.1:=by simp[hy]
  rw[h.fs,hf] at this
  exact(Option.some.inj this).symm
 obtain⟨f',fv⟩:=y
 obtain rfl:f'=f:=hyf
 obtain⟨g,o,e,hg,hc⟩:=h.fr.at (by rw[flat_len fn_len];omega)
 exact⟨g,o,fv,e,List.mem_of_getElem? hy,fn_at hc hy⟩
theorem kept_marks {p:Cp} {n m fb gb:Nat} {ys:List (Cf×Fv)} {w:World} {n0 m0 fc gc:Nat} {fa ga:Option Addr} (hp:PgAt w p n m (some ⟨fb,0,none⟩) (some ⟨gb,0,none⟩) ys) (hmg:MgAt w gb fb n m 2) (hmk:∀y∈ys,MkAt w 0 y)
  (h0:LiesC w w.heap.size p (.agg #[.slice fa n0 fc,.slice ga m0 gc])) (ht:Tame p):
  Calls Tryz.prog 19 #[.agg #[.slice (some ⟨fb,0,none⟩) n (n+2:Nat),.slice (some ⟨gb,0,none⟩) m (m+2:Nat)],.agg #[.slice fa n0 fc,.slice ga m0 gc]] w fun e w'=>e= .returned (.bool true)∧Below w.heap.size w w':=by
 have hn:n≤140737488351232:=hp.fn▸ht.ok.1
 have hm:m≤140737488351232:=hp.gn▸ht.ok.2.1
 have HS:Hid (∀W,Below w.heap.size w W→Calls Tryz.prog 25 #[.agg #[.slice (some ⟨fb,0,none⟩) n (n+2:Nat),.slice (some ⟨gb,0,none⟩) m (m+2:Nat)],.agg #[.slice fa n0 fc,.slice ga m0 gc]] W fun e w'=>e= .returned (.bool true)∧Below W.heap.size W w'):=Lib.hid fun W hb=>by
  have:=same13_any ((hp.rise hb).lies (fc:=n+2) (gc:=m+2) (by omega) (by omega)) (h0.up hb) ht.ok
  rw[sameC_self] at this
  exact this
 have HLT:Hid (gb<w.heap.size∧fb<w.heap.size):=Lib.hid ⟨World.block_lt_of_cell? w _ (hmg 0 (by omega)).1,World.block_lt_of_cell? w _ (hmg 0 (by omega)).2⟩
 have HFN:=Lib.hid hp.fn
 have HPG:Hid (∀k f,p.funcs[k]? =some f→∃fv,MkAt w 0 (f,fv)∧∀W,Below w.heap.size w W→W.cell? ⟨fb,k*6,none⟩=some (.string f.name)∧W.cell? ⟨fb,k*6+1,none⟩=some (.int .i64 f.params)∧W.cell? ⟨fb,k*6+2,none⟩=some (.int .i64 f.slots)∧W.cell? ⟨fb,k*6+3,none⟩=some (.slice fv.ta f.taken.length fv.tc)∧W.cell? ⟨fb,k*6+4,none⟩=some (.int .i64 f.around)∧W.cell? ⟨fb,k*6+5,none⟩=some (.slice fv.ca f.code.length fv.cc)):=Lib.hid fun k f hf=>by
  obtain⟨g,o,fv,e,hm,c0,c1,c2,c3,c4,c5⟩:=hp.funcM hf
  cases e
  simp only[Nat.zero_add] at c0 c1 c2 c3 c4 c5
  exact⟨fv,hmk _ hm,fun W hW=>⟨old_cell0 c0 hW,old_cell0 c1 hW,old_cell0 c2 hW,old_cell0 c3 hW,old_cell0 c4 hW,old_cell0 c5 hW⟩⟩
 have HLEN:Hid (∀(k:Nat) (f:Cf),p.funcs[k]? =some f→f.taken.length≤140737488351232∧f.code.length≤140737488351232):=Lib.hid fun k f hf=>by
  have:=ht.ok.2.2.1 f (List.mem_of_getElem? hf)
  exact⟨by have:=this.2.2.2.2.1;omega,by have:=this.2.2.2.2.2.1;omega⟩
 have HMG:=Lib.hid hmg
 have hW:∀X:World,X=(w.alloc (.cells #[.slice (some ⟨fb,0,none⟩) n (n+2:Nat),.slice (some ⟨gb,0,none⟩) m (m+2:Nat)] 27 (0,0))).alloc (.cells #[.slice fa n0 fc,.slice ga m0 gc] 27 (0,0))→Below w.heap.size w X∧X.heap[w.heap.size]? =some (.cells #[.slice (some ⟨fb,0,none⟩) n (n+2:Nat),.slice (some ⟨gb,0,none⟩) m (m+2:Nat)] 27 (0,0))∧X.heap[w.heap.size+1]? =some (.cells #[.slice fa n0 fc,.slice ga m0 gc] 27 (0,0)):=by
  rintro X rfl
  have h2:=heap_alloc_new (w.alloc (.cells #[.slice (some ⟨fb,0,none⟩) n (n+2:Nat),.slice (some ⟨gb,0,none⟩) m (m+2:Nat)] 27 (0,0))) (.cells #[.slice fa n0 fc,.slice ga m0 gc] 27 (0,0))
  rw[World.size_alloc] at h2
  exact⟨((Below.refl _ _).alloc (Nat.le_refl _) _).alloc (by simp) _,(heap_alloc_old _ _ (by simp)).trans (heap_alloc_new w _),h2⟩
 have HW:=Lib.hid hW
 clear hp hmg hmk h0 ht hW
 obtain⟨M2,hM2⟩:∃M2:Nat,m+2=M2:=⟨_,rfl⟩
 obtain⟨N2,hN2⟩:∃N2:Nat,n+2=N2:=⟨_,rfl⟩
 have hwm:IntKind.i64.wrap ((m:Int)+2)=(M2:Int):=by rw[IntKind.wrap_i64];omega
 have hwn:IntKind.i64.wrap ((n:Int)+2)=(N2:Int):=by rw[IntKind.wrap_i64];omega
 rw[hM2,hN2] at HS HW⊢
 have HM2:=Lib.hid hM2
 have HN2:=Lib.hid hN2
 clear hM2 hN2
 go_enter Tryz.func19,Tryz.ntmps19
 go_upto_region 1 with fail
 obtain⟨hl,ha,hb⟩:=HW.out _ rfl
 obtain⟨W1,hW1⟩:∃W1,(w.alloc (.cells #[.slice (some ⟨fb,0,none⟩) n N2,.slice (some ⟨gb,0,none⟩) m M2] 27 (0,0))).alloc (.cells #[.slice fa n0 fc,.slice ga m0 gc] 27 (0,0))=W1:=⟨_,rfl⟩
 obtain⟨ab,hab⟩:∃ab,w.heap.size=ab:=⟨_,rfl⟩
 obtain⟨bb,hbb⟩:∃bb,ab+1=bb:=⟨_,rfl⟩
 simp only[hW1,hab] at hl ha hb⊢
 simp only[hbb] at hb⊢
 have HL:Hid (Below w.heap.size w W1):=Lib.hid (by rw[hab];exact hl)
 have HAB:=Lib.hid hab
 have HA1:=Lib.hid ha
 obtain⟨a0,a1⟩:=cr2 W1 ab ha
 obtain⟨b0,b1⟩:=cr2 W1 bb hb
 simp only[gq] at a0 a1 b0 b1
 clear hW1 hl ha hb HW hab hbb
 go_upto_region 4 with(go_at_call 25;refine(HS.out _ HL.out).mono ?_;rintro e w1 ⟨rfl,hb1⟩)
 have HL1:=Lib.hid (HL.out.trans (hb1.mono HL.out.size))
 have HX1:=Lib.hid ((hb1.block ab (Array.getElem?_eq_some_iff.1 HA1.out).1).trans HA1.out)
 have HM1:=Lib.hid (HMG.out.keep (HL1.out.block gb HLT.out.1) (HL1.out.block fb HLT.out.2))
 obtain⟨p0,p1⟩:=cr2 w1 ab HX1.out
 simp only[gq] at p0 p1
 clear a0 a1 b0 b1 hb1 HS HL HA1 HMG
 go_wp2_with fail
 go_loopw [8] (fun i wr=>wr=w1∧∃j:Nat,j≤2∧i= .int .i64 j) (fun i _=>2-(intOf i).toNat)
 case atStart=>exact⟨rfl,0,by omega,rfl⟩
 case round=>
  obtain⟨rfl,j,hj,rfl⟩:=hrel
  by_cases hj2:j<2
  ·obtain⟨k1,k2⟩:=HM1.out j hj2
   simp only[markS] at k1 k2
   have hg1:m+j<M2:=by have:=HM2.out;omega
   have hg2:n+j<N2:=by have:=HN2.out;omega
   go_wp2_with fail
   go_roundw
   case rel=>exact⟨by first|rfl|trivial,j+1,by omega,by simp⟩
   case measure=>simp[intOf];omega
  ·obtain rfl:j=2:=by omega
   clear HM1
   go_wp2_with fail
   clear p0 p1
   go_loopw [9] (fun i wr=>Hid (Below w.heap.size w wr)∧Hid (wr.heap[ab]? =some (.cells #[.slice (some ⟨fb,0,none⟩) n N2,.slice (some ⟨gb,0,none⟩) m M2] 27 (0,0)))∧∃k:Nat,k≤n∧i= .int .i64 k) (fun i _=>n-(intOf i).toNat)
   case atStart=>exact⟨HL1,HX1,0,Nat.zero_le _,rfl⟩
   case round=>
    clear HL1 HX1
    obtain⟨HB,HX,k,hk,rfl⟩:=hrel
    obtain⟨p0,p1⟩:=cr2 wr ab HX.out
    simp only[gq] at p0 p1
    by_cases hkn:k<n
    ·obtain⟨f,hf⟩:∃f,p.funcs[k]? =some f:=⟨_,List.getElem?_eq_getElem (by rw[HFN.out];exact hkn)⟩
     obtain⟨fv,hMK,hC⟩:=HPG.out k f hf
     obtain⟨c0,c1,c2,c3,c4,c5⟩:=hC wr HB.out
     obtain⟨hl1,hl2⟩:=HLEN.out k f hf
     obtain⟨tb,cb,e1,e2,h3,h4,_,h6,_,h8,hMI⟩:=hMK
     replace e1:fv.ta=some ⟨tb,0,none⟩:=e1
     replace e2:fv.ca=some ⟨cb,0,none⟩:=e2
     replace h3:f.taken.length+2≤fv.tc:=h3
     replace h4:f.code.length+2≤fv.cc:=h4
     rw[e1] at c3
     rw[e2] at c5
     obtain⟨tn,htn⟩:∃tn,f.taken.length=tn:=⟨_,rfl⟩
     obtain⟨cn,hcn⟩:∃cn,f.code.length=cn:=⟨_,rfl⟩
     replace hMI:MiAt w tb cb f.taken.length f.code.length 2:=hMI
     rw[htn] at c3 h3 hl1 hMI
     rw[hcn] at c5 h4 hl2 hMI
     have HMI0:=Lib.hid hMI
     have HLB:=Lib.hid (And.intro h6 h8)
     clear hf hC e1 e2 hMI htn hcn h6 h8
     go_upto_region 15 with fail
     obtain⟨W7,xb,eW,ex,hB7,_,_,hX7,hlt7,hk7⟩:=named_alloc HB.out HB.out.size (.cells #[.string f.name,.int .i64 f.params,.int .i64 f.slots,.slice (some ⟨tb,0,none⟩) tn fv.tc,.int .i64 f.around,.slice (some ⟨cb,0,none⟩) cn fv.cc] 33 (0,0))
     simp only[eW,ex]
     have HB7:=Lib.hid hB7
     have HX2:=Lib.hid (hk7 _ _ HX.out).1
     have HMI:=Lib.hid (HMI0.out.keep (hB7.block tb HLB.out.1) (hB7.block cb HLB.out.2))
     have x3:=cell_of_row W7 xb 3 _ _ _ hX7
     have x5:=cell_of_row W7 xb 5 _ _ _ hX7
     simp only[gq] at x3 x5
     obtain⟨T2,hT2⟩:∃T2:Nat,tn+2=T2:=⟨_,rfl⟩
     obtain⟨C2,hC2⟩:∃C2:Nat,cn+2=C2:=⟨_,rfl⟩
     have hwt:IntKind.i64.wrap ((tn:Int)+2)=(T2:Int):=by rw[IntKind.wrap_i64];omega
     have hwc:IntKind.i64.wrap ((cn:Int)+2)=(C2:Int):=by rw[IntKind.wrap_i64];omega
     rw[hT2] at h3
     rw[hC2] at h4
     have HT2:=Lib.hid hT2
     have HC2:=Lib.hid hC2
     clear hT2 hC2 eW ex hB7 hX7 hlt7 hk7 HMI0 HX HB p0 p1 c0 c1 c2 c3 c4 c5
     go_wp2_with fail
     go_loopw [13] (fun i wt=>wt=W7∧∃j:Nat,j≤2∧i= .int .i64 j) (fun i _=>2-(intOf i).toNat)
     case atStart=>exact⟨rfl,0,by omega,rfl⟩
     case round=>
      obtain⟨rfl,j,hj,rfl⟩:=hrel
      by_cases hj2:j<2
      ·obtain⟨k1,k2⟩:=HMI.out j hj2
       simp only[markS] at k1 k2
       have hg1:tn+j<T2:=by have:=HT2.out;omega
       have hg2:cn+j<C2:=by have:=HC2.out;omega
       go_wp2_with fail
       go_roundw
       case rel=>exact⟨by first|rfl|trivial,j+1,by omega,by simp⟩
       case measure=>simp[intOf];omega
      ·obtain rfl:j=2:=by omega
       go_wp2_with fail
       go_roundw
       case rel=>exact⟨HB7,HX2,k+1,by omega,by simp⟩
       case measure=>simp[intOf];omega
    ·obtain rfl:k=n:=by omega
     go_wp2_with fail
     go_ret
     exact⟨rfl,HB.out⟩
theorem blk_up {w W:World} {b:Nat} {o:Obj} (h:w.heap[b]? =some o) (hb:Below w.heap.size w W):W.heap[b]? =some o:=(hb.block b (Array.getElem?_eq_some_iff.1 h).1).trans h
theorem box_add {w W:World} (h:Below w.heap.size w W) (o:Obj):∃Wn rn,W.alloc o=Wn∧W.heap.size=rn∧Below w.heap.size w Wn∧Below W.heap.size W Wn∧Wn.heap[rn]? =some o:=
 ⟨_,_,rfl,rfl,h.alloc h.size o,(Below.refl _ _).alloc (Nat.le_refl _) _,heap_alloc_new _ _⟩
theorem CodeRights_any {p:Cp} {n m fc gc:Nat} {fa ga:Option Addr} {xs:List (Cf×Fv)} {w:World} (hp:PgAt w p n m fa ga xs) (h1:n≤fc) (h2:m≤gc) (ht:Tame p) (hG:Gc w):
  Calls Tryz.prog 4 #[.agg #[.slice fa n fc,.slice ga m gc]] w fun e w'=>e= .returned (.bool true)∧Below w.heap.size w w':=by
 have HGc:Hid (∀W,Below w.heap.size w W→Gc W):=Lib.hid fun W hW=>hG.up hW
 have HLI:Hid (∀W,Below w.heap.size w W→LiesC W W.heap.size p (.agg #[.slice fa n fc,.slice ga m gc])):=Lib.hid fun W hW=>(hp.rise hW).lies h1 h2
 have HT:=Lib.hid ht
 have HWD:Hid (∀W,Below w.heap.size w W→Calls Tryz.prog 14 #[.agg #[.slice fa n fc,.slice ga m gc]] W fun e w'=>∃b,e= .returned (.bool b)∧(b=false→p.globals.length+p.funcs.length+partsN p.funcs≤90000)∧Below W.heap.size W w'):=Lib.hid fun W hW=>wide_any (HLI.out W hW) HT.out.ok
 obtain⟨A,hA⟩:∃A,wA (rightC p)=A:=⟨_,rfl⟩
 obtain⟨B,hB⟩:∃B,wB (rightC p)=B:=⟨_,rfl⟩
 obtain⟨C,hC⟩:∃C,wC (rightC p)=C:=⟨_,rfl⟩
 have HRF:Hid (∀W,Below w.heap.size w W→Calls Tryz.prog 16 #[.agg #[.slice fa n fc,.slice ga m gc]] W fun e w'=>e= .returned (.agg #[.int .i64 A,.int .i64 B,.string C])∧Below W.heap.size W w'):=Lib.hid fun W hW=>(r13_Right (hp.rise hW) HT.out).mono fun e w' h=>⟨h.1.trans (congrArg Ending.returned ((wrV_eq _).trans (by rw[hA,hB,hC]))),h.2⟩
 have HTO:Hid (∀(U W:World) (v:Value),ErAt U W (rightC p) v→Calls Tryz.prog 17 #[v,.agg #[.int .i64 A,.int .i64 B,.string C]] W fun e w2=>e= .returned (.bool true)∧Below W.heap.size W w2):=Lib.hid fun U W v h=>by
  have:=told_err h fun c hc=>right_code hc
  rw[hA,hB,hC] at this
  exact this
 have HB0:Hid (Below w.heap.size w (w.alloc (.cells #[.slice fa n fc,.slice ga m gc] 27 (0,0)))):=Lib.hid ((Below.refl _ _).alloc (Nat.le_refl _) _)
 have hP0:=heap_alloc_new w (.cells #[.slice fa n fc,.slice ga m gc] 27 (0,0))
 clear hp ht hG hA hB hC
 go_enter Tryz.func4,Tryz.ntmps4
 go_upto_region 1 with fail
 obtain⟨W1,hW1⟩:∃W1,w.alloc (.cells #[.slice fa n fc,.slice ga m gc] 27 (0,0))=W1:=⟨_,rfl⟩
 obtain⟨pb,hpb⟩:∃pb,w.heap.size=pb:=⟨_,rfl⟩
 simp only[hW1] at HB0 hP0⊢
 simp only[hpb] at hP0⊢
 have HPB:=Lib.hid hpb
 have HP1:=Lib.hid hP0
 clear hW1 hpb hP0
 go_upto_region 2 with(go_at_call 8;refine(known_any (HGc.out _ HB0.out)).mono ?_;rintro e w1 ⟨rfl,hb1⟩)
 have HB1:=Lib.hid (HB0.out.trans (hb1.mono HB0.out.size))
 have HP2:=Lib.hid ((hb1.block pb (Array.getElem?_eq_some_iff.1 HP1.out).1).trans HP1.out)
 obtain⟨p0,p1⟩:=cr2 w1 pb HP2.out
 simp only[gq] at p0 p1
 clear hb1 HB0 HP1
 go_upto_region 3 with(go_at_call 14;refine(HWD.out _ HB1.out).mono ?_;rintro e w2 ⟨wp,rfl,hwp,hb2⟩)
 have HB2:=Lib.hid (HB1.out.trans (hb2.mono HB1.out.size))
 have HP3:=Lib.hid ((hb2.block pb (Array.getElem?_eq_some_iff.1 HP2.out).1).trans HP2.out)
 clear p0 p1 hb2 HB1 HP2
 obtain⟨p0,p1⟩:=cr2 w2 pb HP3.out
 simp only[gq] at p0 p1
 cases wp with
 |true=>
  clear hwp
  go_wp2_with fail
  go_ret
  exact⟨rfl,HB2.out⟩
 |false=>
 have HLN:=Lib.hid (lent_marks (HLI.out _ HB2.out) HT.out.ok (hwp rfl))
 clear hwp
 go_upto_region 6 with(go_at_call 15;refine HLN.out.mono ?_;rintro e w3 ⟨n',m',fb,gb,ys,rfl,hp3,hmg,hmk,hf3,hg3,hb3⟩)
 have HB3:=Lib.hid (HB2.out.trans (hb3.mono HB2.out.size))
 have HPO:=Lib.hid hp3
 have HMG:=Lib.hid hmg
 have HMK:Hid (∀y∈ys,MkAt w3 0 y):=Lib.hid fun y hy=>(hmk y hy).weak (Nat.zero_le _)
 have hP4:=blk_up HP3.out hb3
 obtain⟨W4,ob,eW,eA,hB4,hl4,hO4⟩:=box_add HB3.out (.cells #[.slice (some ⟨fb,0,none⟩) n' (n'+2:Nat),.slice (some ⟨gb,0,none⟩) m' (m'+2:Nat)] 27 (0,0))
 simp only[eW,eA]
 have HB4:=Lib.hid hB4
 have HL4:=Lib.hid hl4
 have HO4:=Lib.hid hO4
 have HP4:=Lib.hid (blk_up hP4 hl4)
 have HRO:Hid (∀W,Below w3.heap.size w3 W→Below w.heap.size w W→Calls Tryz.prog 11 #[.agg #[.slice (some ⟨fb,0,none⟩) n' (n'+2:Nat),.slice (some ⟨gb,0,none⟩) m' (m'+2:Nat)]] W (RightPost W (rightC p))):=Lib.hid fun W hW hW2=>right_all (HPO.out.rise hW) (by omega) (by omega) HT.out (HGc.out W hW2)
 have HKP:Hid (∀W,Below w3.heap.size w3 W→Below w.heap.size w W→Calls Tryz.prog 19 #[.agg #[.slice (some ⟨fb,0,none⟩) n' (n'+2:Nat),.slice (some ⟨gb,0,none⟩) m' (m'+2:Nat)],.agg #[.slice fa n fc,.slice ga m gc]] W fun e w'=>e= .returned (.bool true)∧Below W.heap.size W w'):=Lib.hid fun W hW hW2=>by
  have hg:=World.block_lt_of_cell? w3 _ (HMG.out 0 (by omega)).1
  have hf:=World.block_lt_of_cell? w3 _ (HMG.out 0 (by omega)).2
  exact kept_marks (HPO.out.rise hW) (HMG.out.keep (hW.block gb hg) (hW.block fb hf)) (fun y hy=>(HMK.out y hy).keep hW.size fun b _ hb=>hW.block b hb) (HLI.out W hW2) HT.out
 clear hp3 hmg hmk hf3 hg3 hb3 hP4 eW eA hB4 hl4 hO4 p0 p1 HPO HMG HMK HLN HB2 HB3 HP3
 obtain⟨p0,p1⟩:=cr2 W4 pb HP4.out
 simp only[gq] at p0 p1
 go_upto_region 7 with(go_at_call 16;refine(HRF.out _ HB4.out).mono ?_;rintro e w5 ⟨rfl,hb5⟩)
 have hB5:=HB4.out.trans (hb5.mono HB4.out.size)
 have hL5:=HL4.out.trans (hb5.mono HL4.out.size)
 have hP5:=blk_up HP4.out hb5
 have hO5:=blk_up HO4.out hb5
 obtain⟨W6,wb,eW,eA,hB6,hl6,hX6⟩:=box_add hB5 (.cells #[.int .i64 A,.int .i64 B,.string C] 46 (0,0))
 simp only[eW,eA]
 have HB6:=Lib.hid hB6
 have HL6:=Lib.hid (hL5.trans (hl6.mono hL5.size))
 have HP6:=Lib.hid (blk_up hP5 hl6)
 have HO6:=Lib.hid (blk_up hO5 hl6)
 have HX6:=Lib.hid hX6
 clear hb5 hB5 hL5 hP5 hO5 hB6 hl6 hX6 eW eA p0 p1 HP4 HO4 HB4 HL4
 obtain⟨o0,o1⟩:=cr2 W6 ob HO6.out
 simp only[gq] at o0 o1
 go_upto_region 8 with(go_at_call 11;refine(HRO.out _ HL6.out HB6.out).mono ?_;intro e w7 hr7;obtain⟨v7,rfl,he7,hb7⟩:=hr7.err;clear hr7)
 have HE7:=Lib.hid he7
 have HB7:=Lib.hid (HB6.out.trans (hb7.mono HB6.out.size))
 have HL7:=Lib.hid (HL6.out.trans (hb7.mono HL6.out.size))
 have HP7:=Lib.hid (blk_up HP6.out hb7)
 have HO7:=Lib.hid (blk_up HO6.out hb7)
 have HX7:=Lib.hid (blk_up HX6.out hb7)
 clear he7 hb7 o0 o1 HB6 HL6 HP6 HO6 HX6
 obtain⟨o0,o1⟩:=cr2 w7 ob HO7.out
 simp only[gq] at o0 o1
 go_upto_region 9 with(go_at_call 11;refine(HRO.out _ HL7.out HB7.out).mono ?_;intro e w8 hr8;obtain⟨v8,rfl,he8,hb8⟩:=hr8.err;clear hr8)
 have HE8:=Lib.hid he8
 have HB78:=Lib.hid hb8
 have HB8:=Lib.hid (HB7.out.trans (hb8.mono HB7.out.size))
 have HL8:=Lib.hid (HL7.out.trans (hb8.mono HL7.out.size))
 have HP8:=Lib.hid (blk_up HP7.out hb8)
 have HO8:=Lib.hid (blk_up HO7.out hb8)
 have HX8:=Lib.hid (blk_up HX7.out hb8)
 have HE78:=Lib.hid (HE7.out.up hb8)
 clear he8 hb8 o0 o1 HB7 HL7 HP7 HO7 HX7
 obtain⟨x0,x1,x2⟩:=cr3 w8 wb HX8.out
 simp only[gq] at x0 x1 x2
 go_upto_region 10 with(go_at_call 17;refine(HTO.out _ _ _ HE78.out).mono ?_;rintro e w9 ⟨rfl,hb9⟩)
 have HB9:=Lib.hid (HB8.out.trans (hb9.mono HB8.out.size))
 have HL9:=Lib.hid (HL8.out.trans (hb9.mono HL8.out.size))
 have HP9:=Lib.hid (blk_up HP8.out hb9)
 have HO9:=Lib.hid (blk_up HO8.out hb9)
 have HX9:=Lib.hid (blk_up HX8.out hb9)
 have HE89:=Lib.hid (HE8.out.up hb9)
 have HB89:=Lib.hid hb9
 clear hb9 x0 x1 x2 HB8 HL8 HP8 HO8 HX8 HE78
 obtain⟨x0,x1,x2⟩:=cr3 w9 wb HX9.out
 simp only[gq] at x0 x1 x2
 go_upto_region 11 with(go_at_call 17;refine(HTO.out _ _ _ HE89.out).mono ?_;rintro e w10 ⟨rfl,hb10⟩)
 have HB10:=Lib.hid (HB9.out.trans (hb10.mono HB9.out.size))
 have HL10:=Lib.hid (HL9.out.trans (hb10.mono HL9.out.size))
 have HP10:=Lib.hid (blk_up HP9.out hb10)
 have HO10:=Lib.hid (blk_up HO9.out hb10)
 have HFR:Hid (Calls Tryz.prog 18 #[v7,v8] w10 fun e w2=>e= .returned (.bool true)∧Below w10.heap.size w10 w2):=Lib.hid (by
  have h2:=HB89.out.trans (hb10.mono HB89.out.size)
  have hb:=HB78.out.trans (h2.mono HB78.out.size)
  have h3:=HE8.out.up h2
  exact fresh_err HE7.out h3 hb)
 clear hb10 x0 x1 x2 HB9 HL9 HP9 HO9 HX9 HE89 HB89 HB78 HE7 HE8
 go_upto_region 12 with(go_at_call 18;refine HFR.out.mono ?_;rintro e w11 ⟨rfl,hb11⟩)
 have HB11:=Lib.hid (HB10.out.trans (hb11.mono HB10.out.size))
 have HL11:=Lib.hid (HL10.out.trans (hb11.mono HL10.out.size))
 have HP11:=Lib.hid (blk_up HP10.out hb11)
 have HO11:=Lib.hid (blk_up HO10.out hb11)
 clear hb11 HB10 HL10 HP10 HO10 HFR
 obtain⟨p0,p1⟩:=cr2 w11 pb HP11.out
 obtain⟨o0,o1⟩:=cr2 w11 ob HO11.out
 simp only[gq] at p0 p1 o0 o1
 go_upto_region 13 with(go_at_call 19;refine(HKP.out _ HL11.out HB11.out).mono ?_;rintro e w12 ⟨rfl,hb12⟩)
 have HB12:=Lib.hid (HB11.out.trans (hb12.mono HB11.out.size))
 clear hb12 p0 p1 o0 o1
 go_wp2_with fail
 go_ret
 exact⟨rfl,HB12.out⟩
end Go.Proofs.YtagnicbknbmccaaGreatDoor
