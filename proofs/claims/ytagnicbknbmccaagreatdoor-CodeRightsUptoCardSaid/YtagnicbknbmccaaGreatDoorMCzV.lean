/- code.Right of any program: what it answers is rightC (the walk). guiseref13.numbers: are an instruction's numbers as the table says? -/
import Derived.Test.YtagnicbknbmccaaGreatDoorMCwF
import Derived.Test.YtagnicbknbmccaaGreatDoorSqC
import Derived.Test.YtagnicbknbmccaaGreatDoorMCzO
import Derived.Test.YtagnicbknbmccaaGreatDoorMRfF
import Derived.Test.YtagnicbknbmccaaGreatDoorMCwO
import Derived.Test.YtagnicbknbmccaaGreatDoorMCyA
set_option maxRecDepth 100000
set_option maxHeartbeats 40000000
namespace Go.Proofs.YtagnicbknbmccaaGreatDoor
open Go.RowKit
theorem right_many {p:Cp}:rightC p=match manyC p with
  |some i=>some ⟨22,i,none⟩
  |none=>if !globalsB [] (p.globals.map fun s=>s.data.toList) then some ⟨130,0,none⟩ else match headsFrom p.funcs 0 p.funcs [] with
   |some i=>some ⟨130,i,none⟩
   |none=>match codesFrom p 0 p.funcs with
    |some w=>some w
    |none=>fitsFrom 0 p.funcs:=by
 unfold rightC manyC
 split
 ·rfl
 ·cases manyFrom p.funcs 0<;>rfl
theorem many_len {p:Cp} (h:manyC p=none) (hs:manySum p.funcs≤4000000000000):p.funcs.length≤20000∧manySum p.funcs≤60000:=by
 have:=manySum_pos p.funcs
 unfold manyC at h
 rw[show IntKind.i64.wrap (manySum p.funcs)=manySum p.funcs by rw[IntKind.wrap_i64];omega] at h
 split at h
 ·cases h
 ·omega
theorem RightPost.wrong {w wr w':World} {c a:Int} {i:Option Int} {b:Nat} (hb:Below w.heap.size w wr) (h1:Below wr.heap.size wr w') (hl:wr.heap.size≤b) (hw:WrAt w' b c a i):RightPost w (some ⟨c,a,i⟩) (.returned (.iface 42 (.pointer (some ⟨b,0,none⟩)))) w':=
 ⟨hb.trans (h1.mono hb.size),b,rfl,Nat.le_trans hb.size hl,hw⟩
theorem WrongPost.out {w:World} {c a:Int} {i:Option Int} {e:Ending} {w':World} (h:WrongPost w c a i e w'):∃b,e= .returned (.pointer (some ⟨b,0,none⟩))∧Below w.heap.size w w'∧w.heap.size≤b∧WrAt w' b c a i:=by
 obtain⟨h1,b,h2,h3,h4⟩:=h
 exact⟨b,h2,h1,h3,h4⟩
theorem right_all {p:Cp} {n m fc gc:Nat} {fa ga:Option Addr} {xs:List (Cf×Fv)} {w:World} (hp:PgAt w p n m fa ga xs) (h1:n≤fc) (h2:m≤gc) (ht:Tame p) (hG:Gc w):
  Calls Tryz.prog 11 #[.agg #[.slice fa n fc,.slice ga m gc]] w (RightPost w (rightC p)):=by
 obtain⟨R,HR⟩:∃R,Hid (rightC p=R):=⟨_,rfl⟩
 rw[HR.out]
 have HE:=Lib.hid ((right_many (p:=p)).symm.trans HR.out)
 have HPG:=Lib.hid hp
 have HT:=Lib.hid ht
 have HGc:=Lib.hid hG
 have hnl:=hp.fn
 have hml:=hp.gn
 have HN:=Lib.hid hnl
 have HM:=Lib.hid hml
 have hn:n≤140737488351232:=hnl▸ht.ok.1
 have hm2:m≤140737488351232:=hml▸ht.ok.2.1
 have h13:=hG.size
 have HMA:Hid (∀W,Below w.heap.size w W→Calls Tryz.prog 33 #[.agg #[.slice fa n fc,.slice ga m gc]] W (ManyPost W (manyC p))):=Lib.hid fun W hW=>codeMany_any (hp.rise hW) ht.ok ht.sum
 have HGL:Hid (∀W,Below w.heap.size w W→Calls Tryz.prog 34 #[.slice ga m gc] W fun e w'=>e= .returned (.bool (globalsB [] (p.globals.map fun s=>s.data.toList)))∧Below W.heap.size W w'):=Lib.hid fun W hW=>by
  have:=globals_any p.globals ga gc W (hG.up hW) (hp.rise hW).gr ht.ok.2.1 ht.ok.2.2.2
  rw[hml] at this
  exact this
 have HHD:Hid (∀(W:World) (i b k:Nat) (old:List (List UInt8)) (f:Cf),Below w.heap.size w W→w.heap.size≤b→CntAt W b k old→k≤100000000000000→old.length≤100000000000000→p.funcs[i]? =some f→Calls Tryz.prog 36 #[.agg #[.slice fa n fc,.slice ga m gc],.int .i64 i,.map (some b)] W (HeadPost w W b k (headedB p.funcs i f old) (nextOld i f old))):=
  Lib.hid fun W i b k old f hW hb hc hk ho hf=>headed_any hp ht.ok (ht.names f (List.mem_of_getElem? hf)) hW (hG.up hW) h13 hb hc hk ho hf
 have HLV:Hid (∀(W:World),Below w.heap.size w W→LiesC W W.heap.size p (.agg #[.slice fa n fc,.slice ga m gc])):=Lib.hid fun W hW=>(hp.rise hW).lies h1 h2
 have HFN:Hid (∀(W:World),Below w.heap.size w W→∀i f,p.funcs[i]? =some f→∃g q fv,fa=some ⟨g,q,none⟩∧LiesF w w.heap.size (f,fv)∧HeadAt W g q i n f.name f.params f.slots f.around fv.ta f.taken.length fv.tc fv.ca f.code.length fv.cc):=Lib.hid fun W hW i f hf=>headAt_of hp hW hf
 have hm:=mapNew
 clear hp ht hG hnl hml h1 h2
 have HB0:Hid (Below w.heap.size w (w.alloc (.cells #[.slice fa n fc,.slice ga m gc] 27 (0,0)))):=Lib.hid ((Below.refl _ _).alloc (Nat.le_refl _) _)
 have HP0:=Lib.hid (heap_alloc_new w (.cells #[.slice fa n fc,.slice ga m gc] 27 (0,0)))
 go_enter Tryz.func11,Tryz.ntmps11
 cases hM:manyC p with
 |some i0=>
  rw[hM] at HMA HE
  have hR:R=some ⟨22,i0,none⟩:=HE.out.symm
  subst hR
  clear hM
  go_wp2_with (go_at_call 33;refine(HMA.out _ HB0.out).mono ?_;intro e w1 hpost;obtain⟨b,rfl,hb1,hl1,hw1⟩:=WrongPost.out hpost;clear hpost)
  go_ret
  exact RightPost.wrong HB0.out hb1 hl1 hw1
 |none=>
 have hlen:=many_len hM HT.out.sum
 rw[HN.out] at hlen
 obtain⟨hn2,hsum⟩:=hlen
 have HSUM:=Lib.hid hsum
 rw[hM] at HMA HE
 clear hM hsum
 cases hGB:globalsB [] (p.globals.map fun s=>s.data.toList) with
 |false=>
  rw[hGB] at HGL HE
  have hR:R=some ⟨130,0,none⟩:=HE.out.symm
  subst hR
  clear hGB
  go_wp2_with (first
   |(go_at_call 33;refine(HMA.out _ HB0.out).mono ?_;rintro e w1 ⟨rfl,hb1⟩;have hB1:=HB0.out.trans (hb1.mono HB0.out.size);have hP1:=(hb1.block _ (Array.getElem?_eq_some_iff.1 HP0.out).1).trans HP0.out;have p1:=cell_of_row w1 _ 1 _ _ _ hP1;simp only[gq] at p1;have HB1:=Lib.hid hB1;clear hB1 hP1 hb1)
   |(go_at_call 34;refine(HGL.out _ HB1.out).mono ?_;rintro e w2 ⟨rfl,hb2⟩;have HB2:=Lib.hid (HB1.out.trans (hb2.mono HB1.out.size));clear hb2)
   |(go_at_call 35;refine(wrong_none 130 0 _).mono ?_;intro e w3 hpost;obtain⟨b,rfl,hb3,hl3,hw3⟩:=WrongPost.out hpost;clear hpost))
  go_ret
  exact RightPost.wrong HB2.out hb3 hl3 hw3
 |true=>
 rw[hGB] at HGL HE
 clear hGB
 have HE2:Hid ((match headsFrom p.funcs 0 p.funcs [] with
   |some i=>some ⟨130,i,none⟩
   |none=>match codesFrom p 0 p.funcs with
    |some w=>some w
    |none=>fitsFrom 0 p.funcs:Option Cwr)=R):=Lib.hid HE.out
 obtain⟨RH,HRH⟩:∃RH,Hid (headsFrom p.funcs 0 p.funcs []=RH):=⟨_,rfl⟩
 rw[HRH.out] at HE2
 clear HE
 go_wp2_with (first
  |(go_at_call 33;refine(HMA.out _ HB0.out).mono ?_;rintro e w1 ⟨rfl,hb1⟩;have hB1:=HB0.out.trans (hb1.mono HB0.out.size);have hP1:=(hb1.block _ (Array.getElem?_eq_some_iff.1 HP0.out).1).trans HP0.out;have p1:=cell_of_row w1 _ 1 _ _ _ hP1;simp only[gq] at p1;have HB1:=Lib.hid hB1;have HP1:=Lib.hid hP1;clear hB1 hP1 hb1)
  |(go_at_call 34;refine(HGL.out _ HB1.out).mono ?_;rintro e w2 ⟨rfl,hb2⟩;have hB2:=HB1.out.trans (hb2.mono HB1.out.size);have hP2:=(hb2.block _ (Array.getElem?_eq_some_iff.1 HP1.out).1).trans HP1.out;have hP3:=(heap_alloc_old w2 (.map #[] 0) (Array.getElem?_eq_some_iff.1 hP2).1).trans hP2;have q0:=cell_of_row _ _ 0 _ _ _ hP3;simp only[gq] at q0;have HB2:=Lib.hid hB2;have HP2:=Lib.hid hP2;clear hB2 hP2 hb2))
 have HB3:Hid (Below w.heap.size w (w2.alloc (.map #[] 0))):=Lib.hid (HB2.out.alloc HB2.out.size _)
 have HP3:Hid ((w2.alloc (.map #[] 0)).heap[w.heap.size]? =some (.cells #[.slice fa n fc,.slice ga m gc] 27 (0,0))):=Lib.hid ((heap_alloc_old _ _ (Array.getElem?_eq_some_iff.1 HP2.out).1).trans HP2.out)
 have HC3:=Lib.hid (CntAt.made w2)
 have hmb:w.heap.size<w2.heap.size:=(Array.getElem?_eq_some_iff.1 HP2.out).1
 obtain⟨mb,hmb2⟩:∃mb,w2.heap.size=mb:=⟨_,rfl⟩
 rw[hmb2] at HC3 hmb
 rw[hmb2]
 clear hmb2 p1 q0 hP3
 go_loopw [28] (fun i wr=>Hid (Below w.heap.size w wr)∧Hid (wr.heap[w.heap.size]? =some (.cells #[.slice fa n fc,.slice ga m gc] 27 (0,0)))∧∃j:Nat,j≤n∧i= .int .i64 j∧∃old:List (List UInt8),old.length≤j∧Hid (CntAt wr mb j old)∧Hid (headsFrom p.funcs j (p.funcs.drop j) old=RH)) (fun i _=>n-(intOf i).toNat)
 case atStart=>exact⟨HB3,HP3,0,Nat.zero_le _,rfl,[],Nat.le_refl _,HC3,HRH⟩
 case round=>
  clear HB3 HP3 HC3
  obtain⟨HB,HP,j,hj,rfl,old,hol,HC,HI⟩:=hrel
  obtain⟨q0,q1⟩:=cr2 wr _ HP.out
  simp only[gq] at q0 q1
  by_cases hlt:j<n
  ·obtain⟨f,hf⟩:∃f,p.funcs[j]? =some f:=⟨_,List.getElem?_eq_getElem (by rw[HN.out];exact hlt)⟩
   have HF:=Lib.hid (HHD.out wr j mb j old f HB.out (Nat.le_of_lt hmb) HC.out (by omega) (by omega) hf)
   have hq:=HI.out
   rw[drop_cons hf,headsFrom_cons] at hq
   have hnx:=nextOld_len j f old
   clear hf
   cases hh:headedB p.funcs j f old with
   |true=>
    rw[hh] at HF hq
    have HQ:=Lib.hid hq
    clear hh hq
    go_wp2_with (go_at_call 36;refine HF.out.mono ?_;rintro e w4 ⟨rfl,hb4,hc4,hk4⟩;have HB4:=Lib.hid hb4;have HC4:=Lib.hid (hc4 rfl);have HP4:=Lib.hid ((hk4 _ (Array.getElem?_eq_some_iff.1 HP.out).1 (by omega)).trans HP.out);clear hb4 hc4 hk4)
    go_roundw
    case rel=>exact⟨HB4,HP4,j+1,by omega,by go_num,_,by omega,HC4,HQ⟩
    case measure=>simp[intOf];omega
   |false=>
    rw[hh] at HF hq
    have hR:R=some ⟨130,j,none⟩:=by
     rw[if_neg (by simp)] at hq
     have:=HE2.out
     rw[←hq] at this
     exact this.symm
    subst hR
    clear hh hq HI HRH HE2
    go_wp2_with (first
     |(go_at_call 36;refine HF.out.mono ?_;rintro e w4 ⟨rfl,hb4,hc4,hk4⟩;have HB4:=Lib.hid hb4;clear hb4 hc4 hk4)
     |(go_at_call 35;refine(wrong_none 130 j _).mono ?_;intro e w3 hpost;obtain⟨b,rfl,hb3,hl3,hw3⟩:=WrongPost.out hpost;clear hpost))
    go_ret
    exact RightPost.wrong HB4.out hb3 hl3 hw3
  ·obtain rfl:j=n:=by omega
   have hRH:RH=none:=by
    rw[←HI.out,List.drop_of_length_le (by rw[HN.out];exact Nat.le_refl _)]
    rfl
   subst hRH
   have HE3:Hid ((match codesFrom p 0 p.funcs with
    |some w=>some w
    |none=>fitsFrom 0 p.funcs:Option Cwr)=R):=Lib.hid HE2.out
   obtain⟨RC,HRC⟩:∃RC,Hid (codesFrom p 0 p.funcs=RC):=⟨_,rfl⟩
   rw[HRC.out] at HE3
   clear HI HRH HE2 HC hol
   go_wp2_with fail
   clear q0 q1
   go_loopw [43] (fun i wr=>Hid (Below w.heap.size w wr)∧Hid (wr.heap[w.heap.size]? =some (.cells #[.slice fa j fc,.slice ga m gc] 27 (0,0)))∧∃q:Nat,q≤j∧i= .int .i64 q∧Hid (codesFrom p q (p.funcs.drop q)=RC)) (fun i _=>j-(intOf i).toNat)
   case atStart=>exact⟨HB,HP,0,Nat.zero_le _,rfl,HRC⟩
   case round=>
    clear HB HP
    obtain⟨HB,HP,q,hq,rfl,HI⟩:=hrel
    obtain⟨q0,q1⟩:=cr2 wr _ HP.out
    simp only[gq] at q0 q1
    by_cases hlt:q<j
    ·obtain⟨f,hf⟩:∃f,p.funcs[q]? =some f:=⟨_,List.getElem?_eq_getElem (by rw[HN.out];exact hlt)⟩
     obtain⟨g,off,fv,rfl,_,hA⟩:=HFN.out wr HB.out q f hf
     have HF:=Lib.hid hf
     have hi:=HI.out
     rw[drop_cons hf,codesFrom_cons] at hi
     have hcl:(f.code.length:Int)≤60000:=Int.le_trans (sum_mem p.funcs f (List.mem_of_getElem? hf)) HSUM.out
     obtain⟨cn,hcn⟩:∃cn,f.code.length=cn:=⟨_,rfl⟩
     have HCN:=Lib.hid hcn
     obtain⟨tn,htn⟩:∃tn,f.taken.length=tn:=⟨_,rfl⟩
     rw[hcn,htn] at hA
     rw[hcn] at hcl
     have hg:=hA.lt
     have x0:=hA.x0
     have x1:=hA.x1
     have x2:=hA.x2
     have x3:=hA.x3
     have x4:=hA.x4
     have x5:=hA.x5
     clear hA hf hcn htn
     by_cases hne:cn=0
     ·subst hne
      have hR:R=some ⟨130,q,none⟩:=by
       rw[if_pos (List.length_eq_zero_iff.1 HCN.out)] at hi
       have:=HE3.out
       rw[←hi] at this
       exact this.symm
      subst hR
      clear hi HI HRC HE3 hcl
      have HB4:Hid (∀o,Below w.heap.size w (wr.alloc o)):=Lib.hid fun o=>HB.out.alloc HB.out.size _
      go_wp2_with (go_at_call 35;refine(wrong_none 130 q _).mono ?_;intro e w3 hpost;obtain⟨b,rfl,hb3,hl3,hw3⟩:=WrongPost.out hpost;clear hpost)
      go_ret
      exact RightPost.wrong (HB4.out _) hb3 hl3 hw3
     ·rw[if_neg (fun e=>hne (by rw[←HCN.out,e];rfl))] at hi
      have HI2:=Lib.hid hi
      have dn:((cn:Int)==0)=false:=by simp;omega
      clear hi HI
      obtain⟨RF,HRF⟩:∃RF,Hid (fineFrom p q f.code 0 f.code=RF):=⟨_,rfl⟩
      rw[HRF.out] at HI2
      go_wp2_with fail
      have HB5:Hid (Below w.heap.size w (wr.alloc (.cells #[.string f.name,.int .i64 f.params,.int .i64 f.slots,.slice fv.ta tn fv.tc,.int .i64 f.around,.slice fv.ca cn fv.cc] 33 (0,0)))):=Lib.hid (HB.out.alloc HB.out.size _)
      have HP5:Hid ((wr.alloc (.cells #[.string f.name,.int .i64 f.params,.int .i64 f.slots,.slice fv.ta tn fv.tc,.int .i64 f.around,.slice fv.ca cn fv.cc] 33 (0,0))).heap[w.heap.size]? =some (.cells #[.slice (some ⟨g,off,none⟩) j fc,.slice ga m gc] 27 (0,0))):=Lib.hid ((heap_alloc_old _ _ (Array.getElem?_eq_some_iff.1 HP.out).1).trans HP.out)
      go_loopw [58] (fun i wr=>Hid (Below w.heap.size w wr)∧Hid (wr.heap[w.heap.size]? =some (.cells #[.slice (some ⟨g,off,none⟩) j fc,.slice ga m gc] 27 (0,0)))∧∃k:Nat,i= .int .i64 k∧k≤cn∧Hid (fineFrom p q f.code k (f.code.drop k)=RF)) (fun i _=>cn-(intOf i).toNat)
      case atStart=>exact⟨HB5,HP5,0,rfl,Nat.zero_le _,HRF⟩
      case round=>
       clear HB HP HB5 HP5 q0 q1 x0 x1 x2 x3 x4 x5 dn
       obtain⟨HB,HP,k,rfl,hk,HK⟩:=hrel
       obtain⟨q0,q1⟩:=cr2 wr _ HP.out
       simp only[gq] at q0 q1
       by_cases hlt2:k<cn
       ·obtain⟨x,hx⟩:∃x,f.code[k]? =some x:=⟨_,List.getElem?_eq_getElem (by rw[HCN.out];exact hlt2)⟩
        have hq2:=HK.out
        rw[drop_cons hx,fineFrom_cons] at hq2
        have HFI:=Lib.hid (fine_any (HGc.out.up HB.out) (HLV.out _ HB.out) HF.out hx (by rw[HCN.out];omega) (fun h=>HT.out.says HF.out hx h))
        clear hx
        cases hfb:fineB p q f.code k x with
        |true=>
         rw[hfb] at HFI hq2
         have HK2:=Lib.hid hq2
         clear hfb hq2
         go_wp2_with (go_at_call 37;refine HFI.out.mono ?_;rintro e w4 ⟨rfl,hb4⟩;have HB4:=Lib.hid (HB.out.trans (hb4.mono HB.out.size));have HP4:=Lib.hid ((hb4.block _ (Array.getElem?_eq_some_iff.1 HP.out).1).trans HP.out);clear hb4)
         go_roundw
         case rel=>exact⟨HB4,HP4,k+1,by go_num,by omega,HK2⟩
         case measure=>simp[intOf];omega
        |false=>
         rw[hfb] at HFI hq2
         have hR:R=some ⟨130,q,some k⟩:=by
          rw[if_neg (by simp)] at hq2
          have h3:=HI2.out
          rw[←hq2] at h3
          have:=HE3.out
          rw[←h3] at this
          exact this.symm
         subst hR
         clear hfb hq2 HI2 HRF HRC HE3 HK
         go_wp2_with (first
          |(go_at_call 37;refine HFI.out.mono ?_;rintro e w4 ⟨rfl,hb4⟩;have HB4:=Lib.hid (HB.out.trans (hb4.mono HB.out.size));clear hb4)
          |(go_at_call 35;refine(wrong_some 130 q k (by omega) _ (HGc.out.up HB4.out)).mono ?_;intro e w3 hpost;obtain⟨b,rfl,hb3,hl3,hw3⟩:=WrongPost.out hpost;clear hpost))
         go_ret
         exact RightPost.wrong HB4.out hb3 hl3 hw3
       ·obtain rfl:k=cn:=by omega
        have hRF:RF=none:=by
         rw[←HK.out,List.drop_of_length_le (by rw[HCN.out];exact Nat.le_refl _)]
         rfl
        subst hRF
        have HI3:Hid (codesFrom p (q+1) (p.funcs.drop (q+1))=RC):=Lib.hid HI2.out
        go_wp2_with fail
        go_roundw
        case rel=>exact⟨HB,HP,q+1,by omega,by go_num,HI3⟩
        case measure=>simp[intOf];omega
    ·obtain rfl:q=j:=by omega
     have hRC:RC=none:=by
      rw[←HI.out,List.drop_of_length_le (by rw[HN.out];exact Nat.le_refl _)]
      rfl
     subst hRC
     have HE4:Hid (fitsFrom 0 p.funcs=R):=Lib.hid HE3.out
     clear HI HE3
     go_wp2_with fail
     clear q0 q1
     go_loopw [75] (fun i wr=>Hid (Below w.heap.size w wr)∧∃k:Nat,k≤q∧i= .int .i64 k∧Hid (fitsFrom k (p.funcs.drop k)=R)) (fun i _=>q-(intOf i).toNat)
     case atStart=>exact⟨HB,0,Nat.zero_le _,rfl,HE4⟩
     case round=>
      clear HB HP
      obtain⟨HB,k,hk,rfl,HI⟩:=hrel
      by_cases hlt:k<q
      ·obtain⟨f,hf⟩:∃f,p.funcs[k]? =some f:=⟨_,List.getElem?_eq_getElem (by rw[HN.out];exact hlt)⟩
       obtain⟨g,off,fv,rfl,hl,hA⟩:=HFN.out wr HB.out k f hf
       have hi:=HI.out
       rw[drop_cons hf,fitsFrom_cons] at hi
       have hcl:(f.code.length:Int)≤60000:=Int.le_trans (sum_mem p.funcs f (List.mem_of_getElem? hf)) HSUM.out
       obtain⟨c1,c2,c3⟩:=codes_fit HRC.out hf
       have HBD:Hid (∀e,fitsP f.code=some e→0≤e∧e≤60000):=Lib.hid fun e he=>by have:=fits_bd c1 c2 he;omega
       have HFI:Hid (∀W,Below w.heap.size w W→Calls Tryz.prog 38 #[fnV (f,fv)] W fun e w'=>e= .returned (.int .i64 (fitsR (fitsP f.code)))∧Below W.heap.size W w'):=
        Lib.hid fun W hW=>fits_any ((hl.2.1.keep hW.block).more hW.size) c1 (by omega) c2 c3
       have hg:=hA.lt
       have x0:=hA.x0
       have x1:=hA.x1
       have x2:=hA.x2
       have x3:=hA.x3
       have x4:=hA.x4
       have x5:=hA.x5
       simp only[fnV] at HFI
       have HB4:Hid (∀o,Below w.heap.size w (wr.alloc o)):=Lib.hid fun o=>HB.out.alloc HB.out.size _
       clear hA hf hl c1 c2 c3 hcl
       cases hfp:fitsP f.code with
       |none=>
        rw[hfp] at HFI hi
        have HI2:=Lib.hid hi
        clear hfp hi
        have d:decide ((0:Int)≤-1)=false:=rfl
        go_wp2_with (go_at_call 38;refine(HFI.out _ (HB4.out _)).mono ?_;rintro e w4 ⟨rfl,hb4⟩;have HB5:=Lib.hid ((HB4.out _).trans (hb4.mono (HB4.out _).size));clear hb4;simp only[fitsR])
        go_roundw
        case rel=>exact⟨HB5,k+1,by omega,by go_num,HI2⟩
        case measure=>simp[intOf];omega
       |some z=>
        obtain⟨hz0,hz1⟩:=HBD.out z hfp
        obtain⟨jz,rfl⟩:=Int.eq_ofNat_of_zero_le hz0
        rw[hfp] at HFI hi
        have hR:R=some ⟨130,k,some (jz:Int)⟩:=hi.symm
        subst hR
        have d:decide ((0:Int)≤(jz:Int))=true:=by simp
        clear hfp hi HI HE4 HBD
        go_wp2_with (first
         |(go_at_call 38;refine(HFI.out _ (HB4.out _)).mono ?_;rintro e w4 ⟨rfl,hb4⟩;have HB5:=Lib.hid ((HB4.out _).trans (hb4.mono (HB4.out _).size));clear hb4;simp only[fitsR])
         |(go_at_call 35;refine(wrong_some 130 k jz (by omega) _ (HGc.out.up HB5.out)).mono ?_;intro e w3 hpost;obtain⟨b,rfl,hb3,hl3,hw3⟩:=WrongPost.out hpost;clear hpost))
        go_ret
        exact RightPost.wrong HB5.out hb3 hl3 hw3
      ·obtain rfl:k=q:=by omega
       have hR:R=none:=by
        rw[←HI.out,List.drop_of_length_le (by rw[HN.out];exact Nat.le_refl _)]
        rfl
       subst hR
       go_wp2_with fail
       go_ret
       exact⟨HB.out,rfl⟩
theorem r13_numbers {p:Cp} {n m fc gc:Nat} {fa ga:Option Addr} {xs:List (Cf×Fv)} {w:World} (hp:PgAt w p n m fa ga xs) {f:Nat} {o:Cf} (ho:p.funcs[f]? =some o) (op a b q:Int) (t:ByteArray) (hop:1≤op∧op≤53):
  Calls Tryz.prog 95 #[.agg #[.slice fa n fc,.slice ga m gc],.int .i64 f,.agg #[.int .i64 op,.int .i64 a,.int .i64 b,.string t,.int .i64 q]] w fun e w'=>e= .returned (.bool (numbersR p f o ⟨op,a,b,t,q⟩))∧Below w.heap.size w w':=by
 obtain⟨R,hR⟩:∃R,numbersR p f o ⟨op,a,b,t,q⟩=R:=⟨_,rfl⟩
 rw[hR]
 have HR:=Lib.hid hR
 clear hR
 obtain⟨g,off,fv,hfa,_,c0,c1,c2,c3,c4,c5⟩:=hp.func ho
 have hfn:f<n:=by rw[←hp.fn];exact(List.getElem?_eq_some_iff.1 ho).1
 have hall:∀(i:Nat) (y:Cf),p.funcs[i]? =some y→i<n∧w.cell? ⟨g,off+i*6+4,none⟩=some (.int .i64 y.around):=fun i y hy=>by
  obtain⟨g',off',fv',e,_,_,_,_,_,d4,_⟩:=hp.func hy
  rw[hfa] at e
  injection e with e
  injection e with e1 e2
  subst e1 e2
  exact⟨by rw[←hp.fn];exact(List.getElem?_eq_some_iff.1 hy).1,d4⟩
 have HALL:=Lib.hid hall
 have HFN:=Lib.hid hp.fn
 have HGN:=Lib.hid hp.gn
 have hgl:g<w.heap.size:=World.block_lt_of_cell? w ⟨g,off+f*6,none⟩ c0
 subst hfa
 clear hall hp ho
 obtain⟨tn,htn⟩:∃tn,o.taken.length=tn:=⟨_,rfl⟩
 obtain⟨cn,hcn⟩:∃cn,o.code.length=cn:=⟨_,rfl⟩
 have HTN:=Lib.hid htn
 have HCN:=Lib.hid hcn
 rw[htn] at c3
 rw[hcn] at c5
 clear htn hcn
 go_enter Tryz.func95,Tryz.ntmps95
 go_upto_region 2 with fail
 obtain⟨k1,k2,k3,kb,_⟩:=below3 w (.cells #[.slice (some ⟨g,off,none⟩) n fc,.slice ga m gc] 27 (0,0)) (.cells #[.int .i64 op,.int .i64 a,.int .i64 b,.string t,.int .i64 q] 36 (0,0)) (.cells #[.string o.name,.int .i64 o.params,.int .i64 o.slots,.slice fv.ta tn fv.tc,.int .i64 o.around,.slice fv.ca cn fv.cc] 33 (0,0))
 obtain⟨W3,hW3⟩:∃W3,((w.alloc (.cells #[.slice (some ⟨g,off,none⟩) n fc,.slice ga m gc] 27 (0,0))).alloc (.cells #[.int .i64 op,.int .i64 a,.int .i64 b,.string t,.int .i64 q] 36 (0,0))).alloc (.cells #[.string o.name,.int .i64 o.params,.int .i64 o.slots,.slice fv.ta tn fv.tc,.int .i64 o.around,.slice fv.ca cn fv.cc] 33 (0,0))=W3:=⟨_,rfl⟩
 simp only[hW3] at k1 k2 k3 kb⊢
 obtain⟨y0,y1⟩:=cr2 W3 _ k1
 obtain⟨i0,i1,i2⟩:=cr3 W3 _ k2
 have f2:=cell_of_row W3 _ 2 _ _ _ k3
 have f3:=cell_of_row W3 _ 3 _ _ _ k3
 have f5:=cell_of_row W3 _ 5 _ _ _ k3
 simp only[gq] at y0 y1 i0 i1 i2 f2 f3 f5
 have HALL3:Hid (∀(i:Nat) (y:Cf),p.funcs[i]? =some y→i<n∧W3.cell? ⟨g,off+i*6+4,none⟩=some (.int .i64 y.around)):=Lib.hid fun i y hy=>⟨(HALL.out i y hy).1,(kb.cell (p:=⟨g,off+i*6+4,none⟩) hgl).trans (HALL.out i y hy).2⟩
 have HB:=Lib.hid kb
 clear kb k1 k2 k3 hW3 HALL c0 c1 c2 c3 c4 c5
 by_cases h26:op=26
 ·subst h26
  have HK:Hid (((a==2||a==3)&&(betw b 4&&(a==2||decide (b<2))))=R):=Lib.hid HR.out
  clear HR
  cases eb:betw b 4 with
  |false=>
   have EB:Hid ((decide (0≤b)&&decide (b<4))=false):=Lib.hid eb
   rw[eb] at HK
   clear eb
   cases e1:(a==2)<;>cases e2:(a==3)
   all_goals
    rw[e1,e2] at HK
    go_wp2_with (go_at_call 133;refine(r13_between _ _ _).mono ?_;rintro e w1 ⟨rfl,rfl⟩;rw[EB.out])
    go_ret
    exact⟨ret_bool (by rw[←HK.out];first|rfl|simp),HB.out⟩
  |true=>
   have EB:Hid ((decide (0≤b)&&decide (b<4))=true):=Lib.hid eb
   rw[eb] at HK
   clear eb
   cases e1:(a==2)<;>cases e2:(a==3)
   all_goals
    rw[e1,e2] at HK
    go_wp2_with (go_at_call 133;refine(r13_between _ _ _).mono ?_;rintro e w1 ⟨rfl,rfl⟩;rw[EB.out])
    go_ret
    exact⟨ret_bool (by rw[←HK.out];first|rfl|simp),HB.out⟩
 have z26:(op==26)=false:=by simpa using h26
 have z26n:(op !=26)=true:=by simp[h26]
 by_cases hb:b=0
 ·subst hb
  by_cases h6:op=6∨op=8∨op=22∨op=23∨op=32
  ·rcases h6 with rfl|rfl|rfl|rfl|rfl
   all_goals
    have HK:Hid ((a==0||a==1)=R):=Lib.hid HR.out
    clear HR
    cases e1:(a==0)
    all_goals
     rw[e1] at HK
     go_wp2_with fail
     go_ret
     exact⟨ret_bool (by rw[←HK.out];first|rfl|simp),HB.out⟩
  by_cases h33:op=33
  ·subst h33
   all_goals
    have HK:Hid (betw a 3=R):=Lib.hid HR.out
    clear HR
    go_wp2_with (go_at_call 133;refine(r13_between _ _ _).mono ?_;rintro e w1 ⟨rfl,rfl⟩)
    go_ret
    exact⟨ret_bool HK.out,HB.out⟩
  by_cases h9:op=9∨op=12∨op=13∨op=38
  ·rcases h9 with rfl|rfl|rfl|rfl
   all_goals
    have HK:Hid (betw a o.slots=R):=Lib.hid HR.out
    clear HR
    go_wp2_with (go_at_call 133;refine(r13_between _ _ _).mono ?_;rintro e w1 ⟨rfl,rfl⟩)
    go_ret
    exact⟨ret_bool HK.out,HB.out⟩
  by_cases h10:op=10∨op=14∨op=39
  ·rcases h10 with rfl|rfl|rfl
   all_goals
    have HK:Hid (betw a p.globals.length=R):=Lib.hid HR.out
    clear HR
    rw[HGN.out] at HK
    go_wp2_with (go_at_call 133;refine(r13_between _ _ _).mono ?_;rintro e w1 ⟨rfl,rfl⟩)
    go_ret
    exact⟨ret_bool HK.out,HB.out⟩
  by_cases h11:op=11∨op=15∨op=40
  ·rcases h11 with rfl|rfl|rfl
   all_goals
    have HK:Hid (betw a o.taken.length=R):=Lib.hid HR.out
    clear HR
    rw[HTN.out] at HK
    go_wp2_with (go_at_call 133;refine(r13_between _ _ _).mono ?_;rintro e w1 ⟨rfl,rfl⟩)
    go_ret
    exact⟨ret_bool HK.out,HB.out⟩
  by_cases h21:op=21
  ·subst h21
   all_goals
    have HK:Hid ((decide (1≤a)&&decide (a≤7))=R):=Lib.hid HR.out
    clear HR
    cases e1:decide (1≤a)
    all_goals
     rw[e1] at HK
     go_wp2_with fail
     go_ret
     exact⟨ret_bool (by rw[←HK.out];first|rfl|simp),HB.out⟩
  by_cases h27:op=27∨op=28∨op=46∨op=47∨op=48∨op=49∨op=53
  ·rcases h27 with rfl|rfl|rfl|rfl|rfl|rfl|rfl
   all_goals
    have HK:Hid (betw a 20001=R):=Lib.hid HR.out
    clear HR
    go_wp2_with (go_at_call 133;refine(r13_between _ _ _).mono ?_;rintro e w1 ⟨rfl,rfl⟩)
    go_ret
    exact⟨ret_bool HK.out,HB.out⟩
  by_cases h29:op=29
  ·subst h29
   all_goals
    have HK:Hid (betw a 31=R):=Lib.hid HR.out
    clear HR
    go_wp2_with (go_at_call 133;refine(r13_between _ _ _).mono ?_;rintro e w1 ⟨rfl,rfl⟩)
    go_ret
    exact⟨ret_bool HK.out,HB.out⟩
  by_cases h34:op=34∨op=35∨op=36∨op=37∨op=52
  ·rcases h34 with rfl|rfl|rfl|rfl|rfl
   all_goals
    have HK:Hid (betw a o.code.length=R):=Lib.hid HR.out
    clear HR
    rw[HCN.out] at HK
    go_wp2_with (go_at_call 133;refine(r13_between _ _ _).mono ?_;rintro e w1 ⟨rfl,rfl⟩)
    go_ret
    exact⟨ret_bool HK.out,HB.out⟩
  by_cases h31:op=31
  ·subst h31
   have HK:Hid ((betw a p.funcs.length&&(decide (0<a)&&(match p.funcs[a.toNat]? with
    |none=>false
    |some g=>g.around== -1||g.around==f)))=R):=Lib.hid HR.out
   rw[HFN.out] at HK
   clear HR
   cases eb:betw a n with
   |false=>
    have EB:Hid ((decide (0≤a)&&decide (a<(n:Int)))=false):=Lib.hid eb
    rw[eb] at HK
    clear eb
    go_wp2_with (go_at_call 133;refine(r13_between _ _ _).mono ?_;rintro e w1 ⟨rfl,rfl⟩;rw[EB.out])
    go_ret
    exact⟨ret_bool HK.out,HB.out⟩
   |true=>
    have EB:Hid ((decide (0≤a)&&decide (a<(n:Int)))=true):=Lib.hid eb
    rw[eb] at HK
    unfold betw at eb
    simp only[Bool.and_eq_true,decide_eq_true_eq] at eb
    obtain⟨k,rfl⟩:=Int.eq_ofNat_of_zero_le eb.1
    have hkn:k<n:=by omega
    clear eb
    cases e0:decide ((0:Int)<(k:Int)) with
    |false=>
     have e0b:decide (0<k)=false:=by simpa using e0
     rw[e0] at HK
     go_wp2_with (go_at_call 133;refine(r13_between _ _ _).mono ?_;rintro e w1 ⟨rfl,rfl⟩;rw[EB.out])
     go_ret
     exact⟨ret_bool HK.out,HB.out⟩
    |true=>
     have e0b:decide (0<k)=true:=by simpa using e0
     rw[e0] at HK
     obtain⟨y,hy⟩:∃y,p.funcs[k]? =some y:=⟨_,List.getElem?_eq_getElem (by rw[HFN.out];exact hkn)⟩
     have hk:=HK.out
     rw[Int.toNat_natCast,hy] at hk
     have HK2:Hid ((y.around== -1||y.around==f)=R):=Lib.hid hk
     have d4:=(HALL3.out k y hy).2
     clear hk HK hy
     cases e1:(y.around== -1)<;>cases e2:(y.around==(f:Int))
     all_goals
      rw[e1,e2] at HK2
      go_wp2_with (go_at_call 133;refine(r13_between _ _ _).mono ?_;rintro e w1 ⟨rfl,rfl⟩;rw[EB.out])
      go_ret
      exact⟨ret_bool (by rw[←HK2.out];first|rfl|simp),HB.out⟩
  have hk:=HR.out
  unfold numbersR at hk
  dsimp only at hk
  rw[z26,if_neg h6,if_neg h33,if_neg h9,if_neg h10,if_neg h11,if_neg h21,if_neg h26,if_neg h27,if_neg h29,if_neg h31,if_neg h34] at hk
  have HK:Hid ((a==0)=R):=Lib.hid hk
  have z6:(op==6)=false:=by simp;omega
  have z8:(op==8)=false:=by simp;omega
  have z22:(op==22)=false:=by simp;omega
  have z23:(op==23)=false:=by simp;omega
  have z32:(op==32)=false:=by simp;omega
  have z33:(op==33)=false:=by simp;omega
  have z9:(op==9)=false:=by simp;omega
  have z12:(op==12)=false:=by simp;omega
  have z13:(op==13)=false:=by simp;omega
  have z38:(op==38)=false:=by simp;omega
  have z10:(op==10)=false:=by simp;omega
  have z14:(op==14)=false:=by simp;omega
  have z39:(op==39)=false:=by simp;omega
  have z11:(op==11)=false:=by simp;omega
  have z15:(op==15)=false:=by simp;omega
  have z40:(op==40)=false:=by simp;omega
  have z21:(op==21)=false:=by simp;omega
  have z27:(op==27)=false:=by simp;omega
  have z28:(op==28)=false:=by simp;omega
  have z46:(op==46)=false:=by simp;omega
  have z47:(op==47)=false:=by simp;omega
  have z48:(op==48)=false:=by simp;omega
  have z49:(op==49)=false:=by simp;omega
  have z53:(op==53)=false:=by simp;omega
  have z29:(op==29)=false:=by simp;omega
  have z31:(op==31)=false:=by simp;omega
  have z34:(op==34)=false:=by simp;omega
  have z35:(op==35)=false:=by simp;omega
  have z36:(op==36)=false:=by simp;omega
  have z37:(op==37)=false:=by simp;omega
  have z52:(op==52)=false:=by simp;omega
  clear hk HR h6 h33 h9 h10 h11 h21 h26 h27 h29 h31 h34 hop
  go_wp2_with fail
  go_ret
  exact⟨ret_bool HK.out,HB.out⟩
 ·have hk:=HR.out
  unfold numbersR at hk
  dsimp only at hk
  have zb:(b==0)=false:=by simpa using hb
  rw[z26,zb,Bool.or_false,Bool.false_and] at hk
  subst hk
  have zbn:(b !=0)=true:=by simp[hb]
  clear HR
  go_wp2_with fail
  go_ret
  exact⟨rfl,HB.out⟩
end Go.Proofs.YtagnicbknbmccaaGreatDoor
