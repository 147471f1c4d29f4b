/- (*reader).function, walked. code.names: so many names, a blank between, those behind the first all unlike. code.many of any program that is not too great for an int. -/
import Derived.Test.YtagnicbknbmccaaGreatDoorMCwF
import Derived.Test.YtagnicbknbmccaaGreatDoorSqC
import Derived.Test.YtagnicbknbmccaaGreatDoorMCxD
import Derived.Test.YtagnicbknbmccaaGreatDoorMCwQ
set_option maxRecDepth 100000
set_option maxHeartbeats 16000000
namespace Go.Proofs.YtagnicbknbmccaaGreatDoor
open Go.RowKit
theorem frozen_keep {w w':World} {g:Nat} (h:w'.heap[g]? =w.heap[g]?) (i:Nat):w'.frozen? ⟨g,i,none⟩=w.frozen? ⟨g,i,none⟩:=by simp[World.frozen?,h]
theorem news_at (W:World) (cs:List Value) (t:TypeId) (fr:Nat×Nat) (k:Nat) (u:Value) (hu:cs[k]? =some u):(W.alloc (.cells cs.toArray t fr)).cell? ((⟨W.heap.size,0,none⟩:Addr).add k)=some u:=by
 rw[Addr.add_lit,Nat.zero_add]
 exact(cell_of_row _ _ k _ _ _ (heap_alloc_new _ _)).trans (by rw[List.getElem?_toArray,hu])
theorem instInfo:(Tryz.prog.info? 36).map (fun i=>(i.zero,i.size,i.bytes))=some (some (.agg #[.int .i64 0,.int .i64 0,.int .i64 0,.string ⟨#[]⟩,.int .i64 0]),5,48):=by kernel_rfl
theorem rowD_stop {α:Type} (g:Drd→α×Drd) (k:Nat) (r:Drd) (h:(decide (0<k)&&r.bad.isNone)=false):rowD g k r=([],r):=by
 cases k with
 |zero=>rw[rowD]
 |succ k=>
  rw[rowD,if_neg]
  intro e
  simp[e] at h
theorem func_result (tmps:Array Value) (W:World) (g:Nat) (v0 v1 v2 v3 v4 v5:Value) (h2:tmps.getD 2 undef= .pointer (some ⟨g,0,none⟩)) (e0:W.cell? ⟨g,0,none⟩=some v0) (e1:W.cell? ⟨g,1,none⟩=some v1) (e2:W.cell? ⟨g,2,none⟩=some v2) (e3:W.cell? ⟨g,3,none⟩=some v3) (e4:W.cell? ⟨g,4,none⟩=some v4) (e5:W.cell? ⟨g,5,none⟩=some v5):
  (results Tryz.f62 tmps).run Tryz.prog W= .ok (.agg #[v0,v1,v2,v3,v4,v5]) W:=by
 have h2':tmps[2]?.getD undef= .pointer (some ⟨g,0,none⟩):=by simpa using h2
 have hres:Tryz.f62.results= #[ResultVar.cell 2 33]:=rfl
 simp[results,go_sem,h2',e0,e1,e2,e3,e4,e5]
theorem many_nat {b:List UInt8} {r:Drd} (hr:r.at_≤b.length):∃m:Nat,(manyD b r).1=(m:Int)∧m≤b.length:=by
 by_cases h:(manyD b r).2.bad=none
 ·obtain⟨h0,h1⟩:=many_ok h
  exact⟨(manyD b r).1.toNat,by omega,by omega⟩
 ·refine⟨0, ?_,Nat.zero_le _⟩
  have hz:(numD b r).2.bad≠none→(numD b r).1=0:=by
   intro h
   unfold numD at h⊢
   cases hr:r.bad with
   |some _=>simp
   |none=>
    rw[hr] at h
    simp only at h⊢
    split at h
    ·rename_i hc;exact absurd hc h
    ·rename_i hc;rw[if_neg hc]
  unfold manyD at h⊢
  dsimp only at h⊢
  split
  ·rfl
  ·rename_i hc
   rw[if_neg hc] at h
   simp[hz h]
theorem function_any {rb:Nat} {b:List UInt8} {r:Drd} {w:World} (h:BrAt rb b r w) (hbl:b.length≤2000000):Calls Tryz.prog 62 #[.pointer (some ⟨rb,0,none⟩)] w fun e w'=>∃fv:Fv,e= .returned (fnV ((funcD b r).1,fv))∧BrAt rb b (funcD b r).2 w'∧RF rb w w'∧
   w'.ownsRow w.heap.size 3 1 (.slice fv.ta (funcD b r).1.taken.length fv.tc) (funcD b r).1.taken.length ((funcD b r).1.taken.map (Value.int .i64))∧w'.ownsRow w.heap.size 36 5 (.slice fv.ca (funcD b r).1.code.length fv.cc) (funcD b r).1.code.length ((funcD b r).1.code.flatMap insCells):=by
 have HR0:=Lib.hid (show RdAt w rb b r w from⟨h,Foot.refl _ _ _,h.lt⟩)
 clear h
 go_enter Tryz.func62,Tryz.ntmps62
 go_wp2_with (first
  |(go_at_call 61;refine(rtext_any (HR0.out.alloc _).at_ (by omega)).mono ?_;rintro e w1 ⟨rfl,hb1,hf1⟩;have HR1:=Lib.hid ((HR0.out.alloc _).post hb1 hf1);have HC1:=Lib.hid ((HR0.out.box _).post HR0.out.old hf1);clear hb1 hf1)
  |(go_at_call 102;first|(refine(number_any HR2.out.at_ (by omega)).mono ?_;rintro e w3 ⟨rfl,hb3,hf3⟩;have HR3:=Lib.hid (HR2.out.post hb3 hf3);have HC3:=Lib.hid (HC2.out.post HR0.out.old hf3);clear hb3 hf3)|(refine(number_any HR1.out.at_ (by omega)).mono ?_;rintro e w2 ⟨rfl,hb2,hf2⟩;have HR2:=Lib.hid (HR1.out.post hb2 hf2);have HC2:=Lib.hid (HC1.out.post HR0.out.old hf2);clear hb2 hf2))
  |(go_at_call 60;refine(many_any (HR3.out.alloc _).at_ (by omega)).mono ?_;rintro e w4 ⟨rfl,hb4,hf4⟩;have HR4:=Lib.hid ((HR3.out.alloc _).post hb4 hf4);have HB4:=Lib.hid ((HR3.out.box _).post HR0.out.old hf4);have HC4:=Lib.hid ((HC3.out.alloc _).post HR0.out.old hf4);clear hb4 hf4))
 have hs:FnSt w rb b w3.heap.size (.string ⟨⟨(textD b r).1⟩⟩) (.int .i64 (numD b (textD b r).2).1) (.int .i64 (numD b (numD b (textD b r).2).2).1) (.slice none 0 0) (.int .i64 0) (.slice none 0 0) [] [] (manyD b (numD b (numD b (textD b r).2).2).2).2 w4:=
  ⟨HR4.out,HB4.out,HC4.out,World.ownsRow_nil _ _ _ _,World.ownsRow_nil _ _ _ _,fun g hg=>by simp[Value.ownBlock] at hg,fun g hg=>by simp[Value.ownBlock] at hg,by have:=HC3.out.lt;omega⟩
 obtain⟨m,hm,hml⟩:=many_nat HR3.out.at_.le
 obtain⟨fb,hfb⟩:∃fb,w3.heap.size=fb:=⟨_,rfl⟩
 obtain⟨S3,hS3⟩:∃S3,(numD b (numD b (textD b r).2).2).2=S3:=⟨_,rfl⟩
 obtain⟨A,hA⟩:∃A,Hid (rowD (numD b) m (manyD b S3).2=A):=⟨_,rfl⟩
 simp only[hfb,hS3] at hs hm⊢
 rw[hm]
 have HS0:=Lib.hid hs
 have HS3':=Lib.hid hS3
 have HM:=Lib.hid hm
 clear HR1 HR2 HR3 HR4 HC1 HC2 HC3 HC4 HB4 hs hS3 hm hfb
 go_loopw [4] (fun s4 wr=>∃(k:Nat) (ts:List Int) (r1:Drd) (vt:Value),s4= .int .i64 k∧k+ts.length≤2000000∧Hid (FnSt w rb b fb (.string ⟨⟨(textD b r).1⟩⟩) (.int .i64 (numD b (textD b r).2).1) (.int .i64 (numD b (numD b (textD b r).2).2).1) vt (.int .i64 0) (.slice none 0 0) ts [] r1 wr)∧Hid (ts++(rowD (numD b) k r1).1=A.1∧(rowD (numD b) k r1).2=A.2)) (fun s4 _=>(intOf s4).toNat)
 case atStart=>exact⟨m,[],_,_,rfl,by simp;omega,HS0,Lib.hid (by rw[hA.out];exact⟨rfl,rfl⟩)⟩
 case round=>
  clear HS0
  obtain⟨k,ts,r1,vt,rfl,hk,HS,HQ⟩:=hrel
  have y2:=HS.out.rd.at_.c2
  obtain⟨G,hG⟩:∃G,Hid ((decide (0<k)&&r1.bad.isNone)=G):=⟨_,rfl⟩
  go_upto_region 3 with fail
  go_cut [23] from 15 to 32 (fun s23 wx=>s23= .bool G∧wx=wr)
  case first=>
   cases k with
   |zero=>
    have d:decide ((0:Int)<((0:Nat):Int))=false:=rfl
    go_wp2_with fail
    go_meet
    exact⟨by rw[←hG.out];rfl,rfl⟩
   |succ k=>
    have d:decide (0<k+1)=true:=by simp
    cases hbad:r1.bad with
    |some i=>
     rw[hbad] at y2
     simp only[badI] at y2
     have d2:decide ((i:Int)<0)=false:=by simp
     go_wp2_with fail
     go_meet
     exact⟨by rw[←hG.out,hbad];simp,rfl⟩
    |none=>
     rw[hbad] at y2
     simp only[badI] at y2
     go_wp2_with fail
     go_meet
     exact⟨by rw[←hG.out,hbad];simp,rfl⟩
  case rest=>
   obtain⟨rfl,rfl⟩:=hcut
   cases G with
   |false=>
    have hq:=HQ.out
    rw[rowD_stop _ _ _ hG.out,List.append_nil] at hq
    dsimp only at hq
    rw[hq.1,hq.2] at HS
    clear hq HQ hG y2
    have c4:=cell_of_row wc fb 4 _ _ _ HS.out.box.1
    have f4:=frozen_of_row wc fb 4 _ _ HS.out.box.1
    go_wp2_with (first
     |(go_at_call 102;refine(number_any HS.out.rd.at_ (by omega)).mono ?_;rintro e w5 ⟨rfl,hb5,hf5⟩;have HS5:=Lib.hid (HS.out.post hb5 hf5);have c5:=cell_of_row w5 fb 4 _ _ _ HS5.out.box.1;have f5:=frozen_of_row w5 fb 4 _ _ HS5.out.box.1;simp only[gq] at c5;clear hb5 hf5)
     |(go_at_call 60;refine(many_any (HS5.out.set4 _).rd.at_ (by omega)).mono ?_;rintro e w6 ⟨rfl,hb6,hf6⟩;have HS6:=Lib.hid ((HS5.out.set4 _).post hb6 hf6);clear hb6 hf6))
    obtain⟨m2,hm2,hml2⟩:=many_nat (HS5.out.set4 (.int .i64 (numD b A.2).1)).rd.at_.le
    obtain⟨S5,hS5⟩:∃S5,numD b A.2=S5:=⟨_,rfl⟩
    obtain⟨C,hC⟩:∃C,Hid (rowD (instD b) m2 (manyD b S5.2).2=C):=⟨_,rfl⟩
    rw[hS5] at hm2 HS6⊢
    rw[hm2]
    have HS5':=Lib.hid hS5
    have HM2:=Lib.hid hm2
    clear hS5 hm2 HS5 HS c4 f4 c5 f5
    go_loopw [5] (fun s5 wr=>∃(k:Nat) (xs:List Ci) (r1:Drd) (vc:Value),s5= .int .i64 k∧k+xs.length≤2000000∧Hid (FnSt w rb b fb (.string ⟨⟨(textD b r).1⟩⟩) (.int .i64 (numD b (textD b r).2).1) (.int .i64 (numD b (numD b (textD b r).2).2).1) vt (.int .i64 S5.1) vc A.1 xs r1 wr)∧Hid (xs++(rowD (instD b) k r1).1=C.1∧(rowD (instD b) k r1).2=C.2)) (fun s5 _=>(intOf s5).toNat)
    case atStart=>exact⟨m2,[],_,_,rfl,by simp;omega,HS6,Lib.hid (by rw[hC.out];exact⟨rfl,rfl⟩)⟩
    case round=>
     clear HS6
     obtain⟨k,xs,r1,vc,rfl,hk,HS,HQ⟩:=hrel
     have y2:=HS.out.rd.at_.c2
     obtain⟨G,hG⟩:∃G,Hid ((decide (0<k)&&r1.bad.isNone)=G):=⟨_,rfl⟩
     go_upto_region 8 with fail
     go_cut [46] from 38 to 64 (fun s23 wx=>s23= .bool G∧wx=wr)
     case first=>
      cases k with
      |zero=>
       have d:decide ((0:Int)<((0:Nat):Int))=false:=rfl
       go_wp2_with fail
       go_meet
       exact⟨by rw[←hG.out];rfl,rfl⟩
      |succ k=>
       have d:decide (0<k+1)=true:=by simp
       cases hbad:r1.bad with
       |some i=>
        rw[hbad] at y2
        simp only[badI] at y2
        have d2:decide ((i:Int)<0)=false:=by simp
        go_wp2_with fail
        go_meet
        exact⟨by rw[←hG.out,hbad];simp,rfl⟩
       |none=>
        rw[hbad] at y2
        simp only[badI] at y2
        go_wp2_with fail
        go_meet
        exact⟨by rw[←hG.out,hbad];simp,rfl⟩
     case rest=>
      obtain⟨rfl,rfl⟩:=hcut
      cases G with
      |false=>
       have hq:=HQ.out
       rw[rowD_stop _ _ _ hG.out,List.append_nil] at hq
       dsimp only at hq
       rw[hq.1,hq.2] at HS
       clear hq HQ hG y2
       obtain⟨A1,k1,rfl,hk1,_⟩:=row_form HS.out.own1
       obtain⟨A2,k2,rfl,hk2,_⟩:=row_form HS.out.own2
       obtain⟨c0,c1,c2,c3,c4,c5⟩:=cr6 wc fb HS.out.box.1
       obtain⟨e0,e1,e2,e3,e4,e5⟩:=cr6 wc w.heap.size HS.out.res.1
       have f0:=frozen_of_row wc w.heap.size 0 _ _ HS.out.res.1
       have f1:=frozen_of_row wc w.heap.size 1 _ _ HS.out.res.1
       have f2:=frozen_of_row wc w.heap.size 2 _ _ HS.out.res.1
       have f3:=frozen_of_row wc w.heap.size 3 _ _ HS.out.res.1
       have f4:=frozen_of_row wc w.heap.size 4 _ _ HS.out.res.1
       have f5:=frozen_of_row wc w.heap.size 5 _ _ HS.out.res.1
       simp only[gq] at c0 c1 c2 c3 c4 c5 e0 e1 e2 e3 e4 e5
       go_wp2_with fail
       have hfun:funcD b r=(⟨⟨⟨(textD b r).1⟩⟩,(numD b (textD b r).2).1,(numD b (numD b (textD b r).2).2).1,A.1,S5.1,C.1⟩,C.2):=by
        unfold funcD
        dsimp only
        rw[HS3'.out,HM.out,Int.toNat_natCast,hA.out,HS5'.out,HM2.out,Int.toNat_natCast,hC.out]
       rw[hfun]
       dsimp only
       have hset:∀k,k≠w.heap.size→∀(v0 v1 v2 v3 v4 v5:Value),((((((wc.setCell ⟨w.heap.size,0,none⟩ v0).setCell ⟨w.heap.size,1,none⟩ v1).setCell ⟨w.heap.size,2,none⟩ v2).setCell ⟨w.heap.size,3,none⟩ v3).setCell ⟨w.heap.size,4,none⟩ v4).setCell ⟨w.heap.size,5,none⟩ v5).heap[k]? =wc.heap[k]? :=by
        intro k hk v0 v1 v2 v3 v4 v5
        iterate 6 rw[Below.heap_setCell _ _ _ _ hk]
       have hrd:=fun(v0 v1 v2 v3 v4 v5:Value)=>(((((HS.out.rd.set (x:=w.heap.size) (Nat.le_refl _) 0 v0).set (x:=w.heap.size) (Nat.le_refl _) 1 v1).set (x:=w.heap.size) (Nat.le_refl _) 2 v2).set (x:=w.heap.size) (Nat.le_refl _) 3 v3).set (x:=w.heap.size) (Nat.le_refl _) 4 v4).set (x:=w.heap.size) (Nat.le_refl _) 5 v5
       refine bodyPost_ret (func_result _ _ w.heap.size (.string ⟨⟨(textD b r).1⟩⟩) (.int .i64 (numD b (textD b r).2).1) (.int .i64 (numD b (numD b (textD b r).2).2).1) (.slice A1 A.1.length k1) (.int .i64 S5.1) (.slice A2 C.1.length k2) rfl ?_ ?_ ?_ ?_ ?_ ?_) rfl ⟨⟨A1,k1,A2,k2⟩,rfl, ?_, ?_, ?_, ?_⟩
       iterate 6 (·first|(simp[e0,e1,e2,e3,e4,e5];done)|(go_simp;done))
       ·exact(hrd _ _ _ _ _ _).at_
       ·exact(hrd _ _ _ _ _ _).foot
       ·exact own_keep HS.out.own1 fun g hg=>hset g (HS.out.n1 g hg).2.1 _ _ _ _ _ _
       ·exact own_keep HS.out.own2 fun g hg=>hset g (HS.out.n2 g hg).2 _ _ _ _ _ _
      |true=>
       obtain⟨k,rfl⟩:∃k',k=k'+1:=by
        cases k with
        |zero=>have:=hG.out;simp at this
        |succ k=>exact⟨k,rfl⟩
       have hbad:r1.bad=none:=by have:=hG.out;simpa using this
       have hq:=HQ.out
       rw[rowD,if_pos hbad] at hq
       dsimp only at hq
       have HQ2:Hid ((xs++ [(instD b r1).1])++(rowD (instD b) k (instD b r1).2).1=C.1∧(rowD (instD b) k (instD b r1).2).2=C.2):=Lib.hid (by rw[←hq.1];exact⟨by simp,hq.2⟩)
       clear hq y2 HQ
       obtain⟨i0,hi,hz0,hz1,hz2⟩:=info_parts instInfo
       go_upto_region 10 with fail
       have HS:=Lib.hid HS.out.drew
       have y3:=cell_of_row _ fb 5 _ _ _ HS.out.box.1
       have g3:=frozen_of_row _ fb 5 _ _ HS.out.box.1
       simp only[gq] at y3
       refine wp_region_G [16] (fun x=>x.cell? ⟨fb,5,none⟩=some (vc)∧x.frozen? ⟨fb,5,none⟩=false) (by rfl) ?_ (fun hHeld=> ?_)
       ·exact⟨y3,g3⟩
       refine tk 0 (h:=tk 1 (h:=tk 2 (h:=tk 4 (h:=tk 6 (h:=tk 8 (h:= ?_))))))
       try simp only[nmC]
       refine tk 10 (h:= ?_)
       try simp only[nmC]
       refine rd1 3 fun KK hKK=> ?_
       go_simp
       go_at_call 102
       refine(number_any HS.out.rd.at_ (by omega)).mono ?_
       rintro e wz ⟨rfl,hbz,hfz⟩
       have HS:=Lib.hid (HS.out.post hbz hfz)
       clear hbz hfz
       try dsimp only
       have y3:=cell_of_row _ fb 5 _ _ _ HS.out.box.1
       have g3:=frozen_of_row _ fb 5 _ _ HS.out.box.1
       simp only[gq] at y3
       refine hKK.out _ _ (⟨y3,g3⟩) (fun hHeld=> ?_)
       clear hKK KK
       try simp only[nmC]
       refine rd1 5 fun KK hKK=> ?_
       go_simp
       go_at_call 102
       refine(number_any HS.out.rd.at_ (by omega)).mono ?_
       rintro e wz ⟨rfl,hbz,hfz⟩
       have HS:=Lib.hid (HS.out.post hbz hfz)
       clear hbz hfz
       try dsimp only
       have y3:=cell_of_row _ fb 5 _ _ _ HS.out.box.1
       have g3:=frozen_of_row _ fb 5 _ _ HS.out.box.1
       simp only[gq] at y3
       refine hKK.out _ _ (⟨y3,g3⟩) (fun hHeld=> ?_)
       clear hKK KK
       try simp only[nmC]
       refine rd1 7 fun KK hKK=> ?_
       go_simp
       go_at_call 102
       refine(number_any HS.out.rd.at_ (by omega)).mono ?_
       rintro e wz ⟨rfl,hbz,hfz⟩
       have HS:=Lib.hid (HS.out.post hbz hfz)
       clear hbz hfz
       try dsimp only
       have y3:=cell_of_row _ fb 5 _ _ _ HS.out.box.1
       have g3:=frozen_of_row _ fb 5 _ _ HS.out.box.1
       simp only[gq] at y3
       refine hKK.out _ _ (⟨y3,g3⟩) (fun hHeld=> ?_)
       clear hKK KK
       try simp only[nmC]
       refine rd1 9 fun KK hKK=> ?_
       go_simp
       go_at_call 61
       refine(rtext_any HS.out.rd.at_ (by omega)).mono ?_
       rintro e wz ⟨rfl,hbz,hfz⟩
       have HS:=Lib.hid (HS.out.post hbz hfz)
       clear hbz hfz
       try dsimp only
       have y3:=cell_of_row _ fb 5 _ _ _ HS.out.box.1
       have g3:=frozen_of_row _ fb 5 _ _ HS.out.box.1
       simp only[gq] at y3
       refine hKK.out _ _ (⟨y3,g3⟩) (fun hHeld=> ?_)
       clear hKK KK
       try simp only[nmC]
       refine rd1 11 fun KK hKK=> ?_
       go_simp
       go_at_call 102
       refine(number_any HS.out.rd.at_ (by omega)).mono ?_
       rintro e wz ⟨rfl,hbz,hfz⟩
       have HS:=Lib.hid (HS.out.post hbz hfz)
       clear hbz hfz
       try dsimp only
       have y3:=cell_of_row _ fb 5 _ _ _ HS.out.box.1
       have g3:=frozen_of_row _ fb 5 _ _ HS.out.box.1
       simp only[gq] at y3
       refine hKK.out _ _ (⟨y3,g3⟩) (fun hHeld=> ?_)
       clear hKK KK
       try simp only[nmC]
       refine tk 12 (h:= ?_)
       try simp only[nmC]
       refine rd1 13 fun KK hKK=> ?_
       go_simp
       refine hKK.out _ _ (⟨(World.cell?_of_block (a:=⟨fb,5,none⟩) (heap_alloc_old _ _ HS.out.box.lt)).trans y3,(frozen_keep (heap_alloc_old _ _ HS.out.box.lt) 5).trans g3⟩) (fun hHeld=> ?_)
       clear hKK KK
       try simp only[nmC]
       refine rd1 14 fun KK hKK=> ?_
       refine step_append_lies _ rfl (.tmp 50) (.tmp 62) 31 rfl w.heap.size 36 i0 _ 5 48 Tryz.underlying31 hi hz0 hz1 hz2 rfl (by decide) _ _ _ rfl (HS.out.own2.alloc _) ⟨_,0,none⟩ 1 1 (insCells (instD b r1).1) rfl rfl (fun k u hu=>news_at _ _ _ _ k u hu) (by intro u hu;simp[insCells] at hu;first|(subst hu;rfl)|(rcases hu with rfl|rfl|rfl|rfl|rfl<;>rfl)) (by decide) (by unfold maxLen;omega) (by omega) (by have:=HS.out.rd.foot.size;simp;omega) _ rfl ?_
       intro g2 cap2 w2 ho2 hg2 hb2 hl2
       obtain⟨hb3,hs3⟩:=HS.out.push2 ho2 hg2 hb2
       have y3:=cell_of_row _ fb 5 _ _ _ hb3
       have g3:=frozen_of_row _ fb 5 _ _ hb3
       simp only[gq] at y3
       have HS3:=Lib.hid hs3
       clear hs3 hb3 ho2 hg2 hb2
       refine hKK.out _ _ (⟨y3,g3⟩) (fun hHeld=> ?_)
       clear hKK KK
       try simp only[nmC]
       refine tk 15 (h:= ?_)
       try simp only[nmC]
       refine rl1 16 fun KK hKK=> ?_
       go_simp
       refine hKK.out _ _ ?_
       clear hKK KK
       try simp only[nmC]
       refine wpAny_done (by kernel_rfl) ?_ _
       go_wp2_with fail
       go_roundw
       case rel=>exact⟨k,_,_,_,by simp,by simp only[List.length_append,List.length_cons,List.length_nil];omega,HS3,HQ2⟩
       case measure=>simp[intOf]
   |true=>
    obtain⟨k,rfl⟩:∃k',k=k'+1:=by
     cases k with
     |zero=>have:=hG.out;simp at this
     |succ k=>exact⟨k,rfl⟩
    have hbad:r1.bad=none:=by have:=hG.out;simpa using this
    have hq:=HQ.out
    rw[rowD,if_pos hbad] at hq
    dsimp only at hq
    have HQ2:Hid ((ts++ [(numD b r1).1])++(rowD (numD b) k (numD b r1).2).1=A.1∧(rowD (numD b) k (numD b r1).2).2=A.2):=Lib.hid (by rw[←hq.1];exact⟨by simp,hq.2⟩)
    clear hq y2
    obtain⟨i0,hi,hz0,hz1,hz2⟩:=info_parts intInfo
    go_upto_region 5 with fail
    have HS:=Lib.hid HS.out.drew
    have y3:=cell_of_row _ fb 3 _ _ _ HS.out.box.1
    have g3:=frozen_of_row _ fb 3 _ _ HS.out.box.1
    simp only[gq] at y3
    refine wp_region_G [7] (fun x=>x.cell? ⟨fb,3,none⟩=some (vt)∧x.frozen? ⟨fb,3,none⟩=false) (by rfl) ?_ (fun hHeld=> ?_)
    ·exact⟨y3,g3⟩
    refine tk 0 (h:=tk 1 (h:=tk 2 (h:= ?_)))
    try simp only[nmC]
    refine rd1 3 fun KK hKK=> ?_
    go_simp
    go_at_call 102
    refine(number_any HS.out.rd.at_ (by omega)).mono ?_
    rintro e wz ⟨rfl,hbz,hfz⟩
    have HS:=Lib.hid (HS.out.post hbz hfz)
    clear hbz hfz
    try dsimp only
    have y3:=cell_of_row _ fb 3 _ _ _ HS.out.box.1
    have g3:=frozen_of_row _ fb 3 _ _ HS.out.box.1
    simp only[gq] at y3
    refine hKK.out _ _ (⟨y3,g3⟩) (fun hHeld=> ?_)
    clear hKK KK
    try simp only[nmC]
    refine rd1 4 fun KK hKK=> ?_
    go_simp
    refine hKK.out _ _ (⟨(World.cell?_of_block (a:=⟨fb,3,none⟩) (heap_alloc_old _ _ HS.out.box.lt)).trans y3,(frozen_keep (heap_alloc_old _ _ HS.out.box.lt) 3).trans g3⟩) (fun hHeld=> ?_)
    clear hKK KK
    try simp only[nmC]
    refine rd1 5 fun KK hKK=> ?_
    refine step_append_lies _ rfl (.tmp 27) (.tmp 30) 22 rfl w.heap.size 3 i0 _ 1 8 Tryz.underlying22 hi hz0 hz1 hz2 rfl (by decide) _ _ _ rfl (HS.out.own1.alloc _) ⟨_,0,none⟩ 1 1 [.int .i64 (numD b r1).1] rfl rfl (fun k u hu=>news_at _ _ _ _ k u hu) (by intro u hu;simp at hu;first|(subst hu;rfl)|(rcases hu with rfl|rfl|rfl|rfl|rfl<;>rfl)) (by decide) (by unfold maxLen;omega) (by omega) (by have:=HS.out.rd.foot.size;simp;omega) _ rfl ?_
    intro g2 cap2 w2 ho2 hg2 hb2 hl2
    obtain⟨hb3,hs3⟩:=HS.out.push1 ho2 hg2 hb2
    have y3:=cell_of_row _ fb 3 _ _ _ hb3
    have g3:=frozen_of_row _ fb 3 _ _ hb3
    simp only[gq] at y3
    have HS3:=Lib.hid hs3
    clear hs3 hb3 ho2 hg2 hb2
    refine hKK.out _ _ (⟨y3,g3⟩) (fun hHeld=> ?_)
    clear hKK KK
    try simp only[nmC]
    refine tk 6 (h:= ?_)
    try simp only[nmC]
    refine rl1 7 fun KK hKK=> ?_
    go_simp
    refine hKK.out _ _ ?_
    clear hKK KK
    try simp only[nmC]
    refine wpAny_done (by kernel_rfl) ?_ _
    go_wp2_with fail
    go_roundw
    case rel=>exact⟨k,_,_,_,by simp,by simp only[List.length_append,List.length_cons,List.length_nil];omega,HS3,HQ2⟩
    case measure=>simp[intOf]
theorem CntAt.wider {w:World} {b k k':Nat} {l:List (List UInt8)} (h:CntAt w b k l) (hk:k≤k'):CntAt w b k' l:=by
 obtain⟨D,h1,h2⟩:=h
 exact⟨D,h1.mono hk,h2⟩
theorem contains_cons (s x:List UInt8) (old:List (List UInt8)):(s::old).contains x=(x==s||old.contains x):=by
 rw[List.contains_cons]
theorem globalsB_eq:∀(l old:List (List UInt8)),globalsB old l=(l.all nameL&&(nodup l&&l.all fun x=> !old.contains x))
 | [],_=>rfl
 |s::r,old=>by
  have h:(r.all fun x=> !(s::old).contains x)=(!r.contains s&&r.all fun x=> !old.contains x):=by
   induction r with
   |nil=>rfl
   |cons y ys ih=>
    rw[List.all_cons,List.all_cons,ih,contains_cons,contains_cons,Bool.beq_comm (a:=s)]
    cases(y==s)<;>cases old.contains y<;>cases ys.contains s<;>simp
  rw[globalsB,globalsB_eq r (s::old),h,List.all_cons,List.all_cons,nodup]
  cases nameL s<;>cases old.contains s<;>cases r.all nameL<;>cases nodup r<;>cases r.contains s<;>rfl
def namesAll:List (List UInt8)→Bool
 | []=>true
 |x::r=>nameL x&&globalsB [] r
theorem namesB_eq (s:List UInt8) (n:Int):namesB s n=(namesAll (splitC 32 s)&&decide (((splitC 32 s).length:Int)=n)):=by
 unfold namesB
 cases splitC 32 s with
 |nil=>simp[namesAll,nodup]
 |cons x r=>
  rw[namesAll,globalsB_eq,List.all_cons,List.drop_one,List.tail_cons]
  cases nameL x<;>cases r.all nameL<;>cases nodup r<;>simp
theorem names_any (s:List UInt8) (n:Int) (w:World) (h:Gc w) (hs:s.length≤4000000000):Calls Tryz.prog 124 #[.string ⟨⟨s⟩⟩,.int .i64 n] w fun e w'=>e= .returned (.bool (namesB s n))∧Below w.heap.size w w':=by
 have hm:=mapNew
 obtain⟨xs,h1,h2,h3,h4⟩:=split32 ⟨⟨s⟩⟩ hs
 have h2':∀x∈xs,x.size≤4000000000:=fun x hx=>Nat.le_trans (h2 x hx) hs
 have h3':xs.length≤4000000001:=Nat.le_trans h3 (by show s.length+1≤_;omega)
 have HS:=Lib.hid h4
 have HX:=Lib.hid h2'
 have HG:=Lib.hid h
 obtain⟨R,hR⟩:∃R,namesB s n=R:=⟨_,rfl⟩
 rw[hR]
 rw[namesB_eq,show s=(⟨⟨s⟩⟩:ByteArray).data.toList from rfl,←h1,List.length_map] at hR
 obtain⟨ts,hts⟩:∃ts,xs.map (fun x=>x.data.toList)=ts:=⟨_,rfl⟩
 rw[hts] at hR
 obtain⟨c,hc⟩:∃c,xs.length=c:=⟨_,rfl⟩
 have HL:=Lib.hid hc
 have HTS:=Lib.hid hts
 rw[hc] at hR h3' HS
 obtain⟨Q,hQ⟩:∃Q,namesAll ts=Q:=⟨_,rfl⟩
 rw[hQ] at hR
 have HR:=Lib.hid hR
 have HQ:=Lib.hid hQ
 clear h h1 h2 h2' h3 h4 hR hc hts hQ
 go_enter Tryz.func124,Tryz.ntmps124
 have HB0:Hid (∀o,Below w.heap.size w ((w.alloc o).alloc (.map #[] 0))):=Lib.hid fun o=>((Below.refl _ _).alloc (Nat.le_refl _) _).alloc (by simp) _
 have HC0:Hid (∀o,CntAt ((w.alloc o).alloc (.map #[] 0)) (w.heap.size+1) 0 []):=Lib.hid fun o=>by
  have:=CntAt.made (w.alloc o)
  rw[World.size_alloc] at this
  exact this
 have HP0:Hid (((w.alloc (.cells (xs.map Value.string).toArray 9)).alloc (.map #[] 0)).heap[w.heap.size]? =some (.cells (xs.map Value.string).toArray 9 (0,0))):=Lib.hid ((heap_alloc_old _ _ (by simp)).trans (heap_alloc_new _ _))
 go_wp2_with (go_at_call 108;refine(HS.out _ HG.out).mono ?_;rintro e w1 ⟨rfl,rfl⟩)
 go_loopw [14] (fun i wr=>∃j:Nat,j≤c∧i= .int .i64 j∧∃old:List (List UInt8),old.length≤j∧(j=0→old=[])∧Hid (CntAt wr (w.heap.size+1) j old)∧Hid (Below w.heap.size w wr)∧Hid (wr.heap[w.heap.size]? =some (.cells (xs.map Value.string).toArray 9 (0,0)))∧Hid ((if j=0 then namesAll ts else globalsB old (ts.drop j))=Q)) (fun i _=>c-(intOf i).toNat)
 case atStart=>exact⟨0,Nat.zero_le _,rfl,[],Nat.le_refl _,fun _=>rfl,HC0.out _,HB0.out _,HP0,HQ⟩
 case round=>
  obtain⟨j,hj,rfl,old,hold,hz,HC,HB,HP,HI⟩:=hrel
  by_cases hlt:j<c
  ·obtain⟨x,hx⟩:∃x,xs[j]? =some x:=⟨_,List.getElem?_eq_getElem (by rw[HL.out];exact hlt)⟩
   have hcell:wr.cell? ⟨w.heap.size,j,none⟩=some (.string x):=by
    rw[cell_of_row wr _ j _ _ _ HP.out]
    simp[hx]
   have hxs:=HX.out x (List.mem_of_getElem? hx)
   have HD:Hid (ts.drop j=x.data.toList::ts.drop (j+1)):=Lib.hid (drop_cons (by rw[←HTS.out,List.getElem?_map,hx];rfl))
   have hpw:=(Array.getElem?_eq_some_iff.1 HP.out).1
   clear hx
   by_cases hj0:j=0
   ·subst hj0
    obtain rfl:=hz rfl
    have hk1:∀w2,Below wr.heap.size wr w2→(Instr.lookup 71 (.map (some (w.heap.size+1))) (.string x) false).run Tryz.prog w2= .ok (.int .i64 0) w2:=fun w2 hb2=>(HC.out.keep hb2).look x (by omega)
    have HK1:=Lib.hid hk1
    clear hk1
    have hq:=HI.out
    rw[if_pos rfl,show ts=ts.drop 0 from rfl,HD.out,namesAll] at hq
    have HQ2:=Lib.hid hq
    have HG1:=Lib.hid (HG.out.up HB.out)
    clear hq
    cases hnm:nameB x with
    |false=>
     have hQ:Q=false:=by rw[←HQ2.out,show nameL x.data.toList=false from hnm];rfl
     subst hQ
     go_wp2_with (go_at_call 76;refine(named_any x wr HG1.out (by omega)).mono ?_;rw[hnm];rintro e w2 ⟨rfl,hb2⟩)
     go_ret
     exact⟨ret_bool (by rw[←HR.out];rfl),HB.out.trans (hb2.mono HB.out.size)⟩
    |true=>
     have hQ:globalsB [] (ts.drop 1)=Q:=by rw[←HQ2.out,show nameL x.data.toList=true from hnm];rfl
     have HQ3:=Lib.hid hQ
     clear hQ
     go_wp2_with (go_at_call 76;refine(named_any x wr HG1.out (by omega)).mono ?_;rw[hnm];rintro e w2 ⟨rfl,hb2⟩;have hk2:=HK1.out w2 hb2)
     go_roundw
     case rel=>exact⟨1,by omega,by go_num,[],Nat.zero_le _,fun h=>absurd h (by decide),Lib.hid ((HC.out.keep hb2).wider (Nat.zero_le _)),Lib.hid (HB.out.trans (hb2.mono HB.out.size)),Lib.hid ((hb2.block _ hpw).trans HP.out),Lib.hid (by rw[if_neg (by decide)];exact HQ3.out)⟩
     case measure=>simp[intOf];omega
   ·have dj:decide (0<(j:Int))=true:=by simp;omega
    obtain⟨k,hk⟩:∃k:Nat,old.count x.data.toList=k:=⟨_,rfl⟩
    have hkl:k≤old.length:=by rw[←hk];exact List.count_le_length
    have hk1:=HC.out.look x (by omega)
    obtain⟨w1,hu,hC1,hg1⟩:=HC.out.put x (by omega) (by omega) (by omega)
    have hb1:Below w.heap.size wr w1:=grownTo_below hg1 (Nat.le_succ _) HB.out.size
    have hp1:w1.heap[w.heap.size]? =some (.cells (xs.map Value.string).toArray 9 (0,0)):=(hg1.block _ hpw (by intro e;injection e with e;omega)).trans HP.out
    have hpw1:=(Array.getElem?_eq_some_iff.1 hp1).1
    have HP1:=Lib.hid hp1
    have HB1:=Lib.hid (HB.out.trans hb1)
    have HC1:=Lib.hid hC1
    rw[hk] at hk1 hu
    have HG1:=Lib.hid (HG.out.up HB1.out)
    have HK2:Hid (∀w2,Below w1.heap.size w1 w2→(Instr.lookup 71 (.map (some (w.heap.size+1))) (.string x) false).run Tryz.prog w2= .ok (.int .i64 ((k+1:Nat):Int)) w2):=Lib.hid fun w2 hb2=>by
     have:=(HC1.out.keep hb2).look x (by omega)
     rw[List.count_cons_self,hk] at this
     exact this
    have HM:=Lib.hid hk
    have hq:=HI.out
    rw[if_neg hj0,HD.out] at hq
    have HQ2:=Lib.hid hq
    clear hC1 hg1 hb1 hk hq hp1
    cases hnm:nameB x with
    |false=>
     have hQ:Q=false:=by rw[←HQ2.out,globalsB_stop (.inl hnm)]
     subst hQ
     go_wp2_with (go_at_call 76;refine(named_any x w1 HG1.out (by omega)).mono ?_;rw[hnm];rintro e w2 ⟨rfl,hb2⟩)
     go_ret
     exact⟨ret_bool (by rw[←HR.out];rfl),HB1.out.trans (hb2.mono HB1.out.size)⟩
    |true=>
     by_cases hk0:k=0
     ·subst hk0
      rw[show((0:Nat):Int)+1=1 from rfl] at hu
      rw[show((0:Nat):Int)=0 from rfl] at hk1
      have HQ3:=Lib.hid (show globalsB (x.data.toList::old) (ts.drop (j+1))=Q by rw[←HQ2.out,globalsB_go hnm (count_zero_not HM.out)])
      go_wp2_with (go_at_call 76;refine(named_any x w1 HG1.out (by omega)).mono ?_;rw[hnm];rintro e w2 ⟨rfl,hb2⟩;have hk2:=HK2.out w2 hb2)
      go_roundw
      case rel=>exact⟨j+1,by omega,by go_num,x.data.toList::old,by simp;omega,fun h=>by omega,Lib.hid (HC1.out.keep hb2),Lib.hid (HB1.out.trans (hb2.mono HB1.out.size)),Lib.hid ((hb2.block _ hpw1).trans HP1.out),Lib.hid (by rw[if_neg (by omega)];exact HQ3.out)⟩
      case measure=>simp[intOf];omega
     ·have hQ:Q=false:=by rw[←HQ2.out,globalsB_stop (.inr (count_pos_in (by rw[HM.out];exact hk0)))]
      subst hQ
      go_wp2_with (go_at_call 76;refine(named_any x w1 HG1.out (by omega)).mono ?_;rw[hnm];rintro e w2 ⟨rfl,hb2⟩;have hk2:=HK2.out w2 hb2)
      go_ret
      exact⟨ret_bool (by rw[←HR.out];rfl),HB1.out.trans (hb2.mono HB1.out.size)⟩
  ·obtain rfl:j=c:=by omega
   have hlen:ts.length=j:=by rw[←HTS.out,List.length_map,HL.out]
   have hQ:Q=true:=by
    rw[←HI.out]
    by_cases hj0:j=0
    ·rw[if_pos hj0,List.eq_nil_of_length_eq_zero (hlen.trans hj0)];rfl
    ·rw[if_neg hj0,List.drop_of_length_le (by rw[hlen];exact Nat.le_refl _)];rfl
   subst hQ
   have hR:decide ((j:Int)=n)=R:=by rw[←HR.out];rfl
   have HR2:Hid (((j:Int)==n)=R):=Lib.hid hR
   go_wp2_with fail
   go_ret
   exact⟨ret_bool HR2.out,HB.out⟩
theorem manySum_pos:∀l:List Cf,0≤manySum l
 | []=>Int.le_refl 0
 |f::r=>by have:=manySum_pos r;rw[manySum];omega
def manyC (p:Cp):Option Nat:=if p.funcs.length<1∨20000<p.funcs.length∨20000<p.globals.length∨60000<IntKind.i64.wrap (manySum p.funcs) then some 0 else manyFrom p.funcs 0
def ManyPost (w:World) (r:Option Nat) (e:Ending) (w':World):Prop:=match r with
 |none=>e= .returned (.pointer none)∧Below w.heap.size w w'
 |some i=>WrongPost w 22 i none e w'
theorem manyFrom_stop {f:Cf} {r:List Cf} {i:Nat} (h:20000<f.slots∨20000<f.taken.length):manyFrom (f::r) i=some i:=by rw[manyFrom,if_pos h]
theorem manyFrom_go {f:Cf} {r:List Cf} {i:Nat} (h:¬(20000<f.slots∨20000<f.taken.length)):manyFrom (f::r) i=manyFrom r (i+1):=by rw[manyFrom,if_neg h]
theorem WrongPost.under {w wr:World} {c a:Int} {i:Option Int} {e:Ending} {w':World} (h:WrongPost wr c a i e w') (hb:Below w.heap.size w wr):WrongPost w c a i e w':=by
 obtain⟨h1,b,h2,h3,h4⟩:=h
 exact⟨hb.trans (h1.mono hb.size),b,h2,Nat.le_trans hb.size h3,h4⟩
theorem codeMany_any {p:Cp} {n m fc gc:Nat} {fa ga:Option Addr} {xs:List (Cf×Fv)} {w:World} (hp:PgAt w p n m fa ga xs) (hok:CpOk p) (hsum:manySum p.funcs≤4000000000000):
  Calls Tryz.prog 33 #[.agg #[.slice fa n fc,.slice ga m gc]] w (ManyPost w (manyC p)):=by
 have HP0:=Lib.hid (heap_alloc_new w (.cells #[.slice fa n fc,.slice ga m gc] 27 (0,0)))
 have HB0:Hid (Below w.heap.size w (w.alloc (.cells #[.slice fa n fc,.slice ga m gc] 27 (0,0)))):=Lib.hid ((Below.refl _ _).alloc (Nat.le_refl _) _)
 have hn:n≤140737488351232:=hp.fn▸hok.1
 have hm:m≤140737488351232:=hp.gn▸hok.2.1
 have HA:Hid (∀W,Below w.heap.size w W→∀i f,p.funcs[i]? =some f→∃g q fv,fa=some ⟨g,q,none⟩∧LiesF w w.heap.size (f,fv)∧HeadAt W g q i n f.name f.params f.slots f.around fv.ta f.taken.length fv.tc fv.ca f.code.length fv.cc):=
  Lib.hid fun W hW i f hf=>headAt_of hp hW hf
 have HL:=Lib.hid hp.fn
 have HOK:=Lib.hid hok
 obtain⟨R,hR⟩:∃R,manyC p=R:=⟨_,rfl⟩
 have hS:=manySum_pos p.funcs
 obtain⟨T,hT⟩:∃T,manySum p.funcs=T:=⟨_,rfl⟩
 rw[hR]
 unfold manyC at hR
 rw[hp.fn,hp.gn,hT,show IntKind.i64.wrap T=T by rw[IntKind.wrap_i64];omega] at hR
 rw[hT] at hS hsum
 have HR:=Lib.hid hR
 have HT:=Lib.hid hT
 clear hp hok hR hT
 go_enter Tryz.func33,Tryz.ntmps33
 go_wp2_with fail
 go_loopw [3,11] (fun all i wr=>Hid (Below w.heap.size w wr)∧Hid (wr.heap[w.heap.size]? =some (.cells #[.slice fa n fc,.slice ga m gc] 27 (0,0)))∧∃j:Nat,j≤n∧i= .int .i64 j∧∃S:Int,0≤S∧all= .int .i64 S∧Hid (S+manySum (p.funcs.drop j)=T)) (fun _ i _=>n-(intOf i).toNat)
 case atStart=>exact⟨HB0,HP0,0,Nat.zero_le _,rfl,0,Int.le_refl 0,rfl,Lib.hid (by rw[List.drop_zero,HT.out];omega)⟩
 case round=>
  obtain⟨HB,HP,j,hj,rfl,S,hS0,rfl,HI⟩:=hrel
  by_cases hlt:j<n
  ·obtain⟨f,hf⟩:∃f,p.funcs[j]? =some f:=⟨_,List.getElem?_eq_getElem (by rw[HL.out];exact hlt)⟩
   obtain⟨g,q,fv,rfl,_,hA⟩:=HA.out _ HB.out j f hf
   have hcl:f.code.length≤140737488351232:=(HOK.out.2.2.1 f (List.mem_of_getElem? hf)).2.2.2.2.2.1
   have hsum2:S+f.code.length+manySum (p.funcs.drop (j+1))=T:=by
    have:=HI.out
    rw[drop_cons hf,manySum] at this
    omega
   have hpos:=manySum_pos (p.funcs.drop (j+1))
   have HS2:=Lib.hid hsum2
   have hSb:S+(f.code.length:Int)≤4000000000000:=by omega
   have hg:=hA.lt
   have x0:=hA.x0
   have x1:=hA.x1
   have x2:=hA.x2
   have x3:=hA.x3
   have x4:=hA.x4
   have x5:=hA.x5
   clear hA hf hsum2 hpos
   go_wp2_with fail
   go_roundw
   case rel=>exact⟨Lib.hid (HB.out.alloc HB.out.size _),Lib.hid ((heap_alloc_old _ _ (Array.getElem?_eq_some_iff.1 HP.out).1).trans HP.out),j+1,by omega,by go_num,S+(f.code.length:Int),by omega,by go_num,HS2⟩
   case measure=>simp[intOf];omega
  ·obtain rfl:j=n:=by omega
   obtain rfl:S=T:=by
    have:=HI.out
    rw[List.drop_of_length_le (by rw[HL.out];exact Nat.le_refl _),manySum] at this
    omega
   obtain⟨q0,q1⟩:=cr2 wr w.heap.size HP.out
   simp only[gq] at q0 q1
   by_cases h1:j<1∨20000<j∨20000<m∨60000<S
   ·have hR:R=some 0:=by rw[←HR.out,if_pos h1]
    subst hR
    have HW:Hid (∀W,Calls Tryz.prog 35 #[.int .i64 22,.int .i64 0,.int .i64 (-1)] W (WrongPost W 22 0 none)):=Lib.hid fun W=>wrong_none 22 0 W
    rcases h1 with h1|h1|h1|h1
    all_goals
     go_wp2_with (go_at_call 35;refine(HW.out _).mono ?_;rintro e w4 ⟨hb4,b4,rfl,hl4,hw4⟩)
     all_goals
      go_ret
      exact WrongPost.under ⟨hb4,b4,rfl,hl4,hw4⟩ HB.out
   ·have HR2:Hid (manyFrom p.funcs 0=R):=Lib.hid (by rw[←HR.out,if_neg h1])
    obtain⟨a1,a2⟩:=not_or.1 h1
    obtain⟨a3,a4⟩:=not_or.1 a2
    obtain⟨a5,a6⟩:=not_or.1 a4
    have d1:decide ((j:Int)<1)=false:=by simp;omega
    have d2:decide (20000<(j:Int))=false:=by simp;omega
    have d3:decide (20000<(m:Int))=false:=by simp;omega
    have d4:decide (60000<S)=false:=decide_eq_false a6
    clear h1 a1 a2 a4
    go_wp2_with fail
    go_loopw [45] (fun i wr=>Hid (Below w.heap.size w wr)∧∃k:Nat,k≤j∧i= .int .i64 k∧Hid (manyFrom (p.funcs.drop k) k=R)) (fun i _=>j-(intOf i).toNat)
    case atStart=>exact⟨HB,0,Nat.zero_le _,rfl,HR2⟩
    case round=>
     obtain⟨HB2,k,hk,rfl,HJ⟩:=hrel
     by_cases hkt:k<j
     ·obtain⟨f,hf⟩:∃f,p.funcs[k]? =some f:=⟨_,List.getElem?_eq_getElem (by rw[HL.out];exact hkt)⟩
      obtain⟨g,q,fv,rfl,_,hA⟩:=HA.out _ HB2.out k f hf
      have htl:f.taken.length≤140737488351232:=(HOK.out.2.2.1 f (List.mem_of_getElem? hf)).2.2.2.2.1
      have hq:=HJ.out
      rw[drop_cons hf] at hq
      have HQ:=Lib.hid hq
      have hg:=hA.lt
      have x0:=hA.x0
      have x1:=hA.x1
      have x2:=hA.x2
      have x3:=hA.x3
      have x4:=hA.x4
      have x5:=hA.x5
      have HB3:Hid (∀o,Below w.heap.size w (wr.alloc o)):=Lib.hid fun o=>HB2.out.alloc HB2.out.size _
      obtain⟨tl,htl2⟩:∃tl,f.taken.length=tl:=⟨_,rfl⟩
      have HTL:=Lib.hid htl2
      rw[htl2] at x3 htl
      clear hA hf hq q0 q1 htl2
      by_cases h2:20000<f.slots∨20000<tl
      ·have hR:R=some k:=by rw[←HQ.out,manyFrom_stop (by rw[HTL.out];exact h2)]
       subst hR
       have HW:Hid (∀W,Calls Tryz.prog 35 #[.int .i64 22,.int .i64 k,.int .i64 (-1)] W (WrongPost W 22 k none)):=Lib.hid fun W=>wrong_none 22 k W
       rcases h2 with h2|h2
       all_goals
        go_wp2_with (go_at_call 35;refine(HW.out _).mono ?_;rintro e w4 ⟨hb4,b4,rfl,hl4,hw4⟩)
        all_goals
         go_ret
         exact WrongPost.under ⟨hb4,b4,rfl,hl4,hw4⟩ (HB3.out _)
      ·obtain⟨b1,b2⟩:=not_or.1 h2
       have e1:decide (20000<f.slots)=false:=decide_eq_false b1
       have e2:decide (20000<(tl:Int))=false:=by simp;omega
       have HJ2:Hid (manyFrom (p.funcs.drop (k+1)) (k+1)=R):=Lib.hid (by rw[←HQ.out,manyFrom_go (by rw[HTL.out];exact h2)])
       clear h2 b1 b2
       go_wp2_with fail
       go_roundw
       case rel=>exact⟨Lib.hid (HB3.out _),k+1,by omega,by go_num,HJ2⟩
       case measure=>simp[intOf];omega
     ·obtain rfl:k=j:=by omega
      have hR:R=none:=by
       rw[←HJ.out,List.drop_of_length_le (by rw[HL.out];exact Nat.le_refl _)]
       rfl
      subst hR
      go_wp2_with fail
      go_ret
      exact⟨rfl,HB2.out⟩
end Go.Proofs.YtagnicbknbmccaaGreatDoor
