/- code.Decode of the least program's bytes. -/
import Derived.Lib.SmallJoins
import Derived.Test.YtagnicbknbmccaaGreatDoorMCwF
import Derived.Test.YtagnicbknbmccaaGreatDoorSqC
import Derived.Test.YtagnicbknbmccaaGreatDoorMCxH
import Derived.Test.YtagnicbknbmccaaGreatDoorMCxD
import Derived.Test.YtagnicbknbmccaaGreatDoorMScanA
set_option maxRecDepth 100000
set_option maxHeartbeats 4000000
namespace Go.Proofs.YtagnicbknbmccaaGreatDoor
open Go.RowKit
def leastF:Cf:=⟨⟨#[]⟩,0,1,[],-1,[⟨7,0,0,⟨#[]⟩,0⟩,⟨50,0,0,⟨#[]⟩,0⟩]⟩
theorem least_plain:Plain least leastF:=by
 have hlen:leastF.code.length=2:=rfl
 refine⟨⟨rfl,rfl,by rw[hlen];omega,by decide,by decide⟩,by kernel_rfl,by rw[hlen];omega,fun k x hx=> ?_,fun x hx=> ?_⟩
 ·rw[hlen]
  have hk:k<2:=(List.getElem?_eq_some_iff.1 hx).1
  match k,hk,hx with
  |0,_,hx=>
   obtain rfl:(⟨7,0,0,⟨#[]⟩,0⟩:Ci)=x:=Option.some.inj hx
   exact⟨⟨by kernel_rfl,by decide,by decide,by kernel_rfl,by kernel_rfl,by kernel_rfl,rfl,by kernel_rfl,by decide⟩,.inl (by omega),⟨fun _ _=>by rw[hlen];omega,fun h=>absurd h (by decide),fun h=>absurd h (by decide),by decide,by decide⟩⟩
  |1,_,hx=>
   obtain rfl:(⟨50,0,0,⟨#[]⟩,0⟩:Ci)=x:=Option.some.inj hx
   exact⟨⟨by kernel_rfl,by decide,by decide,by kernel_rfl,by kernel_rfl,by kernel_rfl,rfl,by kernel_rfl,by decide⟩,.inr (.inl rfl),⟨fun _ h=>absurd rfl h,fun h=>absurd h (by decide),fun h=>absurd h (by decide),by decide,by decide⟩⟩
 ·rcases List.mem_cons.1 hx with rfl|hx
  ·exact counted_any _ (by decide) (by decide)
  ·rw[List.mem_singleton.1 hx]
   exact counted_any _ (by decide) (by decide)
theorem least_fits:fitsP leastF.code=none:=by kernel_rfl
theorem funcInfo:(Tryz.prog.info? 33).map (fun i=>(i.zero,i.size,i.bytes))=some (some (.agg #[.string ⟨#[]⟩,.int .i64 0,.int .i64 0,.slice none 0 0,.int .i64 0,.slice none 0 0]),6,88):=by kernel_rfl
theorem own_row {W:World} {lo:Nat} {e:TypeId} {s n cap:Nat} {A:Option Addr} {xs:List Value} (h:W.ownsRow lo e s (.slice A n cap) n xs):RowIs W W.heap.size A xs∧n≤cap:=by
 have hl:=h.1
 rcases h.2 with⟨e1,rfl⟩|⟨g,cap',cur,e1,hlo,hg,h1,h2,h3,h4⟩
 ·refine⟨.inl (List.eq_nil_of_length_eq_zero (by simpa using hl)),Nat.zero_le _⟩
 ·injection e1 with e1 e2 e3
  subst e1 e3
  refine⟨.inr ⟨g,0,rfl,(Array.getElem?_eq_some_iff.1 hg).1,fun j v hj=> ?_⟩,h1⟩
  have:=h.cells (g:=g) rfl j v hj
  rwa [Addr.add_lit] at this
theorem least_lies {W:World} {lo g cap:Nat} {fv:Fv} (h1:W.ownsRow lo 33 6 (.slice (some ⟨g,0,none⟩) 1 cap) 1 (fnCells (leastF,fv))) (h2:W.ownsRow lo 36 5 (.slice fv.ca 2 fv.cc) 2 (leastF.code.flatMap insCells)):
  LiesC W W.heap.size least (.agg #[.slice (some ⟨g,0,none⟩) 1 cap,.slice none 0 0]):=by
 obtain⟨r1,c1⟩:=own_row h1
 obtain⟨r2,c2⟩:=own_row h2
 refine⟨some ⟨g,0,none⟩,cap,none,0,[(leastF,fv)],rfl,rfl,by simpa using r1,.inl rfl,c1,Nat.le_refl _,fun x hx=> ?_⟩
 rw[List.mem_singleton.1 hx]
 exact⟨.inl rfl,r2,Nat.zero_le _,c2⟩
structure DecEnd (w W0:World) (rb pb:Nat) (b:List UInt8) (fv:Fv) (g cap:Nat) (W:World):Prop where
 rd:RdAt W0 rb b ⟨22,none⟩ W
 box:RBox W0 W pb (.cells #[.slice (some ⟨g,0,none⟩) 1 cap,.slice none 0 0] 27 (0,0))
 fns:W.ownsRow W0.heap.size 33 6 (.slice (some ⟨g,0,none⟩) 1 cap) 1 (fnCells (leastF,fv))
 ins:W.ownsRow W0.heap.size 36 5 (.slice fv.ca 2 fv.cc) 2 (leastF.code.flatMap insCells)
 res:W.heap[w.heap.size]? =some (.cells #[.slice none 0 0,.slice none 0 0] 27 (0,0))
theorem dec_push {w W0 W W1 W2:World} {o:Obj} {rb pb:Nat} {b:List UInt8} {fv:Fv} {g cap:Nat} (hx:RBox W0 W pb (.cells #[.slice none 0 0,.slice none 0 0] 27 (0,0))) (h0:W.heap[w.heap.size]? =some (.cells #[.slice none 0 0,.slice none 0 0] 27 (0,0)))
  (hi:W.ownsRow W1.heap.size 36 5 (.slice fv.ca 2 fv.cc) 2 (leastF.code.flatMap insCells)) (hr:RdAt W0 rb b ⟨22,none⟩ W) (hlo:W0.heap.size≤pb) (ho:W2.ownsRow W0.heap.size 33 6 (.slice (some ⟨g,0,none⟩) (0+1) cap) (0+1) ([]++fnCells (leastF,fv)))
  (hg:(W.alloc o).grownBy W2 (Value.ownBlock (.slice none 0 0))) (hb:Value.ownBlock (.slice none 0 0)=some g∨g=(W.alloc o).heap.size) (hp:pb<W1.heap.size) (hl1:W0.heap.size≤W1.heap.size) (hne:w.heap.size≠pb):
  W2.heap[pb]? =some (.cells #[.slice none 0 0,.slice none 0 0] 27 (0,0))∧DecEnd w W0 rb pb b fv g cap (W2.setCell ⟨pb,0,none⟩ (.slice (some ⟨g,0,none⟩) 1 cap)):=by
 have hk:∀k,k<W.heap.size→W2.heap[k]? =W.heap[k]? :=fun k hk=>grown_keep hg hk (by simp[Value.ownBlock])
 have hgg:g=W.heap.size+1:=by
  rcases hb with h|h
  ·simp[Value.ownBlock] at h
  ·rwa [World.size_alloc] at h
 have hlt:=hx.lt
 have hbox:=(hk pb hlt).trans hx.1
 have hset:∀k,k≠pb→(W2.setCell ⟨pb,0,none⟩ (.slice (some ⟨g,0,none⟩) 1 cap)).heap[k]? =W2.heap[k]? :=fun k hk=>Below.heap_setCell W2 _ _ _ hk
 have h0l:=(Array.getElem?_eq_some_iff.1 h0).1
 refine⟨hbox,(hr.grown hg (by intro k hk;simp[Value.ownBlock] at hk)).set hlo 0 _,⟨heap_setCell_same _ _ 0 _ _ _ hbox,hlo⟩, ?_, ?_, ?_⟩
 ·refine own_keep (by simpa using ho) fun k hk=> ?_
  simp only[Value.ownBlock,Option.some.injEq] at hk
  exact hset k (by omega)
 ·have hi2:W.ownsRow W0.heap.size 36 5 (.slice fv.ca 2 fv.cc) 2 (leastF.code.flatMap insCells):=Go.Joins.ownsRow_le hi (by omega)
  refine own_keep hi2 fun k hk2=> ?_
  have:=hi.lt k hk2
  exact(hset k (by omega)).trans (hk k this.2)
 ·exact(hset _ hne).trans ((hk _ h0l).trans h0)
theorem dec_result (tmps:Array Value) (W:World) (g:Nat) (v0 v1:Value) (h2:tmps.getD 2 undef= .pointer (some ⟨g,0,none⟩)) (h3:tmps.getD 3 undef= .nilIface) (e0:W.cell? ⟨g,0,none⟩=some v0) (e1:W.cell? ⟨g,1,none⟩=some v1):
  (results Tryz.f24 tmps).run Tryz.prog W= .ok (.tuple #[.agg #[v0,v1],.nilIface]) W:=by
 have h2':tmps[2]?.getD undef= .pointer (some ⟨g,0,none⟩):=by simpa using h2
 have h3':tmps[3]?.getD undef= .nilIface:=by simpa using h3
 have hres:Tryz.f24.results= #[ResultVar.cell 2 27,ResultVar.tmp 3]:=rfl
 simp[results,go_sem,h2',h3',e0,e1]
theorem dec_m1:manyD leastB ⟨4,none⟩=(0,⟨5,none⟩):=by kernel_rfl
theorem dec_m2:manyD leastB ⟨5,none⟩=(1,⟨6,none⟩):=by kernel_rfl
theorem dec_f:funcD leastB ⟨6,none⟩=(leastF,⟨22,none⟩):=by kernel_rfl
theorem magic_at:∀k,k<4→leastB[k]? =([71,67,48,49]:List UInt8)[k]? :=by decide
theorem decode_least {w:World} (hG:Gc w):Calls Tryz.prog 24 #[.string ⟨⟨leastB⟩⟩] w fun e w'=>∃v,e= .returned (.tuple #[v,.nilIface])∧LiesC w' w'.heap.size least v∧Below w.heap.size w w':=by
 have HGc:=Lib.hid hG
 clear hG
 have hbl:leastB.length=22:=rfl
 obtain⟨b,hb⟩:∃b,leastB=b:=⟨_,rfl⟩
 have HB:=Lib.hid hb
 rw[hb] at hbl⊢
 clear hb
 go_enter Tryz.func24,Tryz.ntmps24
 go_wp2_with fail
 have HB00:Hid (Below w.heap.size w (w.alloc (.cells #[.slice none 0 0,.slice none 0 0] 27 (0,0)))):=Lib.hid ((Below.refl _ _).alloc (Nat.le_refl _) _)
 have HX00:Hid ((w.alloc (.cells #[.slice none 0 0,.slice none 0 0] 27 (0,0))).heap[w.heap.size]? =some (.cells #[.slice none 0 0,.slice none 0 0] 27 (0,0))):=Lib.hid (heap_alloc_new _ _)
 go_loopw [10] (fun i wr=>Hid (Below w.heap.size w wr)∧Hid (wr.heap[w.heap.size]? =some (.cells #[.slice none 0 0,.slice none 0 0] 27 (0,0)))∧wr.heap.size=w.heap.size+1∧∃k:Nat,i= .int .i64 k∧k≤4) (fun i _=>4-(intOf i).toNat)
 case atStart=>exact⟨HB00,HX00,by simp,0,rfl,by omega⟩
 case round=>
  clear HB00 HX00
  obtain⟨HB0,HX,hwr,k,rfl,hk⟩:=hrel
  by_cases hlt:k<4
  ·obtain⟨c,hc⟩:∃c,b[k]? =some c:=⟨_,List.getElem?_eq_getElem (by omega)⟩
   have hc2:([71,67,48,49]:List UInt8)[k]? =some c:=by rw[←magic_at k hlt,HB.out,hc]
   have d:decide ((22:Int)≤(k:Int))=false:=decide_eq_false (by omega)
   have dn:decide (22≤k)=false:=decide_eq_false (by omega)
   have hix:∀h,(⟨⟨b⟩⟩:ByteArray)[k]'h=c:=fun h=>(List.getElem?_eq_some_iff.1 hc).2
   have hix2:∀h,(⟨#[71,67,48,49]⟩:ByteArray)[k]'h=c:=fun h=>(List.getElem?_eq_some_iff.1 hc2).2
   clear hc hc2
   go_upto_region 4 with fail
   go_quiet (fail)
   go_wp2_with fail
   exact⟨⟨Lib.hid ⟨HB0.out.os,HB0.out.tape,HB0.out.output,HB0.out.size,HB0.out.block⟩,HX,hwr,k+1,by simp,by omega⟩,by simp[intOf];omega⟩
  ·obtain rfl:k=4:=by omega
   have HR0:Hid (RdAt (wr.alloc (.cells #[.string ⟨⟨b⟩⟩,.int .i64 4,.int .i64 (-1)] 101 (0,0))) (w.heap.size+1) b ⟨4,none⟩ (wr.alloc (.cells #[.string ⟨⟨b⟩⟩,.int .i64 4,.int .i64 (-1)] 101 (0,0)))):=Lib.hid ⟨⟨by have:=heap_alloc_new wr (.cells #[.string ⟨⟨b⟩⟩,.int .i64 4,.int .i64 (-1)] 101 (0,0));rw[hwr] at this;exact this,by rw[hbl];decide⟩,Foot.refl _ _ _,by simp[hwr]⟩
   have HX0:Hid (((wr.alloc (.cells #[.string ⟨⟨b⟩⟩,.int .i64 4,.int .i64 (-1)] 101 (0,0))).alloc (.cells #[.slice none 0 0,.slice none 0 0] 27 (0,0))).heap[w.heap.size]? =some (.cells #[.slice none 0 0,.slice none 0 0] 27 (0,0))):=Lib.hid ((heap_alloc_old _ _ (by simp[hwr];omega)).trans ((heap_alloc_old _ _ (by omega)).trans HX.out))
   have HBW:Hid (Below w.heap.size w (wr.alloc (.cells #[.string ⟨⟨b⟩⟩,.int .i64 4,.int .i64 (-1)] 101 (0,0)))):=Lib.hid (HB0.out.alloc HB0.out.size _)
   obtain⟨W0,hW0⟩:∃W0,wr.alloc (.cells #[.string ⟨⟨b⟩⟩,.int .i64 4,.int .i64 (-1)] 101 (0,0))=W0:=⟨_,rfl⟩
   have hsz:W0.heap.size=w.heap.size+2:=by rw[←hW0,World.size_alloc,hwr]
   have HM1:Hid (∀W,RdAt W0 (w.heap.size+1) b ⟨4,none⟩ W→Calls Tryz.prog 60 #[.pointer (some ⟨w.heap.size+1,0,none⟩)] W fun e w'=>e= .returned (.int .i64 0)∧BrAt (w.heap.size+1) b ⟨5,none⟩ w'∧RF (w.heap.size+1) W w'):=Lib.hid fun W h=>by
    have:=many_any h.at_ (by omega)
    rw[←HB.out,dec_m1] at this
    rw[←HB.out]
    exact this
   have HM2:Hid (∀W,RdAt W0 (w.heap.size+1) b ⟨5,none⟩ W→Calls Tryz.prog 60 #[.pointer (some ⟨w.heap.size+1,0,none⟩)] W fun e w'=>e= .returned (.int .i64 1)∧BrAt (w.heap.size+1) b ⟨6,none⟩ w'∧RF (w.heap.size+1) W w'):=Lib.hid fun W h=>by
    have:=many_any h.at_ (by omega)
    rw[←HB.out,dec_m2] at this
    rw[←HB.out]
    exact this
   have HFU:Hid (∀W,RdAt W0 (w.heap.size+1) b ⟨6,none⟩ W→Calls Tryz.prog 62 #[.pointer (some ⟨w.heap.size+1,0,none⟩)] W fun e w'=>∃fv:Fv,e= .returned (fnV (leastF,fv))∧BrAt (w.heap.size+1) b ⟨22,none⟩ w'∧RF (w.heap.size+1) W w'∧
     w'.ownsRow W.heap.size 3 1 (.slice fv.ta 0 fv.tc) 0 []∧w'.ownsRow W.heap.size 36 5 (.slice fv.ca 2 fv.cc) 2 (leastF.code.flatMap insCells)):=Lib.hid fun W h=>by
    have:=function_any h.at_ (by omega)
    rw[←HB.out,dec_f] at this
    rw[←HB.out]
    exact this
   obtain⟨rb,hrb⟩:∃rb,w.heap.size+1=rb:=⟨_,rfl⟩
   go_upto_region 8 with fail
   simp only[hW0,hrb] at HR0 HX0 HBW HM1 HM2 HFU⊢
   obtain⟨pb,hpb⟩:∃pb,w.heap.size+2=pb:=⟨_,rfl⟩
   rw[hpb] at hsz
   have HX1:Hid (RBox W0 (W0.alloc (.cells #[.slice none 0 0,.slice none 0 0] 27 (0,0))) W0.heap.size (.cells #[.slice none 0 0,.slice none 0 0] 27 (0,0))):=Lib.hid ⟨heap_alloc_new _ _,Nat.le_refl _⟩
   have HR1:=Lib.hid (HR0.out.alloc (.cells #[.slice none 0 0,.slice none 0 0] 27 (0,0)))
   go_upto_region 10 with(go_at_call 60;refine(HM1.out _ HR1.out).mono ?_;rintro e w1 ⟨rfl,hb1,hf1⟩;have HR2:=Lib.hid (HR1.out.post hb1 hf1);have HX2:=Lib.hid (HX1.out.post HR1.out.old hf1);have HX0:=Lib.hid ((hf1.block _ (by simp;omega) (by omega)).trans HX0.out);clear hb1 hf1)
   clear HX HB0 HR0 HX1 HR1
   rw[hsz] at HX2
   go_loopw [7] (fun s7 wr=>s7= .int .i64 0∧Hid (RdAt W0 rb b ⟨5,none⟩ wr)∧Hid (RBox W0 wr pb (.cells #[.slice none 0 0,.slice none 0 0] 27 (0,0)))∧Hid (wr.heap[w.heap.size]? =some (.cells #[.slice none 0 0,.slice none 0 0] 27 (0,0)))) (fun _ _=>0)
   case atStart=>exact⟨rfl,HR2,HX2,HX0⟩
   case round=>
    clear HR2 HX2 HX0
    obtain⟨rfl,HR2,HX2,HX0⟩:=hrel
    go_upto_region 14 with(go_at_call 60;refine(HM2.out _ HR2.out).mono ?_;rintro e w2 ⟨rfl,hb1,hf1⟩;have HR3:=Lib.hid (HR2.out.post hb1 hf1);have HX3:=Lib.hid (HX2.out.post HR2.out.old hf1);have HX0:=Lib.hid ((hf1.block _ (by have:=HX2.out.lt;have:=HX2.out.2;omega) (by omega)).trans HX0.out);clear hb1 hf1)
    clear HR2 HX2
    go_loopw [8] (fun s8 wr=>(s8= .int .i64 1∧Hid (RdAt W0 rb b ⟨6,none⟩ wr)∧Hid (RBox W0 wr pb (.cells #[.slice none 0 0,.slice none 0 0] 27 (0,0)))∧Hid (wr.heap[w.heap.size]? =some (.cells #[.slice none 0 0,.slice none 0 0] 27 (0,0))))∨(s8= .int .i64 0∧∃fv g cap,Hid (DecEnd w W0 rb pb b fv g cap wr))) (fun s8 _=>(intOf s8).toNat)
    case atStart=>exact .inl ⟨rfl,HR3,HX3,HX0⟩
    case round=>
     clear HR3 HX3 HX0
     rcases hrel with⟨rfl,HR3,HX3,HX0⟩|⟨rfl,fv,g,cap,HD⟩
     ·have y2:=HR3.out.at_.c2
      simp only[badI] at y2
      obtain⟨i0,hi,hz0,hz1,hz2⟩:=info_parts funcInfo
      go_upto_region 16 with fail
      have HR3:=Lib.hid HR3.out.drew
      have HX3:=Lib.hid (show RBox W0 wr.drew pb (.cells #[.slice none 0 0,.slice none 0 0] 27 (0,0)) from HX3.out)
      have HX0:=Lib.hid (show wr.drew.heap[w.heap.size]? =some (.cells #[.slice none 0 0,.slice none 0 0] 27 (0,0)) from HX0.out)
      have y3:=cell_of_row _ pb 0 _ _ _ HX3.out.1
      have g3:=frozen_of_row _ pb 0 _ _ HX3.out.1
      simp only[gq] at y3
      refine wp_region_G [7] (fun x=>x.cell? ⟨pb,0,none⟩=some (.slice none 0 0)∧x.frozen? ⟨pb,0,none⟩=false) (by rfl) ?_ (fun hHeld=> ?_)
      ·exact⟨y3,g3⟩
      refine tk 0 (h:=tk 1 (h:=tk 2 (h:= ?_)))
      try simp only[nmC]
      refine rd1 3 fun KK hKK=> ?_
      go_simp
      go_at_call 62
      refine(HFU.out _ HR3.out).mono ?_
      rintro e wz ⟨fv,rfl,hbz,hfz,_,hoz⟩
      have HR4:=Lib.hid (HR3.out.post hbz hfz)
      have HX4:=Lib.hid (HX3.out.post HR3.out.old hfz)
      have HX0:=Lib.hid ((hfz.block _ (by have:=HX3.out.lt;have:=HX3.out.2;omega) (by omega)).trans HX0.out)
      have HO:=Lib.hid hoz
      have hlo:=HX3.out.2
      have hlt:=HX3.out.lt
      have hwz:=hfz.size
      have HLZ:=Lib.hid hfz.size
      clear hbz hfz hoz
      try dsimp only[fnV]
      have y3:=cell_of_row _ pb 0 _ _ _ HX4.out.1
      have g3:=frozen_of_row _ pb 0 _ _ HX4.out.1
      simp only[gq] at y3
      refine hKK.out _ _ (⟨y3,g3⟩) (fun hHeld=> ?_)
      clear hKK KK
      try simp only[nmC]
      refine rd1 4 fun KK hKK=> ?_
      go_simp
      refine hKK.out _ _ (⟨(World.cell?_of_block (a:=⟨pb,0,none⟩) (heap_alloc_old _ _ HX4.out.lt)).trans y3,(frozen_keep (heap_alloc_old _ _ HX4.out.lt) 0).trans g3⟩) (fun hHeld=> ?_)
      clear hKK KK
      try simp only[nmC]
      refine rd1 5 fun KK hKK=> ?_
      refine step_append_lies _ rfl (.tmp 67) (.tmp 70) 24 rfl W0.heap.size 33 i0 _ 6 88 Tryz.underlying24 hi hz0 hz1 hz2 rfl (by decide) (.slice none 0 0) 0 [] rfl (World.ownsRow_nil _ _ _ _) ⟨_,0,none⟩ 1 1 (fnCells (leastF,fv)) rfl rfl (fun k u hu=>news_at _ _ _ _ k u hu) (by intro u hu;simp[fnCells] at hu;rcases hu with rfl|rfl|rfl|rfl|rfl|rfl<;>rfl) (by decide) (by decide) (by decide) (by have:=HR4.out.foot.size;rw[World.size_alloc];omega) _ rfl ?_
      intro g2 cap2 w2 ho2 hg2 hb2 hl2
      have hd:=dec_push HX4.out HX0.out HO.out HR4.out hlo ho2 hg2 hb2 (by first|exact hlt|omega) (by omega) (by omega)
      have y3:=cell_of_row _ pb 0 _ _ _ hd.1
      have g3:=frozen_of_row _ pb 0 _ _ hd.1
      simp only[gq] at y3
      have HD:=Lib.hid hd.2
      clear hd ho2 hg2 hb2
      refine hKK.out _ _ (⟨y3,g3⟩) (fun hHeld=> ?_)
      clear hKK KK
      try simp only[nmC]
      refine tk 6 (h:= ?_)
      try simp only[nmC]
      refine rl1 7 fun KK hKK=> ?_
      go_simp
      refine hKK.out _ _ ?_
      clear hKK KK
      try simp only[nmC]
      refine wpAny_done (by kernel_rfl) ?_ _
      go_wp2_with fail
      go_roundw
      case rel=>exact .inr ⟨by simp,fv,g2,cap2,HD⟩
      case measure=>simp[intOf]
     ·have y1:=HD.out.rd.at_.c1
      have y2:=HD.out.rd.at_.c2
      simp only[badI] at y1 y2
      obtain⟨q0,q1⟩:=cr2 wr pb HD.out.box.1
      simp only[gq] at q0 q1
      have hbw:Below w.heap.size w wr:=HBW.out.trans ⟨HD.out.rd.foot.os,HD.out.rd.foot.tape,HD.out.rd.foot.output,HD.out.rd.foot.size,fun k hk=>HD.out.rd.foot.block k (by omega) (by omega)⟩
      have HBE:=Lib.hid hbw
      have HRT:=Lib.hid (right_plain least_plain (HGc.out.up hbw) (least_lies HD.out.fns HD.out.ins) least_fits (by simp))
      clear hbw
      go_wp2_with (go_at_call 11;refine HRT.out.mono ?_;rintro e w5 ⟨hb5,rfl⟩;have z0:=(World.cell?_of_block (w:=wr) (a:=⟨pb,0,none⟩) (hb5.block pb HD.out.box.lt)).trans q0;have z1:=(World.cell?_of_block (w:=wr) (a:=⟨pb,1,none⟩) (hb5.block pb HD.out.box.lt)).trans q1;have hr5:=(hb5.block w.heap.size (Array.getElem?_eq_some_iff.1 HD.out.res).1).trans HD.out.res;have c0:=cell_of_row w5 _ 0 _ _ _ hr5;have c1:=cell_of_row w5 _ 1 _ _ _ hr5;have f0:=frozen_of_row w5 _ 0 _ _ hr5;have f1:=frozen_of_row w5 _ 1 _ _ hr5;simp only[gq] at c0 c1;have HB5:=Lib.hid hb5;clear hb5 hr5)
      have hset:∀k,k≠w.heap.size→∀(v0 v1:Value),((w5.setCell ⟨w.heap.size,0,none⟩ v0).setCell ⟨w.heap.size,1,none⟩ v1).heap[k]? =w5.heap[k]? :=by
       intro k hk v0 v1
       iterate 2 rw[Below.heap_setCell _ _ _ _ hk]
      refine bodyPost_ret (dec_result _ _ w.heap.size (.slice (some ⟨g,0,none⟩) 1 cap) (.slice none 0 0) rfl rfl ?_ ?_) rfl ⟨_,rfl, ?_, ?_⟩
      iterate 2 (·first|(simp[c0,c1];done)|(go_simp;done))
      ·have hk:∀k,W0.heap.size≤k→k<wr.heap.size→∀(v0 v1:Value),((w5.setCell ⟨w.heap.size,0,none⟩ v0).setCell ⟨w.heap.size,1,none⟩ v1).heap[k]? =wr.heap[k]? :=fun k h1 h2 v0 v1=>(hset k (by omega) v0 v1).trans (HB5.out.block k h2)
       exact least_lies (own_keep HD.out.fns fun k h=>hk k (HD.out.fns.lt k h).1 (HD.out.fns.lt k h).2 _ _) (own_keep HD.out.ins fun k h=>hk k (HD.out.ins.lt k h).1 (HD.out.ins.lt k h).2 _ _)
      ·exact((HBE.out.trans (HB5.out.mono HBE.out.size)).setCell (Nat.le_refl _) _).setCell (Nat.le_refl _) _
end Go.Proofs.YtagnicbknbmccaaGreatDoor
