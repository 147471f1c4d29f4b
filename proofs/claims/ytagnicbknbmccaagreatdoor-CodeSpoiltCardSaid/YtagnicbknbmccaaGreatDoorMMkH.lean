/- guiselaw13.Made of any raw numbers. A program in memory of its own of which one function is turned, or the variables are more. -/
import Derived.Deep.AppendLies
import Derived.Deep.DeepCutAuto
import Derived.Deep.Upon
import Derived.Test.YtagnicbknbmccaaGreatDoorSqC
import Derived.Test.YtagnicbknbmccaaGreatDoorMCwF
import Derived.Test.YtagnicbknbmccaaGreatDoorMMkF
import Derived.Test.YtagnicbknbmccaaGreatDoorMMkL
set_option maxRecDepth 100000
set_option maxHeartbeats 30000000
namespace Go.Proofs.YtagnicbknbmccaaGreatDoor
open Go.RowKit
def MadePost (raw:List Int) (w:World) (e:Ending) (W':World):Prop:=∃vf vg xs gs,e= .returned (.agg #[vf,vg])∧Below w.heap.size w W'∧PgOwn W' w.heap.size vf vg xs gs∧FnsApart xs∧(⟨xs.map Prod.fst,gs⟩:Cp)=madeC raw
theorem made_result (tmps:Array Value) (W:World) (g:Nat) (v0 v1:Value) (h2:tmps.getD 2 undef= .pointer (some ⟨g,0,none⟩)) (e0:W.cell? ⟨g,0,none⟩=some v0) (e1:W.cell? ⟨g,1,none⟩=some v1):
  (results Tryz.f9 tmps).run Tryz.prog W= .ok (.agg #[v0,v1]) W:=by
 have h2':tmps[2]?.getD undef= .pointer (some ⟨g,0,none⟩):=by simpa using h2
 have hres:Tryz.f9.results= #[ResultVar.cell 2 27]:=rfl
 simp[results,go_sem,h2',e0,e1]
theorem strInfo:(Tryz.prog.info? 9).map (fun i=>(i.zero,i.size,i.bytes))=some (some (.string ⟨#[]⟩),1,16):=by kernel_rfl
theorem MdSt.start {w W:World} {ra:Option Addr} {rc:Nat} {raw:List Int} (hr:RowIs w w.heap.size ra (raw.map (Value.int .i64))) (hok:∀x∈raw,okI x)
  (hW:W=((w.alloc (.cells #[.slice none 0 0,.slice none 0 0] 27 (0,0))).alloc (.cells #[.slice ra raw.length rc,.int .i64 0,.slice none 0 0,.int .i64 0,.int .i64 0,.int .i64 0,.int .i64 0] 65 (0,0))).alloc (.cells #[.slice none 0 0,.slice none 0 0] 27 (0,0))):
  MdSt w W (w.heap.size+1) w.heap.size (w.heap.size+1+1) ra rc raw 0 (.slice none 0 0) (.slice none 0 0) [] []:=by
 have hbl:Below w.heap.size w W:=by subst hW;exact(((Below.refl _ _).alloc (Nat.le_refl _) _).alloc (by simp) _).alloc (by simp;omega) _
 have hk:W.heap[w.heap.size+1]? =some (.cells #[.slice ra raw.length rc,.int .i64 0,.slice none 0 0,.int .i64 0,.int .i64 0,.int .i64 0,.int .i64 0] 65 (0,0)):=by
  subst hW
  refine(heap_alloc_old _ _ (by simp)).trans ?_
  have:=heap_alloc_new (w.alloc (.cells #[.slice none 0 0,.slice none 0 0] 27 (0,0))) (.cells #[.slice ra raw.length rc,.int .i64 0,.slice none 0 0,.int .i64 0,.int .i64 0,.int .i64 0,.int .i64 0] 65 (0,0))
  rwa [World.size_alloc] at this
 have hr0:W.heap[w.heap.size]? =some (.cells #[.slice none 0 0,.slice none 0 0] 27 (0,0)):=by
  subst hW
  exact(heap_alloc_old _ _ (by simp;omega)).trans ((heap_alloc_old _ _ (by simp)).trans (heap_alloc_new w _))
 have hp0:W.heap[w.heap.size+1+1]? =some (.cells #[.slice none 0 0,.slice none 0 0] 27 (0,0)):=by
  subst hW
  have:=heap_alloc_new ((w.alloc (.cells #[.slice none 0 0,.slice none 0 0] 27 (0,0))).alloc (.cells #[.slice ra raw.length rc,.int .i64 0,.slice none 0 0,.int .i64 0,.int .i64 0,.int .i64 0,.int .i64 0] 65 (0,0))) (.cells #[.slice none 0 0,.slice none 0 0] 27 (0,0))
  simpa using this
 refine⟨⟨hbl,hk,by omega,hr,hok,World.ownsRow_nil _ _ _ _,by simp[Value.ownBlock]⟩,hr0,hp0,⟨World.ownsRow_nil _ _ _ _,World.ownsRow_nil _ _ _ _,fun x hx=>(by cases hx),fun g hg=>by simp[Value.ownBlock] at hg,fun g hg=>by simp[Value.ownBlock] at hg⟩,FnsApart.nil,fun g hg=> ?_,by omega,by omega,by omega,by omega,by omega⟩
 rcases hg with e|e|⟨x,hx,_⟩
 ·simp[Value.ownBlock] at e
 ·simp[Value.ownBlock] at e
 ·cases hx
section
variable {w W W1 W':World} {kb rb pb xb:Nat} {ra:Option Addr} {rc:Nat} {raw:List Int} {at_:Nat} {vf vg:Value} {xs:List (Cf×Fv)} {gs:List ByteArray} {cs:Array Value}
theorem MdSt.pcs (h:MdSt w W kb rb pb ra rc raw at_ vf vg xs gs):W.cell? ⟨pb,0,none⟩=some vf∧W.cell? ⟨pb,1,none⟩=some vg∧W.frozen? ⟨pb,0,none⟩=false∧W.frozen? ⟨pb,1,none⟩=false:=
 ⟨(cell_of_row W pb 0 _ _ _ h.box).trans rfl,(cell_of_row W pb 1 _ _ _ h.box).trans rfl,frozen_of_row W pb 0 _ _ h.box,frozen_of_row W pb 1 _ _ h.box⟩
theorem MdFn.xcs {v0 v1 v2 v3 v4 v5:Value} (h:MdFn w W1 W kb rb pb xb ra rc raw at_ vf vg xs gs #[v0,v1,v2,v3,v4,v5]):W.cell? ⟨xb,0,none⟩=some v0∧W.cell? ⟨xb,1,none⟩=some v1∧W.cell? ⟨xb,2,none⟩=some v2∧W.cell? ⟨xb,3,none⟩=some v3∧W.cell? ⟨xb,4,none⟩=some v4∧W.cell? ⟨xb,5,none⟩=some v5∧∀i,W.frozen? ⟨xb,i,none⟩=false:=
 ⟨(cell_of_row W xb 0 _ _ _ h.x).trans rfl,(cell_of_row W xb 1 _ _ _ h.x).trans rfl,(cell_of_row W xb 2 _ _ _ h.x).trans rfl,(cell_of_row W xb 3 _ _ _ h.x).trans rfl,(cell_of_row W xb 4 _ _ _ h.x).trans rfl,(cell_of_row W xb 5 _ _ _ h.x).trans rfl,fun i=>frozen_of_row W xb i _ _ h.x⟩
theorem MdSt.nextC (h:MdSt w W kb rb pb ra rc raw at_ vf vg xs gs) {m:Mk} {n K:Nat} (hn:Mk.next ⟨raw,at_,[],0,0,0⟩ n=(K,m)) (h0:0<n) (h1:n≤1000000000) (ha:at_≤1000000000) {i:Int} (e:i=(n:Int):=by rfl):
  Calls Tryz.prog 31 #[.pointer (some ⟨kb,0,none⟩),.int .i64 i] W fun e W'=>e= .returned (.int .i64 K)∧MdSt w W' kb rb pb ra rc raw (at_+1) vf vg xs gs:=by
 subst e
 have hm:m=⟨raw,at_+1,[],0,0,0⟩:=(congrArg Prod.snd hn).symm
 subst hm
 exact(next_to h.k hn h0 h1 ha).mono fun e W' hp=>⟨hp.1,h.next hn hp.2.1 hp.2.2.2⟩
theorem MdFn.nextC (h:MdFn w W1 W kb rb pb xb ra rc raw at_ vf vg xs gs cs) {m:Mk} {n K:Nat} (hn:Mk.next ⟨raw,at_,[],0,0,0⟩ n=(K,m)) (h0:0<n) (h1:n≤1000000000) (ha:at_≤1000000000) {i:Int} (e:i=(n:Int):=by rfl):
  Calls Tryz.prog 31 #[.pointer (some ⟨kb,0,none⟩),.int .i64 i] W fun e W'=>e= .returned (.int .i64 K)∧MdFn w W1 W' kb rb pb xb ra rc raw (at_+1) vf vg xs gs cs:=by
 subst e
 have hm:m=⟨raw,at_+1,[],0,0,0⟩:=(congrArg Prod.snd hn).symm
 subst hm
 exact(next_to h.st.k hn h0 h1 ha).mono fun e W' hp=>⟨hp.1,h.next hn hp.2.1 hp.2.2.2⟩
theorem MdFn.nextF (h:MdFn w W1 W kb rb pb xb ra rc raw at_ vf vg xs gs cs) {m:Mk} {n K:Nat} (hn:Mk.next ⟨raw,at_,[],0,0,0⟩ n=(K,m)) (h0:0<n) (h1:n≤1000000000) (ha:at_≤1000000000) {i:Int} (e:i=(n:Int):=by rfl):
  Calls Tryz.prog 31 #[.pointer (some ⟨kb,0,none⟩),.int .i64 i] W fun e W'=>e= .returned (.int .i64 K)∧MdFn w W1 W' kb rb pb xb ra rc raw (at_+1) vf vg xs gs cs∧∀g,g≠kb→W'.heap[g]? =W.heap[g]? :=by
 subst e
 have hm:m=⟨raw,at_+1,[],0,0,0⟩:=(congrArg Prod.snd hn).symm
 subst hm
 exact(next_to h.st.k hn h0 h1 ha).mono fun e W' hp=>⟨hp.1,h.next hn hp.2.1 hp.2.2.2,hp.2.2.2⟩
structure MdTk (W1 W:World) (xb:Nat) (ta:Option Addr) (tc:Nat) (TK:List Int):Prop where
 own:W.ownsRow W1.heap.size 3 1 (.slice ta TK.length tc) TK.length (TK.map (Value.int .i64))
 ne:∀g,(Value.slice ta TK.length tc).ownBlock=some g→g≠xb
theorem MdTk.keep {ta:Option Addr} {tc:Nat} {TK:List Int} (h:MdTk W1 W xb ta tc TK) (hk:∀g,W1.heap.size≤g→g≠xb→g<W.heap.size→W'.heap[g]? =W.heap[g]?):MdTk W1 W' xb ta tc TK:=
 ⟨own_keep h.own fun g hg=>hk g (h.own.lt g hg).1 (h.ne g hg) (h.own.lt g hg).2,h.ne⟩
theorem MdFn.maker (h:MdFn w W1 W kb rb pb xb ra rc raw at_ vf vg xs gs cs) (sl tp:Nat):MkAt W.heap.size W (W.alloc (.cells #[.slice ra raw.length rc,.int .i64 at_,.slice none 0 0,.int .i64 0,.int .i64 sl,.int .i64 tp,.int .i64 0] 65 (0,0))) W.heap.size ra rc (.slice none 0 0) 0 ⟨raw,at_,[],0,sl,tp⟩:=by
 refine⟨(Below.refl _ _).alloc (Nat.le_refl _) _,heap_alloc_new _ _,Nat.le_refl _, ?_,h.st.k.rok,World.ownsRow_nil _ _ _ _,by simp[Value.ownBlock]⟩
 have hl:=h.st.k.low.size
 rcases h.st.k.row with e|⟨g,o,e,hg,hc⟩
 ·exact .inl e
 ·exact .inr ⟨g,o,e,by omega,fun j v hj=>(World.cell?_of_block (a:=⟨g,o+j,none⟩) (h.st.k.low.block g hg)).trans (hc j v hj)⟩
end
theorem body_at (m:Mk) (_ha:m.at_≤100000) (hl:m.code.length≤10):m.body.at_≤m.at_+500∧m.body.code.length≤1000:=by
 have hones:∀(n:Nat) (k:Mk),(Mk.ones n k).at_≤k.at_+8*n∧(Mk.ones n k).code.length≤k.code.length+8*n:=by
  intro n
  induction n with
  |zero=>exact fun k=>⟨Nat.le_refl _,Nat.le_refl _⟩
  |succ n ih=>
   intro k
   unfold Mk.ones
   split
   ·obtain⟨a1,_,a3,_⟩:=one_facts k
    obtain⟨b1,b2⟩:=ih k.one
    exact⟨by omega,by omega⟩
   ·exact⟨by omega,by omega⟩
 unfold Mk.body
 simp only
 obtain⟨s,hs⟩:∃s,m.add 1 0 [] 0 0=s:=⟨_,rfl⟩
 obtain⟨x1,x2,x3⟩:=add_facts hs
 rw[hs]
 obtain⟨n,f,hn⟩:∃n f,s.next 60=(n,f):=⟨_,_,rfl⟩
 obtain⟨k1,k2,k3,_⟩:=next_eq hn (by decide)
 rw[hn]
 simp only
 obtain⟨c1,c2⟩:=hones n f
 obtain⟨p1,p2,p3,_⟩:=mkPush_facts (Mk.ones n f)
 obtain⟨q1,q2,q3⟩:=add_facts (rfl:(Mk.ones n f).push.add 50 0 [] 1 0=_)
 have k3l:f.code.length=s.code.length:=by rw[k3]
 exact⟨by omega,by omega⟩
theorem lt_3 {k:Nat} (h:k<3):k=0∨k=1∨k=2:=by omega
theorem made_any {w:World} {ra:Option Addr} {rc:Nat} {raw:List Int} (hr:RowIs w w.heap.size ra (raw.map (Value.int .i64))) (hok:∀x∈raw,okI x):
  Calls Tryz.prog 9 #[.slice ra raw.length rc] w (MadePost raw w):=by
 obtain⟨W0,hW0⟩:∃W0,W0=((w.alloc (.cells #[.slice none 0 0,.slice none 0 0] 27 (0,0))).alloc (.cells #[.slice ra raw.length rc,.int .i64 0,.slice none 0 0,.int .i64 0,.int .i64 0,.int .i64 0,.int .i64 0] 65 (0,0))).alloc (.cells #[.slice none 0 0,.slice none 0 0] 27 (0,0)):=⟨_,rfl⟩
 have HS0:=Lib.hid (MdSt.start (rc:=rc) hr hok hW0)
 obtain⟨T,t1,hT⟩:∃T t1,Mk.next ⟨raw,0,[],0,0,0⟩ 3=(T,t1):=⟨_,_,rfl⟩
 obtain⟨hT3,ta,_⟩:=next_eq hT (by decide)
 have ht1:t1=⟨raw,1,[],0,0,0⟩:=(congrArg Prod.snd hT).symm
 obtain⟨N,t2,hN⟩:∃N t2,Mk.next ⟨raw,1,[],0,0,0⟩ 5=(N,t2):=⟨_,_,rfl⟩
 obtain⟨hN5,_,_⟩:=next_eq hN (by decide)
 have ht2:t2=⟨raw,2,[],0,0,0⟩:=(congrArg Prod.snd hN).symm
 have hMC:madeC raw=⟨madeFns raw (min T 2) (1+N) 0 2,[(⟨#[97]⟩:ByteArray),⟨#[98]⟩].take (min T 2)⟩:=by
  unfold madeC
  simp only[hT,ht1,hN,ht2]
 have HMC:=Lib.hid hMC
 obtain⟨kb,hkb⟩:∃kb,w.heap.size+1=kb:=⟨_,rfl⟩
 obtain⟨pb,hpb⟩:∃pb,w.heap.size+1+1=pb:=⟨_,rfl⟩
 obtain⟨rb,hrb⟩:∃rb,w.heap.size=rb:=⟨_,rfl⟩
 have HW0:=Lib.hid hW0
 have HNX:=Lib.hid hT
 have HNY:=Lib.hid hN
 clear hr hok hT hN ht1 ht2 hMC ta hW0
 go_enter Tryz.func9,Tryz.ntmps9
 go_upto_region 3 with fail
 rw[←HW0.out]
 clear HW0
 rw[hrb] at hkb hpb
 rw[hkb] at hpb
 simp only[hrb] at HS0⊢
 simp only[hkb] at HS0⊢
 simp only[hpb] at HS0⊢
 go_upto_region 4 with(go_at_call 31;refine(HS0.out.nextC HNX.out (by decide) (by decide) (by decide)).mono ?_;rintro e w1 ⟨rfl,h1⟩;have HS:=Lib.hid h1;clear h1)
 go_cut [] (fun wx=>∃vg,Hid (MdSt w wx kb rb pb ra rc raw 1 (.slice none 0 0) vg [] ([(⟨#[97]⟩:ByteArray),⟨#[98]⟩].take (min T 2))))
 case first=>
  have HSD:Hid (MdSt w w1.drew kb rb pb ra rc raw 1 (.slice none 0 0) (.slice none 0 0) [] []):=Lib.hid (HS.out.under ⟨rfl,rfl,rfl,Nat.le_refl _,fun _ _=>rfl⟩)
  obtain⟨_,y1,_,g1⟩:=HSD.out.pcs
  have hpl:=HSD.out.pl.2.2
  obtain⟨i0,hi,hz0,hz1,hz2⟩:=info_parts strInfo
  rcases lt_3 hT3 with rfl|rfl|rfl
  ·have emn:min (0:Int) 2=0:=by decide
   have hap:∀(W:World) (tb:Nat),(Builtin.append_ #[25,25] 25 #[.slice none 0 0,.slice (some ⟨tb,0,none⟩) 0 2]).run Tryz.prog W= .ok (.slice none 0 0) W:=fun W tb=>Go.run_append_nothing W _ _ _ _ i0 Tryz.underlying25 hi none 0 0 (Nat.le_refl _) _ (Src.ofSlice W Tryz.underlying25 ⟨tb,0,none⟩ 0 2 [] (by simp) (by simp) (by simp))
   refine wp_region_G [8] (fun y=>y.cell? ⟨pb,1,none⟩=some (.slice none 0 0)∧y.frozen? ⟨pb,1,none⟩=false) (by rfl) ?_ (fun hHeld=> ?_)
   ·exact⟨y1,g1⟩
   refine tk 0 (h:=tk 1 (h:=tk 3 (h:=tk 4 (h:= ?_))))
   try simp only[nmC]
   refine rd1 2 fun KK hKK=> ?_
   go_simp
   refine hKK.out _ _ (⟨(World.cell?_of_block (a:=⟨pb,1,none⟩) (heap_alloc_old _ _ hpl)).trans y1,(frozen_keep (heap_alloc_old _ _ hpl) 1).trans g1⟩) (fun hHeld=> ?_)
   clear hKK KK
   try simp only[nmC]
   refine tk 5 (h:= ?_)
   try simp only[nmC]
   refine rd1 6 fun KK hKK=> ?_
   go_simp
   refine hKK.out _ _ (⟨(World.cell?_of_block (a:=⟨pb,1,none⟩) (heap_alloc_old _ _ hpl)).trans y1,(frozen_keep (heap_alloc_old _ _ hpl) 1).trans g1⟩) (fun hHeld=> ?_)
   clear hKK KK
   try simp only[nmC]
   refine tk 7 (h:= ?_)
   try simp only[nmC]
   refine rl1 8 fun KK hKK=> ?_
   go_simp
   refine hKK.out _ _ ?_
   clear hKK KK
   try simp only[nmC]
   refine wpAny_done (by kernel_rfl) ?_ _
   go_wp2_with fail
   go_meet
   exact⟨_,Lib.hid (HSD.out.names (vg:= .slice none 0 0) (gs:=[]) ((Below.refl _ _).alloc (Nat.le_refl _) _) (World.ownsRow_nil _ _ _ _))⟩
  ·have emn:min (1:Int) 2=1:=by decide
   refine wp_region_G [8] (fun y=>y.cell? ⟨pb,1,none⟩=some (.slice none 0 0)∧y.frozen? ⟨pb,1,none⟩=false) (by rfl) ?_ (fun hHeld=> ?_)
   ·exact⟨y1,g1⟩
   refine tk 0 (h:=tk 1 (h:=tk 3 (h:=tk 4 (h:= ?_))))
   try simp only[nmC]
   refine rd1 2 fun KK hKK=> ?_
   go_simp
   refine hKK.out _ _ (⟨(World.cell?_of_block (a:=⟨pb,1,none⟩) (heap_alloc_old _ _ hpl)).trans y1,(frozen_keep (heap_alloc_old _ _ hpl) 1).trans g1⟩) (fun hHeld=> ?_)
   clear hKK KK
   try simp only[nmC]
   refine tk 5 (h:= ?_)
   try simp only[nmC]
   refine rd1 6 fun KK hKK=> ?_
   refine step_append_lies _ rfl (.tmp 16) (.tmp 20) 25 rfl w1.drew.heap.size 9 i0 _ 1 16 Tryz.underlying25 hi hz0 hz1 hz2 rfl (by decide) (.slice none 0 0) 0 [] rfl (World.ownsRow_nil _ _ _ _) ⟨_,0,none⟩ 1 2 [.string ⟨#[97]⟩] rfl rfl (fun k u hu=>news_at w1.drew [.string ⟨#[97]⟩,.string ⟨#[98]⟩] _ _ k u (by(match k,hu with|0,hu=>exact hu))) (by intro u hu;simp at hu;subst hu;rfl) (by decide) (by unfold maxLen;omega) (by omega) (by simp) _ rfl ?_
   intro g2 cap2 w2 ho2 hg2 hb2 hl2
   have hbb:Below w1.drew.heap.size w1.drew w2:=((Below.refl _ _).alloc (Nat.le_refl _) _).trans ⟨hg2.os,hg2.tape,hg2.output,hg2.size,fun k hk=>hg2.block k (by simp;simp at hk;omega) (by simp[Value.ownBlock])⟩
   have z1:=(hbb.cell (p:=⟨pb,1,none⟩) hpl).trans y1
   have z2:=(frozen_keep (hbb.block pb hpl) 1).trans g1
   have HN2:=Lib.hid (HSD.out.names hbb (by simpa using ho2:w2.ownsRow w1.drew.heap.size 9 1 (.slice (some ⟨g2,0,none⟩) 1 cap2) ([⟨#[97]⟩]:List ByteArray).length (([⟨#[97]⟩]:List ByteArray).map Value.string)))
   clear hbb ho2 hg2 hb2 hl2
   refine hKK.out _ _ (⟨z1,z2⟩) (fun hHeld=> ?_)
   clear hKK KK
   try simp only[nmC]
   refine tk 7 (h:= ?_)
   try simp only[nmC]
   refine rl1 8 fun KK hKK=> ?_
   go_simp
   refine hKK.out _ _ ?_
   clear hKK KK
   try simp only[nmC]
   refine wpAny_done (by kernel_rfl) ?_ _
   go_wp2_with fail
   go_meet
   exact⟨_,HN2⟩
  ·have emn:min (2:Int) 2=2:=by decide
   refine wp_region_G [8] (fun y=>y.cell? ⟨pb,1,none⟩=some (.slice none 0 0)∧y.frozen? ⟨pb,1,none⟩=false) (by rfl) ?_ (fun hHeld=> ?_)
   ·exact⟨y1,g1⟩
   refine tk 0 (h:=tk 1 (h:=tk 3 (h:=tk 4 (h:= ?_))))
   try simp only[nmC]
   refine rd1 2 fun KK hKK=> ?_
   go_simp
   refine hKK.out _ _ (⟨(World.cell?_of_block (a:=⟨pb,1,none⟩) (heap_alloc_old _ _ hpl)).trans y1,(frozen_keep (heap_alloc_old _ _ hpl) 1).trans g1⟩) (fun hHeld=> ?_)
   clear hKK KK
   try simp only[nmC]
   refine tk 5 (h:= ?_)
   try simp only[nmC]
   refine rd1 6 fun KK hKK=> ?_
   refine step_append_lies _ rfl (.tmp 16) (.tmp 20) 25 rfl w1.drew.heap.size 9 i0 _ 1 16 Tryz.underlying25 hi hz0 hz1 hz2 rfl (by decide) (.slice none 0 0) 0 [] rfl (World.ownsRow_nil _ _ _ _) ⟨_,0,none⟩ 2 2 [.string ⟨#[97]⟩,.string ⟨#[98]⟩] rfl rfl (fun k u hu=>news_at w1.drew [.string ⟨#[97]⟩,.string ⟨#[98]⟩] _ _ k u (by exact hu)) (by intro u hu;simp at hu;rcases hu with rfl|rfl<;>rfl) (by decide) (by unfold maxLen;omega) (by omega) (by simp) _ rfl ?_
   intro g2 cap2 w2 ho2 hg2 hb2 hl2
   have hbb:Below w1.drew.heap.size w1.drew w2:=((Below.refl _ _).alloc (Nat.le_refl _) _).trans ⟨hg2.os,hg2.tape,hg2.output,hg2.size,fun k hk=>hg2.block k (by simp;simp at hk;omega) (by simp[Value.ownBlock])⟩
   have z1:=(hbb.cell (p:=⟨pb,1,none⟩) hpl).trans y1
   have z2:=(frozen_keep (hbb.block pb hpl) 1).trans g1
   have HN2:=Lib.hid (HSD.out.names hbb (by simpa using ho2:w2.ownsRow w1.drew.heap.size 9 1 (.slice (some ⟨g2,0,none⟩) 2 cap2) ([⟨#[97]⟩,⟨#[98]⟩]:List ByteArray).length (([⟨#[97]⟩,⟨#[98]⟩]:List ByteArray).map Value.string)))
   clear hbb ho2 hg2 hb2 hl2
   refine hKK.out _ _ (⟨z1,z2⟩) (fun hHeld=> ?_)
   clear hKK KK
   try simp only[nmC]
   refine tk 7 (h:= ?_)
   try simp only[nmC]
   refine rl1 8 fun KK hKK=> ?_
   go_simp
   refine hKK.out _ _ ?_
   clear hKK KK
   try simp only[nmC]
   refine wpAny_done (by kernel_rfl) ?_ _
   go_wp2_with fail
   go_meet
   exact⟨_,HN2⟩
 case rest=>
  clear HS HNX HS0
  obtain⟨vg,HS⟩:=hcut
  obtain⟨TP,hTP⟩:∃TP,min T 2=TP:=⟨_,rfl⟩
  have hMC:=HMC.out
  rw[hTP] at HS hMC
  have hTP2:TP≤2:=by omega
  obtain⟨G,HGS⟩:∃G,Hid (([(⟨#[97]⟩:ByteArray),⟨#[98]⟩].take TP)=G):=⟨_,rfl⟩
  have hgl:G.length=TP:=by rw[←HGS.out,List.length_take];simp only[List.length_cons,List.length_nil];omega
  rw[HGS.out] at HS hMC
  obtain⟨ga,gc,rfl,_,_⟩:=row_form HS.out.pg.own2
  rw[hgl] at HS
  have HGL:=Lib.hid hgl
  clear HMC hgl hTP
  obtain⟨A0,hA0⟩:∃A0,madeFns raw TP (1+N) 0 2=A0:=⟨_,rfl⟩
  have HMC2:Hid (madeC raw=⟨A0,G⟩):=Lib.hid (by rw[hMC,hA0])
  have HA0:=Lib.hid hA0
  have hwN:IntKind.i64.wrap (1+(N:Int))=((1+N:Nat):Int):=by rw[IntKind.wrap_i64];omega
  obtain⟨n,hn⟩:∃n,1+N=n:=⟨_,rfl⟩
  rw[hn] at hA0 HA0 hwN
  have hn6:n≤5:=by omega
  clear hA0 hn hMC HGS
  go_upto_region 6 with(go_at_call 31;refine(HS.out.nextC HNY.out (by decide) (by decide) (by decide)).mono ?_;rintro e w2 ⟨rfl,h1⟩;have HS2:=Lib.hid h1;clear h1)
  clear HS HNY
  go_wp2_with fail
  go_loopw [7] (fun v7 wr=>∃(f at_:Nat) (vf:Value) (xs:List (Cf×Fv)),v7= .int .i64 f∧f≤n∧xs.length=f∧at_≤2+600*f∧Hid (MdSt w wr kb rb pb ra rc raw at_ vf (.slice ga TP gc) xs G)∧Hid (xs.map Prod.fst++madeFns raw TP (n-f) f at_=A0)) (fun v7 _=>n-(intOf v7).toNat)
  case atStart=>exact⟨0,2,_,[],rfl,Nat.zero_le _,rfl,by omega,HS2,HA0⟩
  case round=>
   clear HS2 HA0 hwN
   obtain⟨f,at_,vf,xs,rfl,hfn,hxl,hat,HS,HA⟩:=hrel
   obtain⟨fa,fc,rfl,_,_⟩:=row_form HS.out.pg.own1
   rw[hxl] at HS
   by_cases hlt:f<n
   ·obtain⟨j,hj⟩:∃j,n-f=j+1:=⟨n-f-1,by omega⟩
    have hA:=HA.out
    rw[hj,madeFns] at hA
    have hf5:f<6:=by omega
    have hfm:f<5:=by omega
    obtain⟨P,a1,hp,hP3,ha1,hp0⟩:∃P a1,(if 0<f then Mk.next ⟨raw,at_,[],0,0,0⟩ 3 else(0,(⟨raw,at_,[],0,0,0⟩:Mk)))=(P,⟨raw,a1,[],0,0,0⟩)∧P<3∧a1≤at_+1∧(f=0→P=0∧a1=at_):=by
     by_cases h0:0<f
     ·rw[if_pos h0]
      exact⟨_,_,rfl,next_lt _ (by decide),Nat.le_refl _,fun h=>by omega⟩
     ·rw[if_neg h0]
      exact⟨_,_,rfl,by decide,Nat.le_succ _,fun _=>⟨rfl,rfl⟩⟩
    obtain⟨K,a2,hl,ha2,hl0⟩:∃K a2,(if 1<f then Mk.next ⟨raw,a1,[],0,0,0⟩ 3 else(1,(⟨raw,a1,[],0,0,0⟩:Mk)))=(K,⟨raw,a2,[],0,0,0⟩)∧a2≤a1+1∧(¬1<f→K=1∧a2=a1):=by
     by_cases h0:1<f
     ·rw[if_pos h0]
      exact⟨_,_,rfl,Nat.le_refl _,fun h=>absurd h0 h⟩
     ·rw[if_neg h0]
      exact⟨_,_,rfl,Nat.le_succ _,fun _=>⟨rfl,rfl⟩⟩
    obtain⟨S,s1,hs⟩:∃S s1,Mk.next ⟨raw,a2,[],0,0,0⟩ 3=(S,s1):=⟨_,_,rfl⟩
    obtain⟨hS3,_⟩:=next_eq hs (by decide)
    obtain⟨A3,hA3⟩:∃A3,a2+1=A3:=⟨_,rfl⟩
    have hs1:s1=⟨raw,A3,[],0,0,0⟩:=by rw[←hA3];exact(congrArg Prod.snd hs).symm
    obtain⟨SL,hSL⟩:∃SL,P+1+S=SL:=⟨_,rfl⟩
    obtain⟨BD,hBD⟩:∃BD,Mk.body ⟨raw,A3,[],0,SL,TP⟩=BD:=⟨_,rfl⟩
    obtain⟨hba,hbc⟩:=body_at ⟨raw,A3,[],0,SL,TP⟩ (by simp only;omega) (Nat.zero_le _)
    simp only[hBD] at hba hbc
    obtain⟨NM,hNM⟩:∃NM,(if K=0 then [102,117,110,99] else madeNames.getD f [])=NM:=⟨_,rfl⟩
    obtain⟨TK,hTK⟩:∃TK:List Int,(if K=0 then [0] else [])=TK:=⟨_,rfl⟩
    obtain⟨AR,hAR⟩:∃AR:Int,(if K=0 then(f:Int)-1 else-1)=AR:=⟨_,rfl⟩
    have hF:madeFn raw (TP) f at_=(⟨⟨⟨NM⟩⟩,P,SL,TK,AR,BD.code⟩,BD.at_):=by
     unfold madeFn
     simp only[hp,hl,hs,hs1,hSL,hBD,←hNM,←hTK,←hAR]
     by_cases h0:K=0
     ·simp only[if_pos h0]
     ·simp only[if_neg h0]
    rw[hF] at hA
    dsimp only at hA
    have HA2:=Lib.hid hA
    have HPN:Hid (0<f→Mk.next ⟨raw,at_,[],0,0,0⟩ 3=(P,⟨raw,a1,[],0,0,0⟩)):=Lib.hid fun h=>by rw[←hp,if_pos h]
    have HKN:Hid (1<f→Mk.next ⟨raw,a1,[],0,0,0⟩ 3=(K,⟨raw,a2,[],0,0,0⟩)):=Lib.hid fun h=>by rw[←hl,if_pos h]
    have HSN:=Lib.hid hs
    have HBD:=Lib.hid hBD
    have HNM:=Lib.hid hNM
    have HTK:=Lib.hid hTK
    have HAR:=Lib.hid hAR
    have HHJ:=Lib.hid hj
    have HA3:=Lib.hid hA3
    clear hA HA hp hl hs hs1 hF hBD hNM hTK hAR hj hA3
    go_upto_region 10 with fail
    have HX:=Lib.hid (MdFn.start (cs:= #[.string ⟨#[]⟩,.int .i64 0,.int .i64 0,.slice none 0 0,.int .i64 (-1),.slice none 0 0]) HS.out)
    obtain⟨xb,hxb⟩:∃xb,wr.heap.size=xb:=⟨_,rfl⟩
    obtain⟨W2,hW2⟩:∃W2,wr.alloc (.cells #[.string ⟨#[]⟩,.int .i64 0,.int .i64 0,.slice none 0 0,.int .i64 (-1),.slice none 0 0] 33 (0,0))=W2:=⟨_,rfl⟩
    simp only[hxb,hW2] at HX⊢
    clear hxb hW2 HS
    go_upto_if 33 with fail
    go_cut [] from 33 to 41 (fun wx=>Hid (MdFn w wr wx kb rb pb xb ra rc raw a1 (.slice fa f fc) (.slice ga TP gc) xs G #[.string ⟨⟨madeNames.getD f []⟩⟩,.int .i64 P,.int .i64 0,.slice none 0 0,.int .i64 (-1),.slice none 0 0]))
    case first=>
     by_cases h0:0<f
     ·have e1:decide ((f:Int)>0)=true:=decide_eq_true (by omega)
      have e0:decide (0<f)=true:=decide_eq_true h0
      have hp:=HPN.out h0
      obtain rfl:at_+1=a1:=congrArg (fun z=>z.2.at_) hp
      have hrow:(#[Value.string ⟨#[]⟩,.string ⟨#[109,97,105,110]⟩,.string ⟨#[102]⟩,.string ⟨#[84,46,109]⟩,.string ⟨#[103]⟩]:Array Value)[f]? =some (.string ⟨⟨madeNames.getD f []⟩⟩):=by
       match f,hfm with
       |0,_=>rfl
       |1,_=>rfl
       |2,_=>rfl
       |3,_=>rfl
       |4,_=>rfl
      obtain⟨nm,hnm⟩:∃nm,madeNames.getD f []=nm:=⟨_,rfl⟩
      rw[hnm] at hrow
      have HHP:=Lib.hid hp
      have HX1:=Lib.hid (HX.out.under ((Below.refl _ _).alloc (Nat.le_refl _) (.cells #[.string ⟨#[]⟩,.string ⟨#[109,97,105,110]⟩,.string ⟨#[102]⟩,.string ⟨#[84,46,109]⟩,.string ⟨#[103]⟩] 9 (0,0))))
      have c5:(W2.alloc (.cells #[.string ⟨#[]⟩,.string ⟨#[109,97,105,110]⟩,.string ⟨#[102]⟩,.string ⟨#[84,46,109]⟩,.string ⟨#[103]⟩] 9 (0,0))).cell? ⟨W2.heap.size,f,none⟩=some (.string ⟨⟨nm⟩⟩):=(cell_of_row _ _ f _ _ _ (heap_alloc_new W2 _)).trans hrow
      obtain⟨_,_,_,_,_,_,xf⟩:=HX1.out.xcs
      have xf0:=xf 0
      clear xf hrow
      go_upto_region 12 with fail
      have HX2:=Lib.hid (HX1.out.set 0 (.string ⟨⟨nm⟩⟩))
      obtain⟨W3,hW3⟩:∃W3,(W2.alloc (.cells #[.string ⟨#[]⟩,.string ⟨#[109,97,105,110]⟩,.string ⟨#[102]⟩,.string ⟨#[84,46,109]⟩,.string ⟨#[103]⟩] 9 (0,0))).setCell ⟨xb,0,none⟩ (.string ⟨⟨nm⟩⟩)=W3:=⟨_,rfl⟩
      rw[hW3] at HX2
      simp only[hW3]
      clear hW3 xf0 c5 HX1 HX
      go_wp2_with (go_at_call 31;refine(HX2.out.nextC HHP.out (by decide) (by decide) (by omega)).mono ?_;rintro e w4 ⟨rfl,h1⟩;have HX4:=Lib.hid h1;clear h1;obtain⟨_,_,_,_,_,_,xf⟩:=HX4.out.xcs;have xf1:=xf 1;clear xf)
      go_meet
      rw[hnm]
      exact Lib.hid (HX4.out.set 1 (.int .i64 P))
     ·obtain rfl:f=0:=by omega
      obtain⟨rfl,rfl⟩:=hp0 rfl
      go_wp2_with fail
      go_meet
      exact HX
    case rest=>
     clear HX HPN
     have HX:=hcut
     clear hcut
     go_upto_region 13 with fail
     go_cut [48] from 42 to 48 (fun s48 wx=>s48= .bool (K==0)∧Hid (MdFn w wr wx kb rb pb xb ra rc raw a2 (.slice fa f fc) (.slice ga TP gc) xs G #[.string ⟨⟨madeNames.getD f []⟩⟩,.int .i64 P,.int .i64 0,.slice none 0 0,.int .i64 (-1),.slice none 0 0]))
     case first=>
      by_cases h0:1<f
      ·have e1:decide ((f:Int)>1)=true:=decide_eq_true (by omega)
       have e0:decide (1<f)=true:=decide_eq_true h0
       have hk:=HKN.out h0
       obtain rfl:a1+1=a2:=congrArg (fun z=>z.2.at_) hk
       have HHK:=Lib.hid hk
       clear hk
       go_wp2_with (go_at_call 31;refine(HX.out.nextC HHK.out (by decide) (by decide) (by omega)).mono ?_;rintro e w4 ⟨rfl,h1⟩;have HX4:=Lib.hid h1;clear h1)
       go_meet
       exact⟨by rw[show((K:Int)==0)=(K==0) by rw[Bool.eq_iff_iff];simp],HX4⟩
      ·obtain⟨rfl,rfl⟩:=hl0 h0
       have e1:decide ((f:Int)>1)=false:=decide_eq_false (by omega)
       have e0:decide (1<f)=false:=decide_eq_false h0
       go_wp2_with fail
       go_meet
       exact⟨rfl,HX⟩
     case rest=>
      clear HX HKN
      obtain⟨rfl,HX⟩:=hcut
      go_upto_if 48 with fail
      go_cut [] from 48 to 57 (fun wx=>∃ta tc,Hid (MdTk wr wx xb ta tc TK)∧Hid (MdFn w wr wx kb rb pb xb ra rc raw a2 (.slice fa f fc) (.slice ga TP gc) xs G #[.string ⟨⟨NM⟩⟩,.int .i64 P,.int .i64 0,.slice ta TK.length tc,.int .i64 AR,.slice none 0 0]))
      case first=>
       by_cases h0:K=0
       ·subst h0
        obtain rfl:NM=[102,117,110,99]:=HNM.out.symm
        obtain rfl:TK=[0]:=HTK.out.symm
        obtain rfl:AR=(f:Int)-1:=HAR.out.symm
        have ef:IntKind.i64.wrap ((f:Int)-1)=(f:Int)-1:=by rw[IntKind.wrap_i64];omega
        obtain⟨_,_,_,_,_,_,xf⟩:=HX.out.xcs
        have xf0:=xf 0
        have xf4:=xf 4
        clear xf
        obtain⟨i0,hi,hz0,hz1,hz2⟩:=info_parts intInfo
        go_upto_region 16 with fail
        have HX1:=Lib.hid ((HX.out.set 0 (.string ⟨#[102,117,110,99]⟩)).set 4 (.int .i64 ((f:Int)-1)))
        obtain⟨W3,hW3⟩:∃W3,(wc.setCell ⟨xb,0,none⟩ (.string ⟨#[102,117,110,99]⟩)).setCell ⟨xb,4,none⟩ (.int .i64 ((f:Int)-1))=W3:=⟨_,rfl⟩
        rw[hW3] at HX1
        simp only[hW3]
        clear hW3 xf0 xf4 HX
        have HX2:Hid (MdFn w wr W3 kb rb pb xb ra rc raw a2 (.slice fa f fc) (.slice ga TP gc) xs G #[.string ⟨#[102,117,110,99]⟩,.int .i64 P,.int .i64 0,.slice none 0 0,.int .i64 ((f:Int)-1),.slice none 0 0]):=HX1
        obtain⟨_,_,_,x3,_,_,_⟩:=HX2.out.xcs
        have hxl3:=HX2.out.xl
        have hx3:=HX2.out.hx
        go_wp2_with (at_builtin;refine wpList_append_lies _ rfl _ _ 22 rfl W3.heap.size 3 i0 _ 1 8 Tryz.underlying22 hi hz0 hz1 hz2 rfl (by decide) (.slice none 0 0) 0 [] rfl (World.ownsRow_nil _ _ _ _) ⟨W3.heap.size,0,none⟩ 1 1 [.int .i64 0] rfl rfl (fun k u hu=>news_at W3 [.int .i64 0] _ _ k u hu) (by intro u hu;simp at hu;subst hu;rfl) (by decide) (by unfold maxLen;omega) (by omega) (by simp) _ rfl ?_;intro g2 cap2 w2 ho2 hg2 hb2 hl2;have hbb:Below W3.heap.size W3 w2:=((Below.refl _ _).alloc (Nat.le_refl _) _).trans ⟨hg2.os,hg2.tape,hg2.output,hg2.size,fun k hk=>hg2.block k (by simp;omega) (by simp[Value.ownBlock])⟩;have HX4:=Lib.hid (HX2.out.under hbb);obtain⟨_,_,_,_,_,_,xf⟩:=HX4.out.xcs;have xf3:=xf 3;clear xf)
        go_meet
        refine⟨some ⟨g2,0,none⟩,cap2,Lib.hid ⟨?_, ?_⟩,Lib.hid (HX4.out.set 3 (.slice (some ⟨g2,0,none⟩) 1 cap2))⟩
        ·have hge:=(ho2.lt g2 rfl).1
         refine own_keep (Go.Joins.ownsRow_le ho2 (by omega)) fun g hg=>Below.heap_setCell _ _ _ _ ?_
         obtain rfl:g2=g:=by simpa[Value.ownBlock] using hg
         show g2≠xb
         omega
        ·intro g hg
         have hge:=(ho2.lt g2 rfl).1
         obtain rfl:g2=g:=by simpa[Value.ownBlock] using hg
         omega
       ·have ek:(K==0)=false:=by simp[h0]
        have h1:=HNM.out
        have h2:=HTK.out
        have h3:=HAR.out
        rw[if_neg h0] at h1 h2 h3
        subst h1 h2 h3
        go_wp2_with fail
        go_meet
        exact⟨none,0,Lib.hid ⟨World.ownsRow_nil _ _ _ _,fun g hg=>by simp[Value.ownBlock] at hg⟩,HX⟩
      case rest=>
       clear HX
       obtain⟨ta,tc,HTO,HX⟩:=hcut
       go_upto_region 17 with fail
       have HXD:Hid (MdFn w wr wc.drew kb rb pb xb ra rc raw a2 (.slice fa f fc) (.slice ga TP gc) xs G #[.string ⟨⟨NM⟩⟩,.int .i64 P,.int .i64 0,.slice ta TK.length tc,.int .i64 AR,.slice none 0 0]):=Lib.hid (HX.out.under ⟨rfl,rfl,rfl,Nat.le_refl _,fun _ _=>rfl⟩)
       obtain⟨_,x1,_,_,_,_,xf⟩:=HXD.out.xcs
       have xf2:=xf 2
       clear xf
       have ep:IntKind.i64.wrap ((P:Int)+1)=(P:Int)+1:=by rw[IntKind.wrap_i64];omega
       have es:IntKind.i64.wrap ((P:Int)+1+S)=(SL:Int):=by rw[IntKind.wrap_i64];omega
       refine wp_region_G [7] (fun y=>y.cell? ⟨xb,1,none⟩=some (.int .i64 P)∧y.frozen? ⟨xb,2,none⟩=false) (by rfl) ?_ (fun hHeld=> ?_)
       ·exact⟨x1,xf2⟩
       refine tk 0 (h:=tk 1 (h:=tk 2 (h:=tk 3 (h:= ?_))))
       try simp only[nmC]
       refine rd1 4 fun KK hKK=> ?_
       go_simp
       go_at_call 31
       refine(HXD.out.nextF HSN.out (by decide) (by decide) (by omega)).mono ?_
       rintro e w5 ⟨rfl,h1,hfo⟩
       have HX5:=Lib.hid h1
       have HFO:=Lib.hid hfo
       clear h1 hfo
       obtain⟨_,z1,_,_,_,_,zf⟩:=HX5.out.xcs
       have zf2:=zf 2
       clear zf
       try dsimp only
       refine hKK.out _ _ (⟨z1,zf2⟩) (fun hHeld=> ?_)
       clear hKK KK
       try simp only[nmC]
       refine tk 5 (h:=tk 6 (h:= ?_))
       try simp only[nmC]
       refine rl1 7 fun KK hKK=> ?_
       go_simp
       refine hKK.out _ _ ?_
       clear hKK KK
       try simp only[nmC]
       refine wpAny_done (by kernel_rfl) ?_ _
       have HX6:=Lib.hid (HX5.out.set 2 (.int .i64 SL))
       obtain⟨w6,hw6⟩:∃w6,w5.setCell ⟨xb,2,none⟩ (.int .i64 SL)=w6:=⟨_,rfl⟩
       have HTO6:Hid (MdTk wr w6 xb ta tc TK):=Lib.hid (by
        rw[←hw6]
        exact((HTO.out.keep fun g _ _ _=>rfl:MdTk wr wc.drew xb ta tc TK).keep fun g h1 _ _=>HFO.out g (by have:=HXD.out.kl.1;omega)).keep fun g _ h2 _=>Below.heap_setCell _ _ _ _ h2)
       rw[hw6] at HX6
       simp only[hw6]
       rw[HA3.out] at HX6
       have HX6:Hid (MdFn w wr w6 kb rb pb xb ra rc raw A3 (.slice fa f fc) (.slice ga TP gc) xs G #[.string ⟨⟨NM⟩⟩,.int .i64 P,.int .i64 SL,.slice ta TK.length tc,.int .i64 AR,.slice none 0 0]):=HX6
       clear hw6 HX5 HXD z1 zf2 x1 xf2 ep es HTO HX HFO
       go_upto_region 18 with fail
       have HXE:Hid (MdFn w wr w6.drew kb rb pb xb ra rc raw A3 (.slice fa f fc) (.slice ga TP gc) xs G #[.string ⟨⟨NM⟩⟩,.int .i64 P,.int .i64 SL,.slice ta TK.length tc,.int .i64 AR,.slice none 0 0]):=Lib.hid (HX6.out.under ⟨rfl,rfl,rfl,Nat.le_refl _,fun _ _=>rfl⟩)
       have k1:=HXE.out.st.k.c1
       obtain⟨_,_,x2,_,_,_,_⟩:=HXE.out.xcs
       obtain⟨_,p1,_,_⟩:=HXE.out.st.pcs
       have hx6:=HXE.out.xl
       obtain⟨hk6,_,hp6⟩:=HXE.out.st.pl
       refine wp_region_G [12] (fun y=>y.cell? ⟨kb,1,none⟩=some (.int .i64 A3)∧y.cell? ⟨xb,2,none⟩=some (.int .i64 SL)∧y.cell? ⟨pb,1,none⟩=some (.slice ga TP gc)) (by rfl) ?_ (fun hHeld=> ?_)
       ·exact⟨k1,x2,p1⟩
       refine tk 0 (h:=tk 1 (h:=tk 2 (h:=tk 3 (h:=tk 4 (h:=tk 5 (h:= ?_))))))
       try simp only[nmC]
       refine tk 6 (h:=tk 7 (h:=tk 8 (h:=tk 9 (h:=tk 10 (h:= ?_)))))
       try simp only[nmC]
       refine rd1 11 fun KK hKK=> ?_
       go_simp
       refine hKK.out _ _ (⟨(World.cell?_of_block (a:=⟨kb,1,none⟩) (heap_alloc_old _ _ hk6)).trans k1,(World.cell?_of_block (a:=⟨xb,2,none⟩) (heap_alloc_old _ _ hx6)).trans x2,(World.cell?_of_block (a:=⟨pb,1,none⟩) (heap_alloc_old _ _ hp6)).trans p1⟩) (fun hHeld=> ?_)
       clear hKK KK
       try simp only[nmC]
       refine rl1 12 fun KK hKK=> ?_
       go_simp
       refine hKK.out _ _ ?_
       clear hKK KK
       try simp only[nmC]
       refine wpAny_done (by kernel_rfl) ?_ _
       have HMK:=Lib.hid (HXE.out.maker SL TP)
       have HX7:=Lib.hid (HXE.out.under ((Below.refl _ _).alloc (Nat.le_refl _) (.cells #[.slice ra raw.length rc,.int .i64 A3,.slice none 0 0,.int .i64 0,.int .i64 SL,.int .i64 TP,.int .i64 0] 65 (0,0))))
       have HTO7:Hid (MdTk wr w6.drew xb ta tc TK):=Lib.hid (HTO6.out.keep fun g _ _ _=>rfl)
       obtain⟨WD,hWD⟩:∃WD,w6.drew=WD:=⟨_,rfl⟩
       have hsD:w6.heap.size=WD.heap.size:=by rw[←hWD];rfl
       obtain⟨mb,hmb⟩:∃mb,WD.heap.size=mb:=⟨_,rfl⟩
       rw[hWD] at HX7 HTO7 HMK HXE
       rw[hmb] at HMK
       simp only[hsD,hmb]
       have hax:(w6.alloc (.cells #[.slice ra raw.length rc,.int .i64 A3,.slice none 0 0,.int .i64 0,.int .i64 SL,.int .i64 TP,.int .i64 0] 65 (0,0))).drew=WD.alloc (.cells #[.slice ra raw.length rc,.int .i64 A3,.slice none 0 0,.int .i64 0,.int .i64 SL,.int .i64 TP,.int .i64 0] 65 (0,0)):=by rw[←hWD];rfl
       rw[hax]
       obtain⟨W7,hW7⟩:∃W7,WD.alloc (.cells #[.slice ra raw.length rc,.int .i64 A3,.slice none 0 0,.int .i64 0,.int .i64 SL,.int .i64 TP,.int .i64 0] 65 (0,0))=W7:=⟨_,rfl⟩
       rw[hW7] at HX7 HMK⊢
       clear hax hW7 hWD hsD HX6 HTO6 k1 x2 p1 hx6 hk6 hp6
       have ha3:=HA3.out
       have HBC:=Lib.hid (mkBody_any HMK.out (by simp only;omega) (by simp only;omega) (by simp) (by simp only;omega) (by simp only;omega))
       have HMB:=Lib.hid hmb
       have HTB:Hid (∀g,(Value.slice ta TK.length tc).ownBlock=some g→g<mb):=Lib.hid fun g hg=>by rw[←hmb];exact(HTO7.out.own.lt g hg).2
       clear hmb
       go_upto_region 20 with(go_at_call 32;refine HBC.out.mono ?_;rintro e w8 ⟨cv8,rfl,h8⟩;rw[HBD.out] at h8;obtain⟨cf,cc,rfl,_⟩:=h8.code;have HX8:=Lib.hid (HXE.out.under (by rw[HMB.out];exact h8.low));have HM8:=Lib.hid h8;obtain⟨_,_,_,_,_,_,xf⟩:=HX8.out.xcs;have xf5:=xf 5;clear xf h8)
       have hxm:xb<mb:=by rw[←HMB.out];exact HXE.out.xl
       have hkx:kb<wr.heap.size∧wr.heap.size≤xb:=⟨HXE.out.kl.1,HXE.out.hx⟩
       have hwm:wr.heap.size≤mb:=by omega
       have HX9:=Lib.hid (HX8.out.set 5 (.slice cf BD.code.length cc))
       have HTO9:Hid (MdTk wr (w8.setCell ⟨xb,5,none⟩ (.slice cf BD.code.length cc)) xb ta tc TK):=Lib.hid ((HTO7.out.keep fun g _ _ h=>HM8.out.low.block g (by rw[←HMB.out];exact h)).keep fun g _ h2 _=>Below.heap_setCell _ _ _ _ h2)
       have HC9:Hid ((w8.setCell ⟨xb,5,none⟩ (.slice cf BD.code.length cc)).ownsRow mb 36 5 (.slice cf BD.code.length cc) BD.code.length (BD.code.flatMap insCells)):=Lib.hid (own_keep HM8.out.own fun g hg=>Below.heap_setCell _ _ _ _ (by show g≠xb;have:=(HM8.out.own.lt g hg).1;omega))
       have m9:(w8.setCell ⟨xb,5,none⟩ (.slice cf BD.code.length cc)).cell? ⟨mb,1,none⟩=some (.int .i64 BD.at_):=(World.cell?_of_block (a:=⟨mb,1,none⟩) (Below.heap_setCell w8 ⟨xb,5,none⟩ _ mb (by show mb≠xb;omega))).trans HM8.out.c1
       obtain⟨W9,hW9⟩:∃W9,w8.setCell ⟨xb,5,none⟩ (.slice cf BD.code.length cc)=W9:=⟨_,rfl⟩
       rw[hW9] at HX9 HTO9 HC9 m9
       simp only[hW9]
       have k9:=frozen_of_row W9 kb 1 _ _ HX9.out.st.k.box
       have q9:=HX9.out.st.k.c1
       clear hW9 xf5 HX8 HM8 HBC HMK HX7 HXE HTO7
       go_upto_region 21 with fail
       have HX10:=Lib.hid (HX9.out.set_at BD.at_)
       have HTO10:Hid (MdTk wr (W9.setCell ⟨kb,1,none⟩ (.int .i64 BD.at_)) xb ta tc TK):=Lib.hid (HTO9.out.keep fun g h1 _ _=>Below.heap_setCell _ _ _ _ (by show g≠kb;omega))
       have HC10:Hid ((W9.setCell ⟨kb,1,none⟩ (.int .i64 BD.at_)).ownsRow mb 36 5 (.slice cf BD.code.length cc) BD.code.length (BD.code.flatMap insCells)):=Lib.hid (own_keep HC9.out fun g hg=>Below.heap_setCell _ _ _ _ (by show g≠kb;have:=(HC9.out.lt g hg).1;omega))
       have HTL:Hid (∀g,(Value.slice ta TK.length tc).ownBlock=some g→g<mb):=Lib.hid fun g hg=>HTB.out g hg
       obtain⟨W10,hW10⟩:∃W10,W9.setCell ⟨kb,1,none⟩ (.int .i64 BD.at_)=W10:=⟨_,rfl⟩
       rw[hW10] at HX10 HTO10 HC10
       simp only[hW10]
       clear hW10 m9 k9 q9 HX9 HTO9 HC9
       have HX10:Hid (MdFn w wr W10 kb rb pb xb ra rc raw BD.at_ (.slice fa f fc) (.slice ga TP gc) xs G #[.string ⟨⟨NM⟩⟩,.int .i64 P,.int .i64 SL,.slice ta TK.length tc,.int .i64 AR,.slice cf BD.code.length cc]):=HX10
       obtain⟨XF,hXF⟩:∃XF:Cf×Fv,XF=(⟨⟨⟨NM⟩⟩,P,SL,TK,AR,BD.code⟩,⟨ta,tc,cf,cc⟩):=⟨_,rfl⟩
       have HFW:Hid (FnOwn W10 wr.heap.size XF):=Lib.hid (by rw[hXF];exact⟨HTO10.out.own,Go.Joins.ownsRow_le HC10.out hwm⟩)
       have HAPW:Hid (∀g,(Value.slice XF.2.ta XF.1.taken.length XF.2.tc).ownBlock=some g→(Value.slice XF.2.ca XF.1.code.length XF.2.cc).ownBlock≠some g):=Lib.hid (by rw[hXF];intro g h1 h2;have:=HTL.out g h1;have:=(HC10.out.lt g h2).1;omega)
       have hcl:fnCells XF=[.string ⟨⟨NM⟩⟩,.int .i64 P,.int .i64 SL,.slice ta TK.length tc,.int .i64 AR,.slice cf BD.code.length cc]:=by rw[hXF];rfl
       have HXF:=Lib.hid hXF
       have HCL:=Lib.hid hcl
       have HXL:=Lib.hid hxl
       have HOW:=Lib.hid HX10.out.st.pg.own1
       have HLO:=Lib.hid HX10.out.st.k.low.size
       have hxl6:xs.length≤5:=by omega
       obtain⟨p0,_,f0,_⟩:=HX10.out.st.pcs
       obtain⟨x0,x1,x2,x3,x4,x5,_⟩:=HX10.out.xcs
       obtain⟨i0,hi,hz0,hz1,hz2⟩:=info_parts funcInfo
       clear hXF hcl hxl
       go_wp2_with (at_builtin;refine wpList_append_lies _ rfl _ _ 24 rfl w.heap.size 33 i0 _ 6 88 Tryz.underlying24 hi hz0 hz1 hz2 rfl (by decide) _ _ _ rfl (HOW.out.alloc _) ⟨W10.heap.size,0,none⟩ 1 1 (fnCells XF) rfl (by rw[HCL.out];rfl) (fun k u hu=>by rw[HCL.out] at hu;exact news_at W10 _ _ _ k u hu) (by intro u hu;rw[HCL.out] at hu;simp at hu;rcases hu with rfl|rfl|rfl|rfl|rfl|rfl<;>rfl) (by decide) (by unfold maxLen;omega) (by omega) (by have:=HLO.out;rw[World.size_alloc];omega) _ rfl ?_;intro g2 cap2 w2 ho2 hg2 hb2 hl2;obtain⟨hb3,hs3⟩:=HX10.out.push HFW.out HAPW.out ho2 hg2 hb2;have y3:=cell_of_row _ pb 0 _ _ _ hb3;have f3:=frozen_of_row _ pb 0 _ _ hb3;simp only[List.getElem?_toArray,List.getElem?_cons_zero] at y3;have HS3:=Lib.hid hs3;clear hs3 hb3 ho2 hg2 hb2)
       go_roundw
       case rel=>
        refine⟨f+1,BD.at_,_,xs++ [XF],by simp,by omega,by rw[List.length_append,HXL.out];rfl,by omega,HS3,Lib.hid ?_⟩
        rw[←HA2.out,List.map_append,HXF.out,show n-(f+1)=j by have:=HHJ.out;omega]
        simp
       case measure=>simp only[intOf];omega
   ·obtain rfl:f=n:=by omega
    have hA:=HA.out
    rw[Nat.sub_self] at hA
    simp only[madeFns,List.append_nil] at hA
    obtain⟨p0,p1,_,_⟩:=HS.out.pcs
    obtain⟨r0,r1⟩:=cr2 wr rb HS.out.res
    simp only[gq] at r0 r1
    have fr0:=frozen_of_row wr rb 0 _ _ HS.out.res
    have fr1:=frozen_of_row wr rb 1 _ _ HS.out.res
    have HA2:=Lib.hid hA
    clear hA
    go_wp2_with fail
    have hne:∀g,g≠rb→∀u v:Value,((wr.setCell ⟨rb,0,none⟩ u).setCell ⟨rb,1,none⟩ v).heap[g]? =wr.heap[g]? :=fun g hg u v=>(Below.heap_setCell _ _ _ _ hg).trans (Below.heap_setCell _ _ _ _ hg)
    have hrow:((wr.setCell ⟨rb,0,none⟩ (.slice fa f fc)).setCell ⟨rb,1,none⟩ (.slice ga TP gc)).heap[rb]? =some (.cells #[.slice fa f fc,.slice ga TP gc] 27 (0,0)):=(heap_setCell_same _ rb 1 _ _ _ ((heap_setCell_same _ rb 0 _ _ _ HS.out.res).trans rfl)).trans rfl
    refine bodyPost_ret (made_result _ _ rb _ _ rfl ((cell_of_row _ rb 0 _ _ _ hrow).trans rfl) ((cell_of_row _ rb 1 _ _ _ hrow).trans rfl)) rfl ?_
    exact⟨_,_,xs,G,rfl,(HS.out.k.low.setCell HS.out.nk.2.2.2.1 _).setCell HS.out.nk.2.2.2.1 _,HS.out.pg.keepB fun g hg=>hne g (HS.out.n3 g hg).2.1 _ _,HS.out.ap,by rw[HMC2.out,←HA2.out]⟩
theorem flat_set {α β:Type} {ec:α→List β} {k:Nat} (hec:∀x,(ec x).length=k):∀(l:List α) (f:Nat) (x y:α) (i:Nat) (v:β),l[f]? =some x→i<k→ec y=(ec x).set i v→(l.set f y).flatMap ec=(l.flatMap ec).set (f*k+i) v
 | [],f,x,y,i,v,h,_,_=>by simp at h
 |z::r,0,x,y,i,v,h,hi,he=>by
  obtain rfl:z=x:=by simpa using h
  rw[List.set_cons_zero,List.flatMap_cons,List.flatMap_cons,he,Nat.zero_mul,Nat.zero_add,List.set_append_left _ _ (by rw[hec];exact hi)]
 |z::r,f+1,x,y,i,v,h,hi,he=>by
  have ih:=flat_set hec r f x y i v (by simpa using h) hi he
  rw[List.set_cons_succ,List.flatMap_cons,List.flatMap_cons,ih,List.set_append_right _ _ (by rw[hec,Nat.add_mul];omega),hec,show(f+1)*k+i-k=f*k+i by rw[Nat.add_mul];omega]
theorem flat_same {α β:Type} {ec:α→List β}:∀(l:List α) (f:Nat) (x y:α),l[f]? =some x→ec y=ec x→(l.set f y).flatMap ec=l.flatMap ec
 | [],f,x,y,h,_=>by simp at h
 |z::r,0,x,y,h,he=>by
  obtain rfl:z=x:=by simpa using h
  rw[List.set_cons_zero,List.flatMap_cons,List.flatMap_cons,he]
 |z::r,f+1,x,y,h,he=>by
  rw[List.set_cons_succ,List.flatMap_cons,List.flatMap_cons,flat_same r f x y (by simpa using h) he]
theorem row_set {W:World} {g:Nat} {cs:Array Value} {t:TypeId} {xs:List Value} (hb:W.heap[g]? =some (.cells cs t (0,0))) (h:∀j v,xs[j]? =some v→W.cell? ⟨g,j,none⟩=some v) (i:Nat) (u:Value):
  ∀j v,(xs.set i u)[j]? =some v→(W.setCell ⟨g,i,none⟩ u).cell? ⟨g,j,none⟩=some v:=by
 intro j v hj
 rw[List.getElem?_set] at hj
 have h2:=cell_of_row _ g j _ _ _ (heap_setCell_same W g i cs t u hb)
 rw[h2,Array.getElem?_setIfInBounds]
 have h3:=cell_of_row W g j _ _ _ hb
 by_cases hij:i=j
 ·subst hij
  rw[if_pos rfl] at hj⊢
  split at hj
  ·rename_i hl
   have h4:=h i _ (List.getElem?_eq_getElem hl)
   rw[h3] at h4
   rw[if_pos (Array.getElem?_eq_some_iff.1 h4).1]
   exact hj
  ·cases hj
 ·rw[if_neg hij] at hj⊢
  rw[←h3]
  exact h j v hj
theorem own_block {W:World} {lo:Nat} {e:TypeId} {s n cap:Nat} {A:Option Addr} {xs:List Value} (h:W.ownsRow lo e s (.slice A n cap) n xs) (hn:xs≠ []):∃g cs,A=some ⟨g,0,none⟩∧lo≤g∧W.heap[g]? =some (.cells cs e (0,0))∧∀j v,xs[j]? =some v→W.cell? ⟨g,j,none⟩=some v:=by
 have hl:=h.1
 rcases h.2 with⟨e1,rfl⟩|⟨g,cap',cur,e1,hlo,hg,h1,h2,h3,h4⟩
 ·exact absurd (List.eq_nil_of_length_eq_zero (by simpa using hl)) hn
 ·injection e1 with e1 e2 e3
  subst e1 e3
  exact⟨g,cur,rfl,hlo,hg,fun j v hj=>by have:=h.cells (g:=g) rfl j v hj;rwa [Addr.add_lit,Nat.zero_add] at this⟩
section
variable {W W':World} {lo n m fc gc f:Nat} {fa ga:Option Addr} {xs:List (Cf×Fv)} {gs:List ByteArray} {x x':Cf×Fv}
theorem turn_pg (h:PgOwn W lo (.slice fa n fc) (.slice ga m gc) xs gs) (hn:xs.length=n) (hm:gs.length=m) (_hx:xs[f]? =some x) (hF:RowIs W' W'.heap.size fa ((xs.set f x').flatMap fnCells))
  (hk:∀g,((Value.slice ga m gc).ownBlock=some g∨∃j y,j≠f∧xs[j]? =some y∧FnBlk y g)→W'.heap[g]? =W.heap[g]?) (hx':LiesF W' W'.heap.size x'):PgAt W' ⟨(xs.map Prod.fst).set f x'.1,gs⟩ n m fa ga (xs.set f x'):=by
 refine⟨by simp[hn],hm,by rw[List.map_set],hF, ?_,fun y hy=> ?_⟩
 ·have h2:=own_keep h.own2 fun g hg=>hk g (.inl hg)
  rw[hm] at h2
  exact(own_rowA h2).1
 ·obtain⟨j,hj⟩:=List.getElem?_of_mem hy
  rw[List.getElem?_set] at hj
  by_cases hjf:f=j
  ·subst hjf
   rw[if_pos rfl] at hj
   split at hj
   ·obtain rfl:=Option.some.inj hj
    exact hx'
   ·cases hj
  ·rw[if_neg hjf] at hj
   exact((h.fns y (List.mem_of_getElem? hj)).keep fun g hg=>hk g (.inr ⟨j,y,fun e=>hjf e.symm,hj,hg⟩)).lies
theorem code_block (h:PgOwn W lo (.slice fa n fc) (.slice ga m gc) xs gs) (hap:FnsApart xs) (hx:xs[f]? =some x) (hc:x.1.code≠ []):∃cb ccs,x.2.ca=some ⟨cb,0,none⟩∧lo≤cb∧W.heap[cb]? =some (.cells ccs 36 (0,0))∧(∀j v,(x.1.code.flatMap insCells)[j]? =some v→W.cell? ⟨cb,j,none⟩=some v)∧
  (∀g,((Value.slice fa n fc).ownBlock=some g∨(Value.slice ga m gc).ownBlock=some g∨(Value.slice x.2.ta x.1.taken.length x.2.tc).ownBlock=some g∨∃j y,j≠f∧xs[j]? =some y∧FnBlk y g)→g≠cb):=by
 have hm:=List.mem_of_getElem? hx
 obtain⟨cb,ccs,e1,e2,e3,e4⟩:=own_block (h.fns x hm).2 (by
  intro h0
  have:=congrArg List.length h0
  rw[flat_len ins_len] at this
  have e0:x.1.code.length*5=0:=by simpa using this
  exact hc (List.eq_nil_of_length_eq_zero (by omega)))
 have hb:FnBlk x cb:= .inr (by rw[e1];rfl)
 refine⟨cb,ccs,e1,e2,e3,e4,fun g hg e=> ?_⟩
 subst e
 rcases hg with e|e|e|⟨j,y,hj,hy,e⟩
 ·exact(h.n1 g e).2 x hm hb
 ·exact h.n2 g e x hm hb
 ·exact hap.2 x hm g e (by rw[e1];rfl)
 ·exact hap.1 j f y x hy hx hj g e hb
theorem func_block (h:PgOwn W lo (.slice fa n fc) (.slice ga m gc) xs gs) (hx:xs[f]? =some x):∃gf cs,fa=some ⟨gf,0,none⟩∧lo≤gf∧W.heap[gf]? =some (.cells cs 33 (0,0))∧(∀j v,(xs.flatMap fnCells)[j]? =some v→W.cell? ⟨gf,j,none⟩=some v)∧
  (∀g,((Value.slice ga m gc).ownBlock=some g∨∃y∈xs,FnBlk y g)→g≠gf):=by
 have hm:=List.mem_of_getElem? hx
 have hn:xs.length=n:=by
  have:=h.own1
  obtain⟨A,cap,e,_⟩:=row_form this
  injection e with _ e _
  exact e.symm
 have ho:=h.own1
 rw[hn] at ho
 obtain⟨gf,cs,e1,e2,e3,e4⟩:=own_block ho (by
  intro h0
  have:=congrArg List.length h0
  rw[flat_len fn_len] at this
  have e0:xs.length*6=0:=by simpa using this
  have:=(List.getElem?_eq_some_iff.1 hx).1
  omega)
 refine⟨gf,cs,e1,e2,e3,e4,fun g hg e=> ?_⟩
 subst e
 rcases hg with e|⟨y,hy,e⟩
 ·exact(h.n1 g (by rw[e1];rfl)).1 e
 ·exact(h.n1 g (by rw[e1];rfl)).2 y hy e
theorem turn_code (h:PgOwn W lo (.slice fa n fc) (.slice ga m gc) xs gs) (_hap:FnsApart xs) (hn:xs.length=n) (hm:gs.length=m) (hx:xs[f]? =some x) {cb:Nat} (hca:x.2.ca=some ⟨cb,0,none⟩) (hsz:W.heap.size≤W'.heap.size)
  (hne:∀g,((Value.slice fa n fc).ownBlock=some g∨(Value.slice ga m gc).ownBlock=some g∨(Value.slice x.2.ta x.1.taken.length x.2.tc).ownBlock=some g∨∃j y,j≠f∧xs[j]? =some y∧FnBlk y g)→g≠cb)
  (hk:∀g,g≠cb→W'.heap[g]? =W.heap[g]?) {c:List Ci} (hl:c.length=x.1.code.length) (hcb:cb<W.heap.size) (hrow:∀j v,(c.flatMap insCells)[j]? =some v→W'.cell? ⟨cb,j,none⟩=some v):
  PgAt W' ⟨(xs.map Prod.fst).set f {x.1 with code:=c},gs⟩ n m fa ga (xs.set f ({x.1 with code:=c},x.2)):=by
 have hxm:=List.mem_of_getElem? hx
 refine turn_pg (x':=({x.1 with code:=c},x.2)) h hn hm hx ?_ (fun g hg=>hk g (hne g ?_)) ⟨?_, ?_,((h.fns x hxm).lies).2.2.1,by show c.length≤_;rw[hl];exact((h.fns x hxm).lies).2.2.2⟩
 ·rw[flat_same xs f x _ hx (by simp only[fnCells,hl])]
  have h2:=own_keep h.own1 fun g hg=>hk g (hne g (.inl hg))
  rw[hn] at h2
  exact(own_rowA h2).1
 ·rcases hg with e|e
  ·exact .inr (.inl e)
  ·exact .inr (.inr (.inr e))
 ·have h2:=own_keep (h.fns x hxm).1 fun g hg=>hk g (hne g (.inr (.inr (.inl hg))))
  exact(own_rowA h2).1
 ·exact .inr ⟨cb,0,hca,by omega,fun j v hj=>by rw[Nat.zero_add];exact hrow j v hj⟩
theorem turn_slots (h:PgOwn W lo (.slice fa n fc) (.slice ga m gc) xs gs) (hn:xs.length=n) (hm:gs.length=m) (hx:xs[f]? =some x) {gf:Nat} {cs:Array Value} (hfa:fa=some ⟨gf,0,none⟩) (hb:W.heap[gf]? =some (.cells cs 33 (0,0)))
  (hrow:∀j v,(xs.flatMap fnCells)[j]? =some v→W.cell? ⟨gf,j,none⟩=some v) (hne:∀g,((Value.slice ga m gc).ownBlock=some g∨∃y∈xs,FnBlk y g)→g≠gf) (v:Int):
  PgAt (W.setCell ⟨gf,f*6+2,none⟩ (.int .i64 v)) ⟨(xs.map Prod.fst).set f {x.1 with slots:=v},gs⟩ n m fa ga (xs.set f ({x.1 with slots:=v},x.2)):=by
 have hxm:=List.mem_of_getElem? hx
 have hk:∀g,g≠gf→(W.setCell ⟨gf,f*6+2,none⟩ (.int .i64 v)).heap[g]? =W.heap[g]? :=fun g hg=>Below.heap_setCell _ _ _ _ hg
 have hlt:=(Array.getElem?_eq_some_iff.1 hb).1
 refine turn_pg (x':=({x.1 with slots:=v},x.2)) h hn hm hx ?_ (fun g hg=>hk g (hne g ?_)) ?_
 ·rw[flat_set fn_len xs f x _ 2 (.int .i64 v) hx (by omega) rfl]
  exact .inr ⟨gf,0,hfa,by simpa using hlt,fun j u hj=>by rw[Nat.zero_add];exact row_set hb hrow _ _ j u hj⟩
 ·rcases hg with e|⟨j,y,_,hy,e⟩
  ·exact .inl e
  ·exact .inr ⟨y,List.mem_of_getElem? hy,e⟩
 ·have:=((h.fns x hxm).keep fun g hg=>hk g (hne g (.inr ⟨x,hxm,hg⟩))).lies
  exact this
theorem turn_app {W2:World} {o:Obj} (h:PgOwn W lo (.slice fa n fc) (.slice ga m gc) xs gs) (hap:FnsApart xs) (hn:xs.length=n) (hm:gs.length=m) (hx:xs[f]? =some x) {gf:Nat} {cs:Array Value} (hfa:fa=some ⟨gf,0,none⟩) (hb:W.heap[gf]? =some (.cells cs 33 (0,0)))
  (hrow:∀j v,(xs.flatMap fnCells)[j]? =some v→W.cell? ⟨gf,j,none⟩=some v) (hne:∀g,((Value.slice ga m gc).ownBlock=some g∨∃y∈xs,FnBlk y g)→g≠gf) {ins:List Ci} {g2 k cap2:Nat} (hk:x.1.code.length+ins.length=k)
  (ho:W2.ownsRow lo 36 5 (.slice (some ⟨g2,0,none⟩) k cap2) k (x.1.code.flatMap insCells++ins.flatMap insCells)) (hg:(W.alloc o).grownBy W2 (Value.slice x.2.ca x.1.code.length x.2.cc).ownBlock) (hg2:(Value.slice x.2.ca x.1.code.length x.2.cc).ownBlock=some g2∨g2=(W.alloc o).heap.size):
  PgAt (W2.setCell ⟨gf,f*6+5,none⟩ (.slice (some ⟨g2,0,none⟩) k cap2)) ⟨(xs.map Prod.fst).set f {x.1 with code:=x.1.code++ins},gs⟩ n m fa ga (xs.set f ({x.1 with code:=x.1.code++ins},{x.2 with ca:=some ⟨g2,0,none⟩,cc:=cap2})):=by
 have hxm:=List.mem_of_getElem? hx
 have hlt:=(Array.getElem?_eq_some_iff.1 hb).1
 have hsa:=World.size_alloc W o
 have hgs:=hg.size
 have hcx:∀g,(Value.slice x.2.ca x.1.code.length x.2.cc).ownBlock=some g→FnBlk x g:=fun g e=> .inr e
 have hold:∀g,g<W.heap.size→(Value.slice x.2.ca x.1.code.length x.2.cc).ownBlock≠some g→W2.heap[g]? =W.heap[g]? :=fun g hl hn=>grown_keep hg hl hn
 have hset:∀g,g≠gf→(W2.setCell ⟨gf,f*6+5,none⟩ (.slice (some ⟨g2,0,none⟩) k cap2)).heap[g]? =W2.heap[g]? :=fun g hg=>Below.heap_setCell _ _ _ _ hg
 have hgf:W2.heap[gf]? =W.heap[gf]? :=hold gf hlt fun e=>hne gf (.inr ⟨x,hxm,hcx gf e⟩) rfl
 have hb2:=hgf.trans hb
 have hrow2:∀j v,(xs.flatMap fnCells)[j]? =some v→W2.cell? ⟨gf,j,none⟩=some v:=fun j v hj=>(World.cell?_of_block (a:=⟨gf,j,none⟩) hgf).trans (hrow j v hj)
 have hg2n:g2≠gf:=by
  rcases hg2 with e|e
  ·exact hne g2 (.inr ⟨x,hxm,hcx g2 e⟩)
  ·omega
 have ho2:=own_keep ho (W':=W2.setCell ⟨gf,f*6+5,none⟩ (.slice (some ⟨g2,0,none⟩) k cap2)) fun g hgo=>by
  simp only[Value.ownBlock,Option.some.injEq] at hgo
  subst hgo
  exact hset _ hg2n
 obtain⟨r2,c2⟩:=own_rowA ho2
 refine turn_pg (x':=({x.1 with code:=x.1.code++ins},{x.2 with ca:=some ⟨g2,0,none⟩,cc:=cap2})) h hn hm hx ?_ (fun g hgo=> ?_) ⟨?_, ?_,((h.fns x hxm).lies).2.2.1, ?_⟩
 ·rw[flat_set fn_len xs f x _ 5 (.slice (some ⟨g2,0,none⟩) k cap2) hx (by omega) (by simp only[fnCells,List.length_append,hk];rfl)]
  exact .inr ⟨gf,0,hfa,by simp;omega,fun j u hj=>by rw[Nat.zero_add];exact row_set hb2 hrow2 _ _ j u hj⟩
 ·have h1:g≠gf:=hne g (by
   rcases hgo with e|⟨j,y,_,hy,e⟩
   ·exact .inl e
   ·exact .inr ⟨y,List.mem_of_getElem? hy,e⟩)
  refine(hset g h1).trans (hold g ?_ fun e=> ?_)
  ·rcases hgo with e|⟨j,y,_,hy,e⟩
   ·exact(h.own2.lt g e).2
   ·exact((h.fns y (List.mem_of_getElem? hy)).lt e).2
  ·rcases hgo with e2|⟨j,y,hj,hy,e2⟩
   ·exact h.n2 g e2 x hxm (hcx g e)
   ·exact hap.1 j f y x hy hx hj g e2 (hcx g e)
 ·have h2:=own_keep (h.fns x hxm).1 (W':=W2.setCell ⟨gf,f*6+5,none⟩ (.slice (some ⟨g2,0,none⟩) k cap2)) fun g hgo=>(hset g (hne g (.inr ⟨x,hxm,.inl hgo⟩))).trans (hold g ((h.fns x hxm).lt (.inl hgo)).2 fun e=>hap.2 x hxm g hgo e)
  exact(own_rowA h2).1
 ·show RowIs _ _ (some ⟨g2,0,none⟩) ((x.1.code++ins).flatMap insCells)
  rw[List.flatMap_append]
  exact r2
 ·show(x.1.code++ins).length≤cap2
  rw[List.length_append,hk]
  exact c2
end
end Go.Proofs.YtagnicbknbmccaaGreatDoor
