/- guiselaw13's Maker in memory: body. guiselaw13.Made in memory: the program that grows, its Maker, and the function that is being made. Every line of a program: what it comes to in memory, and how great it is. -/
import Derived.Test.YtagnicbknbmccaaGreatDoorMMkD
import Derived.Test.YtagnicbknbmccaaGreatDoorDeB
import Derived.Test.YtagnicbknbmccaaGreatDoorMCmA
import Derived.Test.YtagnicbknbmccaaGreatDoorMLnB
import Derived.Test.YtagnicbknbmccaaGreatDoorMCzS
import Derived.Test.YtagnicbknbmccaaGreatDoorMCdD
set_option maxRecDepth 100000
set_option maxHeartbeats 8000000
namespace Go.Proofs.YtagnicbknbmccaaGreatDoor
open Go.RowKit
theorem pick_facts (m:Mk) (n w:Nat):(m.pick n w).at_≤m.at_+1∧(m.pick n w).high≤m.high+2∧(m.pick n w).code.length≤m.code.length+6∧(m.pick n w).slots=m.slots∧(m.pick n w).tops=m.tops∧(m.pick n w).raw=m.raw:=by
 unfold Mk.pick
 split
 all_goals exact⟨by simp[Mk.add,Mk.next],by simp only[Mk.add,Mk.next];omega,by simp[Mk.add,Mk.next],rfl,rfl,rfl⟩
theorem one_facts (m:Mk):m.one.at_≤m.at_+8∧m.one.high≤m.high+8∧m.one.code.length≤m.code.length+8∧m.one.slots=m.slots∧m.one.tops=m.tops∧m.one.raw=m.raw:=by
 obtain⟨_,p2,p3,p4,p5,p6,p7⟩:=fill_facts m
 unfold Mk.one
 obtain⟨x,hx⟩:∃x,m.fill.next (min m.fill.high 4)=x:=⟨_,rfl⟩
 obtain⟨y,hy⟩:∃y,x.2.next 16=y:=⟨_,rfl⟩
 simp only[hx,hy]
 have ex:x.2= {m.fill with at_:=m.fill.at_+1}:=by rw[←hx];rfl
 have ey:y.2= {x.2 with at_:=x.2.at_+1}:=by rw[←hy];rfl
 obtain⟨q1,q2,q3,q4,q5,q6⟩:=pick_facts y.2 x.1 y.1
 rw[ey,ex] at q1 q2 q3 q4 q5 q6
 rw[ey,ex]
 exact⟨by simp only at q1⊢;omega,by simp only at q2⊢;omega,by simp only at q3⊢;omega,q4.trans p5,q5.trans p6,q6.trans p7⟩
section
variable {lo:Nat} {W0 W:World} {kb rc:Nat} {ra:Option Addr} {cv:Value} {fn:Int} {m:Mk}
theorem MkAt.c0 (h:MkAt lo W0 W kb ra rc cv fn m):W.cell? ⟨kb,0,none⟩=some (.slice ra m.raw.length rc):=(cell_of_row W kb 0 _ _ _ h.box).trans rfl
theorem MkAt.c1 (h:MkAt lo W0 W kb ra rc cv fn m):W.cell? ⟨kb,1,none⟩=some (.int .i64 m.at_):=(cell_of_row W kb 1 _ _ _ h.box).trans rfl
theorem MkAt.code (h:MkAt lo W0 W kb ra rc cv fn m):∃gf cc,cv= .slice gf m.code.length cc∧W.cell? ⟨kb,2,none⟩=some (.slice gf m.code.length cc):=by
 obtain⟨fa,fc,e,_,_⟩:=row_form h.own
 exact⟨fa,fc,e,(cell_of_row W kb 2 _ _ _ h.box).trans (by rw[←e];rfl)⟩
end
theorem mkBody_any {lo:Nat} {W0 W:World} {kb rc:Nat} {ra:Option Addr} {cv:Value} {fn:Int} {m:Mk} (h:MkAt lo W0 W kb ra rc cv fn m) (ha:m.at_≤1000000) (hh:m.high≤1000) (hc:m.code.length≤1000) (hs:0<m.slots∧m.slots≤1000000) (ht:m.tops≤1000000):
  Calls Tryz.prog 32 #[.pointer (some ⟨kb,0,none⟩)] W fun e W'=>∃cv',e= .returned cv'∧MkAt lo W0 W' kb ra rc cv' fn m.body:=by
 obtain⟨s,hsm⟩:∃s,m.add 1 0 [] 0 0=s:=⟨_,rfl⟩
 obtain⟨x1,x2,x3⟩:=add_facts hsm
 have x4:s.slots=m.slots∧s.tops=m.tops:=by rw[←hsm];exact⟨rfl,rfl⟩
 obtain⟨n,f,hn⟩:∃n f,s.next 60=(n,f):=⟨_,_,rfl⟩
 obtain⟨k1,k2,k3,k4,k5,k6,_⟩:=next_eq hn (by decide)
 have k3l:f.code.length=s.code.length:=by rw[k3]
 obtain⟨R,hR⟩:∃R,Mk.ones n f=R:=⟨_,rfl⟩
 have hM:m.body=R.push.add 50 0 [] 1 0:=by unfold Mk.body;simp only[hsm,hn,hR]
 rw[hM]
 clear hM
 have HA1:Hid (AddC lo W0 kb rc ra fn m s 1 0 ⟨#[]⟩ 0 0):=Lib.hid (hsm▸addC 1 0 [] 0 0 (by omega) (by omega) (by omega))
 have HNX:Hid (NextC lo W0 kb rc ra fn s f 60 n):=Lib.hid (nextC hn (by omega) (by omega) (by omega))
 have HR:=Lib.hid hR
 have HB0:Hid (n≤60∧f.at_+8*n≤2000000∧f.high+8*n≤2000∧f.code.length+8*n≤2000∧f.slots=m.slots∧f.tops=m.tops):=Lib.hid ⟨by omega,by omega,by omega,by omega,k5.trans x4.1,k6.trans x4.2⟩
 have HSL:=Lib.hid hs
 have HTP:=Lib.hid ht
 have HM:=Lib.hid h
 clear h hsm hn hR x1 x2 x3 x4 k1 k2 k3 k4 k5 k6 k3l hs ht
 go_enter Tryz.func32,Tryz.ntmps32
 go_wp2_with (first
  |(go_at_call 73;with_reducible refine(HA1.out _ _ HM.out).mono ?_;rintro e w1 ⟨rfl,cv1,h1⟩;have HM1:=Lib.hid h1;clear h1)
  |(go_at_call 31;with_reducible refine(HNX.out _ _ HM1.out).mono ?_;rintro e w2 ⟨rfl,h1,hf1⟩;have HM2:=Lib.hid h1;clear h1 hf1))
 go_loopw [3] (fun v3 wr=>∃(j:Nat) (m':Mk) (cv':Value),v3= .int .i64 j∧Hid (MkAt lo W0 wr kb ra rc cv' fn m')∧Hid (Mk.ones j m'=R)∧Hid (j≤60∧m'.at_+8*j≤2000000∧m'.high+8*j≤2000∧m'.code.length+8*j≤2000∧m'.slots=m.slots∧m'.tops=m.tops)) (fun v3 _=>(intOf v3).toNat)
 case atStart=>exact⟨n,f,_,rfl,HM2,HR,HB0⟩
 case round=>
  clear HM HM1 HM2 HA1 HNX HR HB0
  obtain⟨j,m',cv',rfl,HM,HO,HB⟩:=hrel
  have q0:=HM.out.c0
  have q1:=HM.out.c1
  by_cases hj:0<j∧m'.at_<m'.raw.length
  ·obtain⟨i,hi⟩:∃i,j=i+1:=⟨j-1,by omega⟩
   have hj1:=hj.1
   have hj2:=hj.2
   clear hj
   have e1:decide ((j:Int)>0)=true:=decide_eq_true (by omega)
   have e0:decide (0<j)=true:=decide_eq_true hj1
   have e2:decide (m'.at_<m'.raw.length)=true:=decide_eq_true hj2
   obtain⟨a1,a2,a3,a4,a5,_⟩:=one_facts m'
   have HP:Hid (∀k,Calls Tryz.prog 74 #[.pointer (some ⟨kb,0,none⟩)] (wr.drewN k) (MkPost lo W0 kb ra rc fn m'.one)):=Lib.hid (fun k=>by obtain⟨b0,b1,b2,b3,b4,b5⟩:=HB.out;exact mkOne_any (HM.out.drewN k) (by omega) (by omega) (by omega) (by rw[b4];exact HSL.out) (by rw[b5];exact HTP.out))
   have HB2:Hid (i≤60∧m'.one.at_+8*i≤2000000∧m'.one.high+8*i≤2000∧m'.one.code.length+8*i≤2000∧m'.one.slots=m.slots∧m'.one.tops=m.tops):=Lib.hid (by obtain⟨b0,b1,b2,b3,b4,b5⟩:=HB.out;exact⟨by omega,by omega,by omega,by omega,a4.trans b4,a5.trans b5⟩)
   have HO2:Hid (Mk.ones i m'.one=R):=Lib.hid (by have:=HO.out;rw[hi] at this;unfold Mk.ones at this;rwa [if_pos hj2] at this)
   have e3:IntKind.i64.wrap ((j:Int)-1)=(i:Int):=by have:=HB2.out.1;rw[IntKind.wrap_i64];omega
   have HI:=Lib.hid hi
   clear a1 a2 a3 a4 a5 hj2 hi
   go_wp2_with fail
   go_quiet (fail)
   go_wp2_with (go_at_call 74;refine(HP.out _).mono ?_;rintro e w3 ⟨rfl,cv3,h3⟩;have HM3:=Lib.hid h3;clear h3)
   go_roundw
   case rel=>exact⟨i,m'.one,cv3,rfl,HM3,HO2,HB2⟩
   case measure=>
    have:=HI.out
    simp only[intOf]
    omega
  ·obtain rfl:m'=R:=by
    have h0:=HO.out
    match j with
    |0=>exact h0
    |i+1=>unfold Mk.ones at h0;rwa [if_neg (by omega)] at h0
   have hg:(0<j→¬m'.at_<m'.raw.length):=fun h1 h2=>hj ⟨h1,h2⟩
   obtain⟨b0,b1,b2,b3,b4,b5⟩:=HB.out
   have HP:Hid (∀k,Calls Tryz.prog 75 #[.pointer (some ⟨kb,0,none⟩)] (wr.drewN k) (MkPost lo W0 kb ra rc fn m'.push)):=Lib.hid (fun k=>mkPush_any (HM.out.drewN k) (by omega) (by omega) (by omega) (by rw[b4];exact HSL.out) (by rw[b5];exact HTP.out))
   obtain⟨a1,a2,a3,_⟩:=mkPush_facts m'
   have HAL:Hid (AddC lo W0 kb rc ra fn m'.push (m'.push.add 50 0 [] 1 0) 50 0 ⟨#[]⟩ 1 0):=Lib.hid (addC 50 0 [] 1 0 (by omega) (by omega) (by omega))
   clear a1 a2 a3 b1 b2 b3 b4 b5 HO HB
   by_cases h0:0<j
   ·have e1:decide ((j:Int)>0)=true:=decide_eq_true (by omega)
    have e0:decide (0<j)=true:=decide_eq_true h0
    have e2:decide (m'.at_<m'.raw.length)=false:=decide_eq_false (hg h0)
    go_wp2_with fail
    go_quiet (fail)
    go_upto_region 8 with(first
     |(go_at_call 75;refine(HP.out _).mono ?_;rintro e w3 ⟨rfl,cv3,h3⟩;have HM3:=Lib.hid h3;clear h3)
     |(go_at_call 73;with_reducible refine(HAL.out _ _ HM3.out).mono ?_;rintro e w4 ⟨rfl,cv4,h4⟩;have HM4:=Lib.hid h4;clear h4))
    obtain⟨gf,cc,rfl,q2⟩:=HM4.out.code
    go_wp2_with fail
    go_ret
    exact⟨_,rfl,HM4.out⟩
   ·obtain rfl:j=0:=by omega
    go_wp2_with fail
    go_quiet (fail)
    go_upto_region 8 with(first
     |(go_at_call 75;refine(HP.out _).mono ?_;rintro e w3 ⟨rfl,cv3,h3⟩;have HM3:=Lib.hid h3;clear h3)
     |(go_at_call 73;with_reducible refine(HAL.out _ _ HM3.out).mono ?_;rintro e w4 ⟨rfl,cv4,h4⟩;have HM4:=Lib.hid h4;clear h4))
    obtain⟨gf,cc,rfl,q2⟩:=HM4.out.code
    go_wp2_with fail
    go_ret
    exact⟨_,rfl,HM4.out⟩
def FnsApart (xs:List (Cf×Fv)):Prop:=(∀(i j:Nat) (x y:Cf×Fv),xs[i]? =some x→xs[j]? =some y→i≠j→∀g,FnBlk x g→¬FnBlk y g)∧∀x∈xs,∀g,(Value.slice x.2.ta x.1.taken.length x.2.tc).ownBlock=some g→(Value.slice x.2.ca x.1.code.length x.2.cc).ownBlock≠some g
theorem FnsApart.nil:FnsApart []:=⟨fun i j x y h=>by simp at h,fun x h=>by cases h⟩
theorem FnsApart.push {xs:List (Cf×Fv)} {x:Cf×Fv} (h:FnsApart xs) (hn:∀y∈xs,∀g,FnBlk y g→¬FnBlk x g) (hx:∀g,(Value.slice x.2.ta x.1.taken.length x.2.tc).ownBlock=some g→(Value.slice x.2.ca x.1.code.length x.2.cc).ownBlock≠some g):FnsApart (xs++ [x]):=by
 refine⟨fun i j y z hy hz hij g hg hg2=> ?_,fun y hy=> ?_⟩
 ·have hli:i<xs.length+1:=by have:=(List.getElem?_eq_some_iff.1 hy).1;simpa using this
  have hlj:j<xs.length+1:=by have:=(List.getElem?_eq_some_iff.1 hz).1;simpa using this
  by_cases hi:i<xs.length
  ·rw[List.getElem?_append_left hi] at hy
   by_cases hj:j<xs.length
   ·rw[List.getElem?_append_left hj] at hz
    exact h.1 i j y z hy hz hij g hg hg2
   ·obtain rfl:j=xs.length:=by omega
    rw[List.getElem?_append_right (Nat.le_refl _)] at hz
    simp only[Nat.sub_self,List.getElem?_cons_zero,Option.some.injEq] at hz
    subst hz
    exact hn y (List.mem_of_getElem? hy) g hg hg2
  ·obtain rfl:i=xs.length:=by omega
   rw[List.getElem?_append_right (Nat.le_refl _)] at hy
   simp only[Nat.sub_self,List.getElem?_cons_zero,Option.some.injEq] at hy
   subst hy
   have hj:j<xs.length:=by omega
   rw[List.getElem?_append_left hj] at hz
   exact hn z (List.mem_of_getElem? hz) g hg2 hg
 ·rcases List.mem_append.1 hy with hy|hy
  ·exact h.2 y hy
  ·rw[List.mem_singleton.1 hy]
   exact hx
def PgBlk (vf vg:Value) (xs:List (Cf×Fv)) (g:Nat):Prop:=vf.ownBlock=some g∨vg.ownBlock=some g∨∃x∈xs,FnBlk x g
theorem PgOwn.blk {W:World} {lo:Nat} {vf vg:Value} {xs:List (Cf×Fv)} {gs:List ByteArray} (h:PgOwn W lo vf vg xs gs) {g:Nat} (hg:PgBlk vf vg xs g):lo≤g∧g<W.heap.size:=by
 rcases hg with e|e|⟨x,hx,e⟩
 ·exact h.own1.lt g e
 ·exact h.own2.lt g e
 ·exact(h.fns x hx).lt e
theorem PgOwn.keepB {W W':World} {lo:Nat} {vf vg:Value} {xs:List (Cf×Fv)} {gs:List ByteArray} (h:PgOwn W lo vf vg xs gs) (hk:∀g,PgBlk vf vg xs g→W'.heap[g]? =W.heap[g]?):PgOwn W' lo vf vg xs gs:=
 ⟨own_keep h.own1 fun g hg=>hk g (.inl hg),own_keep h.own2 fun g hg=>hk g (.inr (.inl hg)),fun x hx=>(h.fns x hx).keep fun g hg=>hk g (.inr (.inr ⟨x,hx,hg⟩)),h.n1,h.n2⟩
structure MdSt (w W:World) (kb rb pb:Nat) (ra:Option Addr) (rc:Nat) (raw:List Int) (at_:Nat) (vf vg:Value) (xs:List (Cf×Fv)) (gs:List ByteArray):Prop where
 k:MkAt w.heap.size w W kb ra rc (.slice none 0 0) 0 ⟨raw,at_,[],0,0,0⟩
 res:W.heap[rb]? =some (.cells #[.slice none 0 0,.slice none 0 0] 27 (0,0))
 box:W.heap[pb]? =some (.cells #[vf,vg] 27 (0,0))
 pg:PgOwn W w.heap.size vf vg xs gs
 ap:FnsApart xs
 n3:∀g,PgBlk vf vg xs g→g≠kb∧g≠rb∧g≠pb
 nk:kb≠rb∧kb≠pb∧rb≠pb∧w.heap.size≤rb∧w.heap.size≤pb
section
variable {w W W':World} {kb rb pb:Nat} {ra:Option Addr} {rc:Nat} {raw:List Int} {at_:Nat} {vf vg:Value} {xs:List (Cf×Fv)} {gs:List ByteArray}
theorem MdSt.pl (h:MdSt w W kb rb pb ra rc raw at_ vf vg xs gs):kb<W.heap.size∧rb<W.heap.size∧pb<W.heap.size:=⟨h.k.lt,(Array.getElem?_eq_some_iff.1 h.res).1,(Array.getElem?_eq_some_iff.1 h.box).1⟩
theorem MdSt.move (h:MdSt w W kb rb pb ra rc raw at_ vf vg xs gs) {a':Nat} (hk:MkAt w.heap.size w W' kb ra rc (.slice none 0 0) 0 ⟨raw,a',[],0,0,0⟩) (hg:∀g,g<W.heap.size→g≠kb→W'.heap[g]? =W.heap[g]?):MdSt w W' kb rb pb ra rc raw a' vf vg xs gs:=
 ⟨hk,(hg rb h.pl.2.1 h.nk.1.symm).trans h.res,(hg pb h.pl.2.2 h.nk.2.1.symm).trans h.box,h.pg.keepB fun g hgo=>hg g (h.pg.blk hgo).2 (h.n3 g hgo).1,h.ap,h.n3,h.nk⟩
theorem MdSt.under (h:MdSt w W kb rb pb ra rc raw at_ vf vg xs gs) (hb:Below W.heap.size W W'):MdSt w W' kb rb pb ra rc raw at_ vf vg xs gs:=h.move (h.k.under hb) fun g hg _=>hb.block g hg
theorem MdSt.next (h:MdSt w W kb rb pb ra rc raw at_ vf vg xs gs) {m:Mk} {n K:Nat} (hn:Mk.next ⟨raw,at_,[],0,0,0⟩ n=(K,m)) (hk:MkAt w.heap.size w W' kb ra rc (.slice none 0 0) 0 m) (hg:∀g,g≠kb→W'.heap[g]? =W.heap[g]?):MdSt w W' kb rb pb ra rc raw m.at_ vf vg xs gs:=by
 have e:m=⟨raw,at_+1,[],0,0,0⟩:=(congrArg Prod.snd hn).symm
 subst e
 exact h.move hk fun g _=>hg g
theorem MdSt.set_at (h:MdSt w W kb rb pb ra rc raw at_ vf vg xs gs) (a:Nat):MdSt w (W.setCell ⟨kb,1,none⟩ (.int .i64 a)) kb rb pb ra rc raw a vf vg xs gs:=
 h.move ⟨h.k.low.setCell h.k.klo _,(heap_setCell_same _ kb 1 _ _ _ h.k.box).trans rfl,h.k.klo,h.k.row,h.k.rok,own_keep h.k.own fun g hg=>by simp[Value.ownBlock] at hg,by simp[Value.ownBlock]⟩ fun g _ hne=>Below.heap_setCell _ _ _ _ hne
structure MdFn (w W1 W:World) (kb rb pb xb:Nat) (ra:Option Addr) (rc:Nat) (raw:List Int) (at_:Nat) (vf vg:Value) (xs:List (Cf×Fv)) (gs:List ByteArray) (cs:Array Value):Prop where
 st:MdSt w W kb rb pb ra rc raw at_ vf vg xs gs
 x:W.heap[xb]? =some (.cells cs 33 (0,0))
 hx:W1.heap.size≤xb
 bl:∀g,PgBlk vf vg xs g→g<W1.heap.size
 kl:kb<W1.heap.size∧rb<W1.heap.size∧pb<W1.heap.size
 lo:w.heap.size≤W1.heap.size
variable {W1:World} {xb:Nat} {cs:Array Value}
theorem MdFn.start (h:MdSt w W kb rb pb ra rc raw at_ vf vg xs gs):MdFn w W (W.alloc (.cells cs 33 (0,0))) kb rb pb W.heap.size ra rc raw at_ vf vg xs gs cs:=
 ⟨h.under ((Below.refl _ _).alloc (Nat.le_refl _) _),heap_alloc_new _ _,Nat.le_refl _,fun _g hg=>(h.pg.blk hg).2,h.pl,h.k.low.size⟩
theorem MdFn.xl (h:MdFn w W1 W kb rb pb xb ra rc raw at_ vf vg xs gs cs):xb<W.heap.size:=(Array.getElem?_eq_some_iff.1 h.x).1
theorem MdFn.under (h:MdFn w W1 W kb rb pb xb ra rc raw at_ vf vg xs gs cs) (hb:Below W.heap.size W W'):MdFn w W1 W' kb rb pb xb ra rc raw at_ vf vg xs gs cs:=
 ⟨h.st.under hb,(hb.block _ h.xl).trans h.x,h.hx,h.bl,h.kl,h.lo⟩
theorem MdFn.next (h:MdFn w W1 W kb rb pb xb ra rc raw at_ vf vg xs gs cs) {m:Mk} {n K:Nat} (hn:Mk.next ⟨raw,at_,[],0,0,0⟩ n=(K,m)) (hk:MkAt w.heap.size w W' kb ra rc (.slice none 0 0) 0 m) (hg:∀g,g≠kb→W'.heap[g]? =W.heap[g]?):MdFn w W1 W' kb rb pb xb ra rc raw m.at_ vf vg xs gs cs:=
 ⟨h.st.next hn hk hg,(hg xb (by have:=h.hx;have:=h.kl.1;omega)).trans h.x,h.hx,h.bl,h.kl,h.lo⟩
theorem MdFn.set (h:MdFn w W1 W kb rb pb xb ra rc raw at_ vf vg xs gs cs) (i:Nat) (v:Value):MdFn w W1 (W.setCell ⟨xb,i,none⟩ v) kb rb pb xb ra rc raw at_ vf vg xs gs (cs.setIfInBounds i v):=by
 have hx:=h.hx
 have hl:=h.lo
 have hk:=h.kl
 have hs:∀g,g≠xb→(W.setCell ⟨xb,i,none⟩ v).heap[g]? =W.heap[g]? :=fun g hg=>Below.heap_setCell _ _ _ _ hg
 have hm:MkAt w.heap.size w (W.setCell ⟨xb,i,none⟩ v) kb ra rc (.slice none 0 0) 0 ⟨raw,at_,[],0,0,0⟩:=
  ⟨h.st.k.low.setCell (by show w.heap.size≤xb;omega) _,(hs kb (by omega)).trans h.st.k.box,h.st.k.klo,h.st.k.row,h.st.k.rok,own_keep h.st.k.own fun g hg=>by simp[Value.ownBlock] at hg,h.st.k.ne⟩
 exact⟨⟨hm,(hs rb (by omega)).trans h.st.res,(hs pb (by omega)).trans h.st.box,h.st.pg.keepB fun g hg=>hs g (by have:=h.bl g hg;omega),h.st.ap,h.st.n3,h.st.nk⟩,heap_setCell_same _ xb i _ _ _ h.x,h.hx,h.bl,h.kl,h.lo⟩
theorem MdFn.set_at (h:MdFn w W1 W kb rb pb xb ra rc raw at_ vf vg xs gs cs) (a:Nat):MdFn w W1 (W.setCell ⟨kb,1,none⟩ (.int .i64 a)) kb rb pb xb ra rc raw a vf vg xs gs cs:=
 ⟨h.st.set_at a,(Below.heap_setCell _ _ _ _ (by show xb≠kb;have:=h.hx;have:=h.kl.1;omega)).trans h.x,h.hx,h.bl,h.kl,h.lo⟩
end
theorem MdSt.names {w W W':World} {kb rb pb:Nat} {ra:Option Addr} {rc:Nat} {raw:List Int} {at_:Nat} {vg:Value} {gs:List ByteArray} (h:MdSt w W kb rb pb ra rc raw at_ (.slice none 0 0) (.slice none 0 0) [] []) (hb:Below W.heap.size W W') (ho:W'.ownsRow W.heap.size 9 1 vg gs.length (gs.map Value.string)):
  MdSt w (W'.setCell ⟨pb,1,none⟩ vg) kb rb pb ra rc raw at_ (.slice none 0 0) vg [] gs:=by
 have hu:=h.under hb
 have hl:=h.k.low.size
 have hp:=h.pl
 have hs:∀g,g≠pb→(W'.setCell ⟨pb,1,none⟩ vg).heap[g]? =W'.heap[g]? :=fun g hg=>Below.heap_setCell _ _ _ _ hg
 have hm:MkAt w.heap.size w (W'.setCell ⟨pb,1,none⟩ vg) kb ra rc (.slice none 0 0) 0 ⟨raw,at_,[],0,0,0⟩:=
  ⟨hu.k.low.setCell h.nk.2.2.2.2 _,(hs kb h.nk.2.1).trans hu.k.box,h.k.klo,h.k.row,h.k.rok,own_keep hu.k.own fun g hg=>by simp[Value.ownBlock] at hg,h.k.ne⟩
 have ho2:(W'.setCell ⟨pb,1,none⟩ vg).ownsRow w.heap.size 9 1 vg gs.length (gs.map Value.string):=own_keep (Go.Joins.ownsRow_le ho hl) fun g hg=>hs g (by have:=(ho.lt g hg).1;omega)
 refine⟨hm,(hs rb h.nk.2.2.1).trans hu.res,(heap_setCell_same _ pb 1 _ _ _ hu.box).trans rfl,⟨own_keep hu.pg.own1 fun g hg=>by simp[Value.ownBlock] at hg,ho2,fun x hx=>(by cases hx),fun g hg=>by simp[Value.ownBlock] at hg,fun g hg x hx=>(by cases hx)⟩,FnsApart.nil,fun g hg=> ?_,h.nk⟩
 rcases hg with e|e|⟨x,hx,_⟩
 ·simp[Value.ownBlock] at e
 ·have:=(ho.lt g e).1;omega
 ·cases hx
theorem MdFn.push {w W1 W W2:World} {o:Obj} {g2 cap2 kb rb pb xb:Nat} {ra:Option Addr} {rc:Nat} {raw:List Int} {at_:Nat} {vf vg:Value} {xs:List (Cf×Fv)} {gs:List ByteArray} {cs:Array Value} {x:Cf×Fv} (h:MdFn w W1 W kb rb pb xb ra rc raw at_ vf vg xs gs cs) (hx:FnOwn W W1.heap.size x)
  (hap:∀g,(Value.slice x.2.ta x.1.taken.length x.2.tc).ownBlock=some g→(Value.slice x.2.ca x.1.code.length x.2.cc).ownBlock≠some g)
  (ho:W2.ownsRow w.heap.size 33 6 (.slice (some ⟨g2,0,none⟩) (xs.length+1) cap2) (xs.length+1) (xs.flatMap fnCells++fnCells x)) (hg:(W.alloc o).grownBy W2 vf.ownBlock) (hb:vf.ownBlock=some g2∨g2=(W.alloc o).heap.size):
  W2.heap[pb]? =some (.cells #[vf,vg] 27 (0,0))∧MdSt w (W2.setCell ⟨pb,0,none⟩ (.slice (some ⟨g2,0,none⟩) (xs.length+1) cap2)) kb rb pb ra rc raw at_ (.slice (some ⟨g2,0,none⟩) (xs.length+1) cap2) vg (xs++ [x]) gs:=by
 have hS:=h.st
 have hl:=h.lo
 have hkl:=h.kl
 obtain⟨hkw,hrw,hpw⟩:=hS.pl
 have hold:∀k,k<W.heap.size→vf.ownBlock≠some k→W2.heap[k]? =W.heap[k]? :=fun k hk hn=>grown_keep hg hk hn
 have hvb:∀g,vf.ownBlock=some g→g<W1.heap.size∧g≠kb∧g≠rb∧g≠pb∧w.heap.size≤g:=fun g e=>⟨h.bl g (.inl e),(hS.n3 g (.inl e)).1,(hS.n3 g (.inl e)).2.1,(hS.n3 g (.inl e)).2.2,(hS.pg.own1.lt g e).1⟩
 have hbox:=(hold pb hpw fun e=>(hvb _ e).2.2.2.1 rfl).trans hS.box
 have hset:∀k,k≠pb→(W2.setCell ⟨pb,0,none⟩ (.slice (some ⟨g2,0,none⟩) (xs.length+1) cap2)).heap[k]? =W2.heap[k]? :=fun k hk=>Below.heap_setCell W2 _ _ _ hk
 have hxg:∀g,FnBlk x g→W1.heap.size≤g∧g<W.heap.size:=fun g e=>hx.lt e
 have hgs:=hg.size
 have hsa:=World.size_alloc W o
 have hg2:g2≠kb∧g2≠rb∧g2≠pb∧vg.ownBlock≠some g2∧(∀y∈xs,¬FnBlk y g2)∧¬FnBlk x g2:=by
  rcases hb with e|e
  ·have:=hvb g2 e
   exact⟨this.2.1,this.2.2.1,this.2.2.2.1,(hS.pg.n1 g2 e).1,(hS.pg.n1 g2 e).2,fun e2=>by have:=(hxg g2 e2).1;omega⟩
  ·refine⟨by omega,by omega,by omega,fun e2=> ?_,fun y hy e2=> ?_,fun e2=> ?_⟩
   ·have:=(hS.pg.own2.lt _ e2).2;omega
   ·have:=((hS.pg.fns y hy).lt e2).2;omega
   ·have:=(hxg g2 e2).2;omega
 have hlow:Below w.heap.size w W2:=(hS.k.low.alloc hS.k.low.size o).trans ⟨hg.os,hg.tape,hg.output,hg.size,fun k hk=>hg.block k (by have:=hS.k.low.size;omega) (fun e=>by have:=(hvb k e.symm).2.2.2.2;omega)⟩
 have hm:MkAt w.heap.size w (W2.setCell ⟨pb,0,none⟩ (.slice (some ⟨g2,0,none⟩) (xs.length+1) cap2)) kb ra rc (.slice none 0 0) 0 ⟨raw,at_,[],0,0,0⟩:=
  ⟨hlow.setCell hS.nk.2.2.2.2 _,(hset kb hS.nk.2.1).trans ((hold kb hkw fun e=>(hvb _ e).2.1 rfl).trans hS.k.box),hS.k.klo,hS.k.row,hS.k.rok,own_keep hS.k.own fun g hg=>by simp[Value.ownBlock] at hg,hS.k.ne⟩
 have hkeep:∀g,(vg.ownBlock=some g∨(∃y∈xs,FnBlk y g)∨FnBlk x g)→(W2.setCell ⟨pb,0,none⟩ (.slice (some ⟨g2,0,none⟩) (xs.length+1) cap2)).heap[g]? =W.heap[g]? :=fun g hgo=>by
  rcases hgo with e|⟨y,hy,e⟩|e
  ·exact(hset g (hS.n3 g (.inr (.inl e))).2.2).trans (hold g (hS.pg.own2.lt g e).2 fun e2=>(hS.pg.n1 g e2).1 e)
  ·exact(hset g (hS.n3 g (.inr (.inr ⟨y,hy,e⟩))).2.2).trans (hold g ((hS.pg.fns y hy).lt e).2 fun e2=>(hS.pg.n1 g e2).2 y hy e)
  ·have:=hxg g e
   exact(hset g (by omega)).trans (hold g this.2 fun e2=>by have:=(hvb g e2).1;omega)
 refine⟨hbox,hm,(hset rb hS.nk.2.2.1).trans ((hold rb hrw fun e=>(hvb _ e).2.2.1 rfl).trans hS.res),(heap_setCell_same _ pb 0 _ _ _ hbox).trans rfl,⟨?_,own_keep hS.pg.own2 fun g e=>hkeep g (.inl e),fun y hy=> ?_,fun g e=> ?_,fun g e y hy e2=> ?_⟩,hS.ap.push (fun y hy g e e2=> ?_) hap,fun g hgo=> ?_,hS.nk⟩
 ·rw[List.length_append,List.flatMap_append]
  simp only[List.flatMap_cons,List.flatMap_nil,List.append_nil]
  refine own_keep ho fun g hgo=> ?_
  simp only[Value.ownBlock,Option.some.injEq] at hgo
  subst hgo
  exact hset _ hg2.2.2.1
 ·rcases List.mem_append.1 hy with hy|hy
  ·exact(hS.pg.fns y hy).keep fun g e=>hkeep g (.inr (.inl ⟨y,hy,e⟩))
  ·rw[List.mem_singleton.1 hy]
   exact FnOwn.keep ⟨Go.Joins.ownsRow_le hx.1 hl,Go.Joins.ownsRow_le hx.2 hl⟩ fun g e=>hkeep g (.inr (.inr e))
 ·simp only[Value.ownBlock,Option.some.injEq] at e
  subst e
  refine⟨hg2.2.2.2.1,fun y hy=> ?_⟩
  rcases List.mem_append.1 hy with hy|hy
  ·exact hg2.2.2.2.2.1 y hy
  ·rw[List.mem_singleton.1 hy]
   exact hg2.2.2.2.2.2
 ·rcases List.mem_append.1 hy with hy|hy
  ·exact hS.pg.n2 g e y hy e2
  ·rw[List.mem_singleton.1 hy] at e2
   have:=(hxg g e2).1
   have:=h.bl g (.inr (.inl e))
   omega
 ·have:=(hxg g e2).1
  have:=h.bl g (.inr (.inr ⟨y,hy,e⟩))
  omega
 ·rcases hgo with e|e|⟨y,hy,e⟩
  ·simp only[Value.ownBlock,Option.some.injEq] at e
   subst e
   exact⟨hg2.1,hg2.2.1,hg2.2.2.1⟩
  ·exact hS.n3 g (.inr (.inl e))
  ·rcases List.mem_append.1 hy with hy|hy
   ·exact hS.n3 g (.inr (.inr ⟨y,hy,e⟩))
   ·rw[List.mem_singleton.1 hy] at e
    have:=(hxg g e).1
    omega
theorem intL_ok {s:List UInt8} {n:Int} (h:intOfL s=some n):okI n:=by
 unfold intOfL at h
 split at h
 ·rename_i v hv
  split at h
  ·injection h with h
   subst h
   unfold Lib.parseIntB at hv
   split at hv
   ·cases hv
   ·dsimp only at hv
    split at hv
    ·cases hv
    ·cases hv
    ·split at hv
     ·cases hv
     ·split at hv
      ·cases hv
      ·rename_i h1 h2
       injection hv with hv
       unfold okI
       split at hv<;>simp_all<;>omega
  ·cases h
 ·cases h
theorem intsL_ok:∀ {l:List (List UInt8)} {n:List Int},intsL l=some n→n.length=l.length∧∀x∈n,okI x
 | [],n,h=>by injection h with h;subst h;exact⟨rfl,fun x hx=>by cases hx⟩
 |s::r,n,h=>by
  rw[intsL] at h
  split at h
  ·rename_i a b h1 h2
   injection h with h
   subst h
   obtain⟨e,hr⟩:=intsL_ok h2
   refine⟨by simp[e],fun x hx=> ?_⟩
   rcases List.mem_cons.1 hx with rfl|hx
   ·exact intL_ok h1
   ·exact hr x hx
  ·cases h
theorem op_lt (s:List UInt8):∀(f op:Nat),opFrom s f op<op+f+1
 |0,op=>by simp[opFrom]
 |f+1,op=>by
  rw[opFrom]
  split
  ·omega
  ·have:=op_lt s f (op+1);omega
def ILike (x:Ci):Prop:=okI x.op∧okI x.a∧okI x.b∧okI x.at_∧x.text.size≤65536
def FLike (N k:Nat) (f:Cf):Prop:=f.name.size≤N∧okI f.params∧okI f.slots∧okI f.around∧f.taken.length≤N∧f.code.length≤k∧(∀t∈f.taken,okI t)∧∀x∈f.code,ILike x
structure PLike (N k:Nat) (p:Cp):Prop where
 nf:p.funcs.length≤k
 ng:p.globals.length≤N+1
 fs:∀f∈p.funcs,FLike N k f
 gs:∀s∈p.globals,s.size≤N
theorem FLike.more {N k k':Nat} {f:Cf} (h:FLike N k f) (hk:k≤k'):FLike N k' f:=⟨h.1,h.2.1,h.2.2.1,h.2.2.2.1,h.2.2.2.2.1,by have:=h.2.2.2.2.2.1;omega,h.2.2.2.2.2.2⟩
theorem instR_like {s:List UInt8} {x:Ci} (h:instR s=some x):ILike x:=by
 unfold instR at h
 split at h
 ·split at h
  ·rename_i hi
   obtain⟨_,ho⟩:=intsL_ok hi
   split at h
   ·cases h
   ·rename_i w a b c t _ u v z _ _
    have h2:=ho u (by simp)
    have h3:=ho v (by simp)
    have h4:=ho z (by simp)
    have h5:∀w,okI (operationL w:Nat):=fun w=>by
     have:=op_lt w 53 1
     unfold okI operationL
     omega
    split at h
    ·injection h with h
     subst h
     exact⟨h5 _,h2,h3,h4,Nat.zero_le _⟩
    ·split at h
     ·rename_i hu
      split at h
      ·cases h
      ·injection h with h
       subst h
       exact⟨h5 _,h2,h3,h4,unq_len hu⟩
     ·cases h
  ·cases h
 ·cases h
theorem openedL_like {N:Nat} {l:List (List UInt8)} (hl:l.length≤N+5) (hn:∀x∈l,x.length≤N) {f:Cf} (h:openedL l=some f):FLike N 0 f:=by
 match l,h with
 |w::n::a::b::c::r,h=>
  rw[openedL_eq] at h
  split at h
  ·cases h
  ·split at h
   ·rename_i p s o t hi
    obtain⟨e,ho⟩:=intsL_ok hi
    simp only[List.length_cons] at e hl
    injection h with h
    subst h
    refine⟨?_,ho p (by simp),ho s (by simp),ho o (by simp),by dsimp only;omega,Nat.zero_le _,fun x hx=>ho x (by simp[hx]),fun x hx=>by cases hx⟩
    show(if n=[45] then [] else n).length≤N
    split
    ·exact Nat.zero_le _
    ·exact hn n (by simp)
   ·cases h
theorem line_like {N k i:Nat} {p q:Cp} {x:List UInt8} (hp:PLike N k p) (hx:x.length≤N) (h:lineL p i x=some q):PLike N (k+1) q:=by
 have hsp:=splitM_len 32 x.length x
 rw[splitC_M 32 _ x (Nat.le_refl _)] at hsp
 by_cases hi:i=0
 ·subst hi
  cases hs:splitC 32 x with
  |nil=>
   rw[hs] at hsp
   simp at hsp
  |cons w r=>
   rw[hs] at hsp
   unfold lineL at h
   rw[if_pos rfl,hs] at h
   dsimp only at h
   split at h
   ·cases h
   ·injection h with h
    subst h
    refine⟨by have:=hp.nf;dsimp only;omega, ?_,fun f hf=>(hp.fs f hf).more (Nat.le_succ _),fun s hs=> ?_⟩
    ·have:=hsp.2.2.1
     simp only[List.length_cons] at this
     simp only[List.length_map]
     omega
    ·simp only[List.mem_map] at hs
     obtain⟨y,hy,rfl⟩:=hs
     have:=hsp.2.2.2 y (by simp[hy])
     show y.length≤N
     omega
 ·by_cases h9:∃r,x=9::r
  ·obtain⟨r,rfl⟩:=h9
   rw[lineL_tab p hi] at h
   split at h
   ·rename_i y f hy hf
    injection h with h
    subst h
    obtain⟨ys,hys⟩:=List.getLast?_eq_some_iff.1 hf
    have hm:f∈p.funcs:=by rw[hys];simp
    have h1:=hp.fs f hm
    have hnf:=hp.nf
    refine⟨?_,hp.ng,fun g hg=> ?_,hp.gs⟩
    ·rw[hys] at hnf⊢
     simp at hnf⊢
     omega
    ·rcases List.mem_append.1 hg with hg|hg
     ·exact(hp.fs g (List.dropLast_subset _ hg)).more (Nat.le_succ _)
     ·rw[List.mem_singleton.1 hg]
      obtain⟨a1,a2,a3,a4,a5,a6,a7,a8⟩:=h1
      refine⟨a1,a2,a3,a4,a5,by simp;omega,a7,fun z hz=> ?_⟩
      rcases List.mem_append.1 hz with hz|hz
      ·exact a8 z hz
      ·rw[List.mem_singleton.1 hz];exact instR_like hy
   ·cases h
  ·rw[lineL_fn p hi fun r e=>h9 ⟨r,e⟩] at h
   cases ho:openedL (splitC 32 x) with
   |none=>rw[ho] at h;cases h
   |some f=>
    rw[ho] at h
    simp only[Option.map_some,Option.some.injEq] at h
    subst h
    have:=hp.nf
    refine⟨by simp;omega,hp.ng,fun g hg=> ?_,hp.gs⟩
    rcases List.mem_append.1 hg with hg|hg
    ·exact(hp.fs g hg).more (Nat.le_succ _)
    ·rw[List.mem_singleton.1 hg]
     exact(openedL_like (by have:=hsp.2.2.1;omega) (fun y hy=>by have:=hsp.2.2.2 y hy;omega) ho).more (Nat.zero_le _)
theorem PLike.tame {p:Cp} (h:PLike 2000000 2000000 p):Tame p:=by
 have hsum:∀l:List Cf,(∀f∈l,f.code.length≤2000000)→manySum l≤l.length*2000000:=fun l=>by
  induction l with
  |nil=>intro _;simp[manySum]
  |cons f r ih=>
   intro h
   have h1:=ih fun g hg=>h g (List.mem_cons_of_mem _ hg)
   have h2:=h f List.mem_cons_self
   rw[manySum,List.length_cons]
   omega
 have hnf:=h.nf
 have hng:=h.ng
 refine⟨⟨by omega,by omega,fun f hf=> ?_,fun s hs=>by have:=h.gs s hs;omega⟩,fun f hf=>by have:=(h.fs f hf).1;omega,fun f hf x hx=>by have:=((h.fs f hf).2.2.2.2.2.2.2 x hx).2.2.2.2;omega, ?_⟩
 ·obtain⟨a1,a2,a3,a4,a5,a6,a7,a8⟩:=h.fs f hf
  exact⟨by omega,a2,a3,a4,by omega,by omega,a7,fun x hx=>⟨(a8 x hx).1,(a8 x hx).2.1,(a8 x hx).2.2.1,(a8 x hx).2.2.2.1,by have:=(a8 x hx).2.2.2.2;omega⟩⟩
 ·have:=hsum _ fun f hf=>(h.fs f hf).2.2.2.2.2.1
  omega
def RdI (lo:Nat) (W0:World) (pb i:Nat) (p:Cp) (W:World):Prop:=∃vf ga m gc xs gs,RdG lo W0 W pb vf ga m gc xs gs∧p=⟨xs.map Prod.fst,gs⟩∧(i=0→vf= .slice none 0 0∧xs=[]∧gs=[])
theorem RdI.under {lo:Nat} {W0 W W':World} {pb i:Nat} {p:Cp} (h:RdI lo W0 pb i p W) (hb:Below W.heap.size W W'):RdI lo W0 pb i p W':=by
 obtain⟨vf,ga,m,gc,xs,gs,h1,h2,h3⟩:=h
 exact⟨vf,ga,m,gc,xs,gs,h1.under hb,h2,h3⟩
theorem RdI.low {lo:Nat} {W0 W:World} {pb i:Nat} {p:Cp} (h:RdI lo W0 pb i p W):Below lo W0 W:=by
 obtain⟨vf,ga,m,gc,xs,gs,h1,h2,h3⟩:=h
 exact h1.low
theorem LinPost.any {lo:Nat} {W0 W':World} {pb i:Nat} {o:Option Cp} {e:Ending} (h:LinPost lo W0 pb o e W'):∃ok:Bool,e= .returned (.bool ok)∧Below lo W0 W'∧(ok=true→∃q,o=some q∧RdI lo W0 pb (i+1) q W')∧(ok=false→o=none):=by
 cases o with
 |none=>
  obtain⟨h1,h2⟩:=h
  exact⟨false,h1,h2,fun h=>(by cases h),fun _=>rfl⟩
 |some q=>
  obtain⟨h1,vf,ga,m,gc,xs,gs,h2,h3⟩:=h
  exact⟨true,h1,h2.low,fun _=>⟨q,rfl,vf,ga,m,gc,xs,gs,h2,h3,fun e=>by omega⟩,fun h=>(by cases h)⟩
theorem line_any {lo:Nat} {W0 W:World} {pb i:Nat} {p:Cp} (hS:RdI lo W0 pb i p W) (hG:Gc W) {N k:Nat} (hp:PLike N k p) (hk:k≤100000000) {s:List UInt8} (hs:s.length≤100000000):
  Calls Tryz.prog 66 #[.pointer (some ⟨pb,0,none⟩),.int .i64 i,.string ⟨⟨s⟩⟩] W fun e W'=>∃ok:Bool,e= .returned (.bool ok)∧Below lo W0 W'∧(ok=true→∃q,lineL p i s=some q∧RdI lo W0 pb (i+1) q W')∧(ok=false→lineL p i s=none):=by
 obtain⟨vf,ga,m,gc,xs,gs,h1,rfl,h3⟩:=hS
 have hnf:=hp.nf
 simp only[List.length_map] at hnf
 by_cases hi:i=0
 ·subst hi
  obtain⟨rfl,rfl,rfl⟩:=h3 rfl
  exact(line_firstG h1 hG hs).mono fun _ _ h=>h.any
 ·by_cases h9:∃r,s=9::r
  ·obtain⟨r,rfl⟩:=h9
   exact(line_instG h1 hG hi (by simp only[List.length_cons] at hs;omega) (by omega) fun x hx=>by have:=(hp.fs x.1 (List.mem_map_of_mem hx)).2.2.2.2.2.1;omega).mono fun _ _ h=>h.any
  ·exact(line_funcG h1 hG hi (fun r e=>h9 ⟨r,e⟩) hs (by omega)).mono fun _ _ h=>h.any
theorem cut_any (s:List UInt8) (hs:s.length≤100000000) (V:World) (hV:Gc V):Calls Tryz.prog 65 #[.string ⟨⟨s⟩⟩,.string ⟨#[10]⟩] V fun e V'=>∃(x r:List UInt8) (ok:Bool),e= .returned (.tuple #[.string ⟨⟨x⟩⟩,.string ⟨⟨r⟩⟩,.bool ok])∧Below V.heap.size V V'∧x.length≤s.length∧(ok=true→cutAt 10 s=(x,some r)∧r.length<s.length)∧(ok=false→(cutAt 10 s).2=none):=by
 obtain⟨m,hm⟩:=hV.max
 have hl:=cutAt_len 10 s
 have hc:=cut_one s 10
 refine(Tryz.strings_Cut ⟨⟨s⟩⟩ ⟨#[10]⟩ m V (by show s.length<_;omega) hm).mono ?_
 rintro e V' ⟨rfl,n,rfl⟩
 rw[show(⟨⟨s⟩⟩:ByteArray).data.toList=s from rfl,show(⟨#[10]⟩:ByteArray).data.toList=[10] from rfl,hc]
 rcases hq:cutAt 10 s with⟨x,_|r⟩
 ·exact⟨s,[],false,rfl,drew_below V n,Nat.le_refl _,fun h=>(by cases h),fun _=>rfl⟩
 ·rw[hq] at hl
  exact⟨x,r,true,rfl,drew_below V n,hl.1,fun _=>⟨rfl,hl.2 r rfl⟩,fun h=>(by cases h)⟩
end Go.Proofs.YtagnicbknbmccaaGreatDoor
