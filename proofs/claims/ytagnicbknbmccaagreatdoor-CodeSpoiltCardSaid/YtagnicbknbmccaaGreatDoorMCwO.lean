/- code.hand. code.fits: what it lays, the loop. code.fits. -/
import Derived.LaidEqlPtr
import Derived.Laws.MakeOwn
import Derived.Laws.OwnMore
import Derived.Deep.LoopGhost
import Derived.Test.YtagnicbknbmccaaGreatDoorMCwH
import Derived.Test.YtagnicbknbmccaaGreatDoorMCwB
import Derived.Test.YtagnicbknbmccaaGreatDoorMCtL
import Derived.Test.YtagnicbknbmccaaGreatDoorMLex1
import Derived.Test.YtagnicbknbmccaaGreatDoorMCwF
import Derived.Test.YtagnicbknbmccaaGreatDoorSqC
set_option maxRecDepth 100000
set_option maxHeartbeats 4000000
namespace Go.Proofs.YtagnicbknbmccaaGreatDoor
open Go.RowKit
def seenV (b:Bool):Value:= .int .i64 (if b then 1 else 0)
structure FtAt (w0:World) (ab sb tb n g cap:Nat) (T:Tab) (c:Cst) (W:World):Prop where
 below:Below w0.heap.size w0 W
 stk:Stk 125 W w0.heap.size T
 atr:∃vs:List Value,W.heap[ab]? =some (.cells vs.toArray 122 (0,0))∧vs.length=n+1∧∀j,j≤n→∃v,vs[j]? =some v∧StkOr T (c.at_.getD j none) v
 seen:W.heap[sb]? =some (.cells (c.seen.map seenV).toArray 3 (0,0))
 todo:TodoAt w0.heap.size tb g cap c.todo W
 la:c.at_.length=n+1
 ls:c.seen.length=n
 lo:w0.heap.size≤ab∧w0.heap.size≤sb∧w0.heap.size≤tb
 ne:ab≠sb∧ab≠tb∧ab≠g∧sb≠tb∧sb≠g
 nn:∀s,(ab,s) ∉ T∧(sb,s) ∉ T∧(tb,s) ∉ T∧(g,s) ∉ T
 deep:∀j s,c.at_.getD j none=some s→s.length≤30000
section
variable {w0 W W1 W':World} {ab sb tb n g cap:Nat} {T T':Tab} {c:Cst}
theorem FtAt.alt (h:FtAt w0 ab sb tb n g cap T c W):ab<W.heap.size∧sb<W.heap.size∧tb<W.heap.size∧g<W.heap.size:=by
 obtain⟨vs,h1,_⟩:=h.atr
 exact⟨(Array.getElem?_eq_some_iff.1 h1).1,(Array.getElem?_eq_some_iff.1 h.seen).1,(Array.getElem?_eq_some_iff.1 h.todo.box).1,own_blk h.todo.own⟩
theorem FtAt.at_ (h:FtAt w0 ab sb tb n g cap T c W) {k:Nat} (hk:k≤n):∃v,W.cell? ⟨ab,k,none⟩=some v∧StkOr T (c.at_.getD k none) v∧W.frozen? ⟨ab,k,none⟩=false:=by
 obtain⟨vs,h1,h2,h3⟩:=h.atr
 obtain⟨v,hv,hs⟩:=h3 k hk
 exact⟨v,(cell_of_row W ab k _ _ _ h1).trans (by simpa using hv),hs,frozen_of_row W ab k _ _ h1⟩
theorem FtAt.seenAt (h:FtAt w0 ab sb tb n g cap T c W) {k:Nat} (hk:k<n):W.cell? ⟨sb,k,none⟩=some (seenV (c.seen.getD k false))∧W.frozen? ⟨sb,k,none⟩=false:=by
 refine⟨(cell_of_row W sb k _ _ _ h.seen).trans ?_,frozen_of_row W sb k _ _ h.seen⟩
 have:k<c.seen.length:=by rw[h.ls];exact hk
 simp[List.getD_eq_getElem?_getD,List.getElem?_eq_getElem this]
theorem FtAt.more (h:FtAt w0 ab sb tb n g cap T c W) (hs:Stk 125 W' w0.heap.size T') (hsub:∀y∈T,y∈T') (hnew:∀y∈T',y∈T∨W.heap.size≤y.1) (hf:Foot W.heap.size (fun k=>∃s,(k,s)∈T) W W'):FtAt w0 ab sb tb n g cap T' c W':=by
 obtain⟨l1,l2,l3,l4⟩:=h.alt
 have hn:∀k,k<W.heap.size→(∀s,(k,s) ∉ T)→(∀s,(k,s) ∉ T'):=fun k hk hn s hs=>by
  rcases hnew _ hs with hs|hs
  ·exact hn s hs
  ·exact absurd hk (Nat.not_lt.2 hs)
 have hk:∀k,k<W.heap.size→(∀s,(k,s) ∉ T)→W'.heap[k]? =W.heap[k]? :=fun k hk hn=>hf.block k hk (fun⟨s,hs⟩=>hn s hs)
 obtain⟨vs,h1,h2,h3⟩:=h.atr
 have hn':=h.nn
 refine⟨h.below.trans (hf.to (C:=w0.heap.size) h.below.size fun k ⟨s,hs⟩=>(h.stk.node k s hs).1),hs,⟨vs,(hk ab l1 fun s=>(hn' s).1).trans h1,h2,fun j hj=> ?_⟩,(hk sb l2 fun s=>(hn' s).2.1).trans h.seen,h.todo.keep (hk tb l3 fun s=>(hn' s).2.2.1) (hk g l4 fun s=>(hn' s).2.2.2),h.la,h.ls,h.lo,h.ne,fun s=>⟨hn ab l1 (fun s=>(hn' s).1) s,hn sb l2 (fun s=>(hn' s).2.1) s,hn tb l3 (fun s=>(hn' s).2.2.1) s,hn g l4 (fun s=>(hn' s).2.2.2) s⟩,h.deep⟩
 obtain⟨v,hv,hs⟩:=h3 j hj
 refine⟨v,hv, ?_⟩
 revert hs
 cases c.at_.getD j none with
 |none=>exact id
 |some s=>rintro⟨b,e,hb⟩;exact⟨b,e,hsub _ hb⟩
theorem FtAt.hand (h:FtAt w0 ab sb tb n g cap T c W) {k b g' cap':Nat} {s:List UInt8} (hk:k≤n) (hb:(b,s)∈T) (hs:s.length≤30000)
  (ht:TodoAt w0.heap.size tb g' cap' (pushL c.todo k) W') (hg:g'=g∨(W.setCell ⟨ab,k,none⟩ (.pointer (some ⟨b,0,none⟩))).heap.size≤g')
  (hf:Foot (W.setCell ⟨ab,k,none⟩ (.pointer (some ⟨b,0,none⟩))).heap.size (fun k=>k=tb∨k=g) (W.setCell ⟨ab,k,none⟩ (.pointer (some ⟨b,0,none⟩))) W'):
  FtAt w0 ab sb tb n g' cap' T {c with at_:=c.at_.set k (some s),todo:=pushL c.todo k} W':=by
 obtain⟨l1,l2,l3,l4⟩:=h.alt
 obtain⟨vs,h1,h2,h3⟩:=h.atr
 have hsz:(W.setCell ⟨ab,k,none⟩ (.pointer (some ⟨b,0,none⟩))).heap.size=W.heap.size:=by simp
 rw[hsz] at hg hf
 have hfs:=hf.size
 rw[hsz] at hfs
 obtain⟨n1,n2,n3,n4,n5⟩:=h.ne
 have hn':=h.nn
 have hk2:∀i,i<W.heap.size→i≠ab→i≠tb→i≠g→W'.heap[i]? =W.heap[i]? :=fun i hi e1 e2 e3=>(hf.block i hi (by rintro(e|e);exact e2 e;exact e3 e)).trans (Below.heap_setCell W _ _ _ e1)
 have hab:W'.heap[ab]? =some (.cells (vs.set k (.pointer (some ⟨b,0,none⟩))).toArray 122 (0,0)):=by
  rw[hf.block ab l1 (by rintro(e|e);exact n2 e;exact n3 e),heap_setCell_same W ab k _ _ _ h1]
  simp
 have hge:w0.heap.size≤W.heap.size:=h.below.size
 have hg2:∀s,(g',s) ∉ T:=fun s hs=>by
  rcases hg with e|e
  ·rw[e] at hs;exact(hn' s).2.2.2 hs
  ·exact absurd (h.stk.node _ s hs).2.1 (Nat.not_lt.2 e)
 refine⟨⟨hf.os.trans h.below.os,hf.tape.trans h.below.tape,hf.output.trans h.below.output,Nat.le_trans hge hfs,fun i hi=> ?_⟩,h.stk.keep fun b s hb=> ?_,⟨vs.set k (.pointer (some ⟨b,0,none⟩)),hab,by simpa using h2,fun j hj=> ?_⟩,(hk2 sb l2 (Ne.symm n1) n4 n5).trans h.seen,ht,by simp only[List.length_set];exact h.la,h.ls,h.lo,⟨n1,n2, ?_,n4, ?_⟩,fun s=>⟨(hn' s).1,(hn' s).2.1,(hn' s).2.2.1,hg2 s⟩,fun j t=> ?_⟩
 ·have:=h.lo
  have:=h.todo.lo
  rw[hk2 i (by omega) (by omega) (by omega) (by omega)]
  exact h.below.block i hi
 ·have hn:=h.stk.node b s hb
  refine hk2 b hn.2.1 (fun e=>(hn' s).1 (e▸hb)) (fun e=>(hn' s).2.2.1 (e▸hb)) (fun e=>(hn' s).2.2.2 (e▸hb))
 ·obtain⟨v,hv,hs2⟩:=h3 j hj
  by_cases e:k=j
  ·subst e
   refine⟨.pointer (some ⟨b,0,none⟩),by rw[List.getElem?_set_self (by omega)], ?_⟩
   simp only[List.getD_eq_getElem?_getD]
   rw[List.getElem?_set_self (by rw[h.la];omega)]
   exact⟨b,rfl,hb⟩
  ·refine⟨v,by rw[List.getElem?_set_ne e];exact hv, ?_⟩
   simp only[List.getD_eq_getElem?_getD] at hs2⊢
   rw[List.getElem?_set_ne e]
   exact hs2
 ·rcases hg with e|e<;>omega
 ·rcases hg with e|e<;>omega
 ·intro ht
  by_cases e:k=j
  ·subst e
   simp only[List.getD_eq_getElem?_getD] at ht
   rw[List.getElem?_set_self (by rw[h.la];omega)] at ht
   simp only[Option.getD_some,Option.some.injEq] at ht
   rw[←ht];exact hs
  ·simp only[List.getD_eq_getElem?_getD] at ht
   rw[List.getElem?_set_ne e] at ht
   exact h.deep j t (by rw[List.getD_eq_getElem?_getD];exact ht)
end
theorem stackInfo:(Tryz.prog.info? 125).map (·.size)=some 6:=by kernel_rfl
theorem stack_eq {w:World} {B:Nat} {T:Tab} (h:Stk 125 w B T) {b b':Nat} {s s':List UInt8} (hb:(b,s)∈T) (hb':(b',s')∈T):
  (binOp .eql 122 (.pointer (some ⟨b,0,none⟩)) (.pointer (some ⟨b',0,none⟩))).run Tryz.prog w= .ok (.bool (s==s')) w:=by
 obtain⟨j,hj,hjs⟩:=Option.map_eq_some_iff.1 stackInfo
 by_cases e:b=b'
 ·subst e
  obtain rfl:=h.same _ _ _ hb hb'
  rw[run_eql_ptr_same w _ Tryz.underlying122 hj]
  simp
 ·obtain⟨_,_,_,_,_,_,h1,_⟩:=h.node b s hb
  obtain⟨_,_,_,_,_,_,h2,_⟩:=h.node b' s' hb'
  have hs:(s==s')=false:=by
   simp only[beq_eq_false_iff_ne,ne_eq]
   intro e2
   subst e2
   exact e (h.one _ _ _ hb hb')
  rw[run_eql_ptr_other w Tryz.underlying122 hj (by rw[hjs];decide) (fun e2=>e (by injection e2)) h1 h2,hs]
theorem getD_set {α:Type} {l:List (Option α)} {k:Nat} (hk:k<l.length) (v:Option α):(l.set k v).getD k none=v:=by
 rw[List.getD_eq_getElem?_getD,List.getElem?_set_self hk]
 rfl
theorem hand_any {w0 W:World} {ab sb tb n g cap:Nat} {T:Tab} {c:Cst} (h:FtAt w0 ab sb tb n g cap T c W) {k b:Nat} {s:List UInt8} (hk:k≤n) (hb:(b,s)∈T) (hs:s.length≤30000) (hl:c.todo.length≤900000):
  Calls Tryz.prog 86 #[.slice (some ⟨ab,0,none⟩) (n+1) (n+1),.pointer (some ⟨tb,0,none⟩),.int .i64 k,.pointer (some ⟨b,0,none⟩)] W fun e w'=>
   e= .returned (.bool (handP c k s).2)∧(∃g' cap',FtAt w0 ab sb tb n g' cap' T (handP c k s).1 w'∧(g'=g∨W.heap.size≤g'))∧Foot W.heap.size (fun i=>i=ab∨i=tb∨i=g) W w':=by
 obtain⟨v,k0,hv,f0⟩:=h.at_ hk
 have H:=Lib.hid h
 go_enter Tryz.func86,Tryz.ntmps86
 unfold handP
 cases hat:c.at_.getD k none with
 |none=>
  rw[hat] at hv
  obtain rfl:v= .pointer none:=hv
  have h1:TodoAt w0.heap.size tb g cap c.todo (W.setCell ⟨ab,k,none⟩ (.pointer (some ⟨b,0,none⟩))):=h.todo.keep (Below.heap_setCell W _ _ _ (Ne.symm h.ne.2.1)) (Below.heap_setCell W _ _ _ (Ne.symm h.ne.2.2.1))
  have HT:=Lib.hid h1
  have hlo:w0.heap.size≤(W.setCell ⟨ab,k,none⟩ (.pointer (some ⟨b,0,none⟩))).heap.size:=by simpa using h.below.size
  clear h h1 hat
  simp only
  go_wp2_with (go_at_call 129;refine(push_any HT.out k hl hlo).mono ?_;rintro e w1 ⟨rfl,g',cap',ht1,hg1,hf1⟩;have hF:=H.out.hand hk hb hs ht1 hg1 hf1;obtain⟨v2,k2,hv2,f2⟩:=hF.at_ hk;simp only at hv2;rw[getD_set (by rw[H.out.la];omega)] at hv2;obtain⟨b3,rfl,hb3⟩:=hv2;have q1:=stack_eq hF.stk hb3 hb;rw[beq_self_eq_true] at q1;have hfo:Foot W.heap.size (fun i=>i=ab∨i=tb∨i=g) W w1:=(Foot.set (g:=fun i=>i=ab∨i=tb∨i=g) (p:=⟨ab,k,none⟩) (Foot.refl W.heap.size _ W) (.inr (.inl rfl)) (.pointer (some ⟨b,0,none⟩))).trans (hf1.mono (by simp) fun i _ e=> .inr e);have HF:=Lib.hid hF;have hg2:g'=g∨W.heap.size≤g':=(by simpa using hg1);clear hF ht1 hf1 hg1 hb3)
  go_ret
  exact⟨rfl,⟨g',cap',HF.out,hg2⟩,hfo⟩
 |some t=>
  rw[hat] at hv
  obtain⟨b2,rfl,hb2⟩:=hv
  have q1:=stack_eq h.stk hb2 hb
  clear h hat
  simp only
  go_wp2_with fail
  go_ret
  exact⟨rfl,⟨g,cap,H.out,.inl rfl⟩,Foot.refl _ _ _⟩
def fitsR:Option Int→Int
 |none=> -1
 |some k=>k
def fnV (x:Cf×Fv):Value:= .agg #[.string x.1.name,.int .i64 x.1.params,.int .i64 x.1.slots,.slice x.2.ta x.1.taken.length x.2.tc,.int .i64 x.1.around,.slice x.2.ca x.1.code.length x.2.cc]
theorem ptrInfo:(Tryz.prog.info? 122).map (fun i=>(i.zero,i.size,i.bytes))=some (some (.pointer none),1,8):=by kernel_rfl
theorem make_at (n:Nat) (hn:n≤100000) (w:World):(Instr.makeSlice 121 (.int .i64 ((n:Int)+1)) (.int .i64 ((n:Int)+1))).run Tryz.prog w= .ok (.slice (some ⟨w.heap.size,0,none⟩) (n+1) (n+1)) (w.alloc (.cells (List.replicate (n+1) (Value.pointer none)).toArray 122 (0,0))):=by
 obtain⟨i,hi,hz0,hz1,hz2⟩:=info_parts ptrInfo
 have:=run_make (P:=Tryz.prog) w 121 122 i _ Tryz.underlying121 hi hz0 .i64 .i64 ((n:Int)+1) ((n:Int)+1) (by omega) (by omega) (by rw[hz2];omega) (by omega)
 rw[this,hz1,Nat.mul_one,show((n:Int)+1).toNat=n+1 by omega]
 have e:=toList_madeCells_one (Value.pointer none) (n+1)
 rw[←e]
 rfl
theorem make_ints (n:Nat) (hn:n≤100000) (w:World):(Instr.makeSlice 22 (.int .i64 (n:Int)) (.int .i64 (n:Int))).run Tryz.prog w= .ok (.slice (some ⟨w.heap.size,0,none⟩) n n) (w.alloc (.cells (List.replicate n (Value.int .i64 0)).toArray 3 (0,0))):=by
 obtain⟨i,hi,hz0,hz1,hz2⟩:=info_parts intInfo
 have:=run_make (P:=Tryz.prog) w 22 3 i _ Tryz.underlying22 hi hz0 .i64 .i64 (n:Int) (n:Int) (by omega) (by omega) (by rw[hz2];omega) (by omega)
 rw[this,hz1,Nat.mul_one,Int.toNat_natCast]
 have e:=toList_madeCells_one (Value.int .i64 0) n
 rw[←e]
 rfl
theorem allocs6 (w:World) (o0 o1 o2 o3 o4 o5:Obj):
  let W:=(((((w.alloc o0).alloc o1).alloc o2).alloc o3).alloc o4).alloc o5
  W.heap[w.heap.size]? =some o0∧W.heap[w.heap.size+1]? =some o1∧W.heap[w.heap.size+1+1]? =some o2∧W.heap[w.heap.size+1+1+1]? =some o3∧W.heap[w.heap.size+1+1+1+1]? =some o4∧W.heap[w.heap.size+1+1+1+1+1]? =some o5∧W.heap.size=w.heap.size+6∧Below (w.heap.size+1) (w.alloc o0) W:=by
 intro W
 have e:∀(w:World) (o:Obj),(w.alloc o).heap=w.heap.push o:=fun _ _=>rfl
 have hW:W.heap=(((((w.heap.push o0).push o1).push o2).push o3).push o4).push o5:=rfl
 refine⟨?_, ?_, ?_, ?_, ?_, ?_, ?_, ?_⟩
 ·rw[hW];simp[Array.getElem_push,Nat.add_assoc]
 ·rw[hW];simp[Array.getElem_push,Nat.add_assoc]
 ·rw[hW];simp[Array.getElem_push,Nat.add_assoc]
 ·rw[hW];simp[Array.getElem_push,Nat.add_assoc]
 ·rw[hW];simp[Array.getElem_push,Nat.add_assoc]
 ·rw[hW];simp[Array.getElem_push,Nat.add_assoc]
 ·rw[hW];simp only[Array.size_push]
 ·have h1:=(Below.refl (w.heap.size+1) (w.alloc o0)).alloc (by simp) o1
  have h2:=h1.alloc (by simp) o2
  have h3:=h2.alloc (by simp) o3
  have h4:=h3.alloc (by simp) o4
  exact h4.alloc (by simp) o5
theorem FtAt.begin (w:World) (o0:Obj) (n:Nat) (_h0:0<n):
  FtAt (w.alloc o0) (w.heap.size+1) (w.heap.size+1+1) (w.heap.size+1+1+1+1) n (w.heap.size+1+1+1) 1 [(w.heap.size+1+1+1+1+1,[])] ⟨some []::List.replicate n none,List.replicate n false,[0]⟩
   ((((((w.alloc o0).alloc (.cells ((Array.replicate (n+1) (Value.pointer none)).setIfInBounds 0 (.pointer (some ⟨w.heap.size+1+1+1+1+1,0,none⟩))) 122 (0,0))).alloc (.cells (Array.replicate n (Value.int .i64 0)) 3 (0,0))).alloc (.cells #[.int .i64 0] 3 (0,0))).alloc (.cells #[.slice (some ⟨w.heap.size+1+1+1,0,none⟩) 1 1] 22 (0,0))).alloc
    (.cells #[.int .u8 0,.pointer none,.int .i64 0,.pointer none,.pointer none,.pointer none] 125 (0,0))):=by
 have hA:=allocs6 w o0 (.cells ((Array.replicate (n+1) (Value.pointer none)).setIfInBounds 0 (.pointer (some ⟨w.heap.size+1+1+1+1+1,0,none⟩))) 122 (0,0)) (.cells (Array.replicate n (Value.int .i64 0)) 3 (0,0)) (.cells #[.int .i64 0] 3 (0,0)) (.cells #[.slice (some ⟨w.heap.size+1+1+1,0,none⟩) 1 1] 22 (0,0)) (.cells #[.int .u8 0,.pointer none,.int .i64 0,.pointer none,.pointer none,.pointer none] 125 (0,0))
 dsimp only at hA
 obtain⟨W,hW⟩:∃W,(((((w.alloc o0).alloc (.cells ((Array.replicate (n+1) (Value.pointer none)).setIfInBounds 0 (.pointer (some ⟨w.heap.size+1+1+1+1+1,0,none⟩))) 122 (0,0))).alloc (.cells (Array.replicate n (Value.int .i64 0)) 3 (0,0))).alloc (.cells #[.int .i64 0] 3 (0,0))).alloc (.cells #[.slice (some ⟨w.heap.size+1+1+1,0,none⟩) 1 1] 22 (0,0))).alloc
    (.cells #[.int .u8 0,.pointer none,.int .i64 0,.pointer none,.pointer none,.pointer none] 125 (0,0))=W:=⟨_,rfl⟩
 rw[hW] at hA⊢
 obtain⟨_,a1,a2,a3,a4,a5,hsz,hb⟩:=hA
 have hs0:(w.alloc o0).heap.size=w.heap.size+1:=by simp
 refine⟨by rw[hs0];exact hb,⟨?_, ?_, ?_⟩,⟨(List.replicate (n+1) (Value.pointer none)).set 0 (.pointer (some ⟨w.heap.size+1+1+1+1+1,0,none⟩)),by rw[a1,←List.setIfInBounds_toArray,List.toArray_replicate],by simp,fun j hj=> ?_⟩,by rw[a2];simp[seenV],⟨a4,⟨by simp[rowI],.inr ⟨_,_,_,rfl,Nat.zero_le _,a3,by simp,by decide,by simp,by simp[rowI]⟩⟩,by omega,by rw[hs0];omega⟩,by simp,by simp,by rw[hs0];omega,by omega,fun s=> ?_,fun j s=> ?_⟩
 ·intro b s hb2
  rw[List.mem_singleton] at hb2
  injection hb2 with e1 e2
  subst e1
  subst e2
  refine⟨by rw[hs0];omega,by rw[hsz];omega,.pointer none,.pointer none,.pointer none,.pointer none,by rw[a5];rfl,rfl, ?_, ?_, ?_⟩<;>
  ·refine .inl ⟨rfl,fun b hb3=> ?_⟩
   rw[List.mem_singleton] at hb3
   injection hb3 with _ e
   cases e
 ·intro b b' s h1 h2
  rw[List.mem_singleton] at h1 h2
  injection h1 with e1 _
  injection h2 with e2 _
  rw[e1,e2]
 ·intro b s s' h1 h2
  rw[List.mem_singleton] at h1 h2
  injection h1 with _ e1
  injection h2 with _ e2
  rw[e1,e2]
 ·cases j with
  |zero=>exact⟨_,by rw[List.getElem?_set_self (by simp)],_,rfl,List.mem_singleton.2 rfl⟩
  |succ j=>
   refine⟨.pointer none,by rw[List.getElem?_set_ne (by omega),List.getElem?_replicate,if_pos (by omega)], ?_⟩
   simp only[List.getD_cons_succ]
   rw[List.getD_eq_getElem?_getD,List.getElem?_replicate]
   split<;>exact rfl
 ·simp
 ·intro h
  cases j with
  |zero=>
   simp only[List.getD_cons_zero,Option.some.injEq] at h
   rw[←h];exact Nat.zero_le _
  |succ j=>
   simp only[List.getD_cons_succ] at h
   rw[List.getD_eq_getElem?_getD,List.getElem?_replicate] at h
   split at h<;>cases h
section
variable {w0 W W':World} {ab sb tb n g cap:Nat} {T:Tab} {c:Cst}
theorem FtAt.alloc (h:FtAt w0 ab sb tb n g cap T c W) (o:Obj):FtAt w0 ab sb tb n g cap T c (W.alloc o):=
 h.more (h.stk.keep fun b s hb=>heap_alloc_old W o (h.stk.node b s hb).2.1) (fun _ h=>h) (fun _ h=> .inl h) (Foot.of ((Below.refl _ W).alloc (Nat.le_refl _) o))
theorem FtAt.under (h:FtAt w0 ab sb tb n g cap T c W) (hb:Below W.heap.size W W'):FtAt w0 ab sb tb n g cap T c W':=
 h.more (h.stk.keep fun b s hb2=>hb.block b (h.stk.node b s hb2).2.1) (fun _ h=>h) (fun _ h=> .inl h) (Foot.of hb)
theorem FtAt.drewN (h:FtAt w0 ab sb tb n g cap T c W) (k:Nat):FtAt w0 ab sb tb n g cap T c (W.drewN k):=h.under ⟨rfl,rfl,rfl,Nat.le_refl _,fun _ _=>rfl⟩
theorem FtAt.pop (h:FtAt w0 ab sb tb n g cap T c W) (ht:TodoAt w0.heap.size tb g cap (popL c.todo).2 W') (hf:Foot W.heap.size (fun k=>k=tb∨k=g) W W'):FtAt w0 ab sb tb n g cap T {c with todo:=(popL c.todo).2} W':=by
 obtain⟨l1,l2,l3,l4⟩:=h.alt
 obtain⟨vs,h1,h2,h3⟩:=h.atr
 obtain⟨n1,n2,n3,n4,n5⟩:=h.ne
 have hn':=h.nn
 have hk:∀k,k<W.heap.size→k≠tb→k≠g→W'.heap[k]? =W.heap[k]? :=fun k hk e1 e2=>hf.block k hk (by rintro(e|e);exact e1 e;exact e2 e)
 have hlo:=h.lo
 have hlg:=h.todo.lo
 exact⟨h.below.trans (hf.to (C:=w0.heap.size) h.below.size (by rintro k (e|e)<;>omega)),h.stk.keep fun b s hb=>hk b (h.stk.node b s hb).2.1 (fun e=>(hn' s).2.2.1 (e▸hb)) (fun e=>(hn' s).2.2.2 (e▸hb)),⟨vs,(hk ab l1 n2 n3).trans h1,h2,h3⟩,(hk sb l2 n4 n5).trans h.seen,ht,h.la,h.ls,h.lo,h.ne,h.nn,h.deep⟩
theorem FtAt.look (h:FtAt w0 ab sb tb n g cap T c W) {k:Nat} (_hk:k<n):FtAt w0 ab sb tb n g cap T {c with seen:=c.seen.set k true} (W.setCell ⟨sb,k,none⟩ (.int .i64 1)):=by
 obtain⟨vs,h1,h2,h3⟩:=h.atr
 obtain⟨n1,n2,n3,n4,n5⟩:=h.ne
 have hn':=h.nn
 have hk2:∀i,i≠sb→(W.setCell ⟨sb,k,none⟩ (.int .i64 1)).heap[i]? =W.heap[i]? :=fun i e=>Below.heap_setCell W _ _ _ e
 have hlo:=h.lo
 refine⟨h.below.setCell (p:=⟨sb,k,none⟩) hlo.2.1 _,h.stk.keep fun b s hb=>hk2 b (fun e=>(hn' s).2.1 (e▸hb)),⟨vs,(hk2 ab n1).trans h1,h2,h3⟩, ?_,h.todo.keep (hk2 tb (Ne.symm n4)) (hk2 g (Ne.symm n5)),h.la,by simp only[List.length_set];exact h.ls,h.lo,h.ne,h.nn,h.deep⟩
 rw[heap_setCell_same W sb k _ _ _ h.seen]
 simp[List.map_set,seenV]
end
theorem lays_len:∀(l:List UInt8) (s:List UInt8) {s':List UInt8},laysP s l=some s'→s.length≤30000→s'.length≤30000
 | [],s,s',h,hs=>by
  rw[laysP] at h
  injection h with h
  rw[←h];exact hs
 |c::r,s,s',h,hs=>by
  rw[laysP] at h
  split at h
  ·cases h
  ·exact lays_len r (c::s) h (by simp only[List.length_cons];omega)
theorem takes_len:∀(l:List UInt8) (s:List UInt8) {s':List UInt8},takesP s l=some s'→s'.length≤s.length
 | [],s,s',h=>by
  rw[takesP] at h
  injection h with h
  rw[←h];exact Nat.le_refl _
 |c::r,s,s',h=>by
  rw[takesP] at h
  cases e:lessP s c 1 with
  |none=>rw[e] at h;cases h
  |some s1=>
   rw[e] at h
   exact Nat.le_trans (takes_len r s1 h) (less_len _ _ e)
theorem leaves_len {x:Ci} {s nx th:List UInt8} (h:leavesP x s=some (nx,th)) (hs:s.length≤30000):nx.length≤30000∧th.length≤30000:=by
 unfold leavesP at h
 split at h
 ·cases h
 ·rename_i s1 e1
  have l1:=less_len _ _ e1
  split at h
  ·cases h
  ·rename_i s2 e2
   have l2:=takes_len _ _ e2
   split at h
   ·cases h
   ·rename_i s3 e3
    have l3:=lays_len _ _ e3 (by omega)
    simp only[Option.some.injEq,Prod.mk.injEq] at h
    obtain⟨rfl,rfl⟩:=h
    refine⟨l3, ?_⟩
    split
    ·rename_i ho
     have e:takesP s1 [118]=some s2:=by
      rcases ho with ho|ho
      ·rw[ho] at e2;exact e2
      ·rw[ho] at e2;exact e2
     rw[takesP] at e
     cases e4:lessP s1 118 1 with
     |none=>rw[e4] at e;cases e
     |some s4=>
      rw[e4] at e
      dsimp only at e
      rw[takesP] at e
      injection e with e
      subst e
      cases s1 with
      |nil=>rw[lessP] at e4;cases e4
      |cons t r=>
       rw[lessP] at e4
       split at e4
       ·rw[lessP] at e4
        injection e4 with e4
        subst e4
        simp only[List.length_cons] at l1⊢
        omega
       ·cases e4
    ·omega
theorem round_eq {code:List Ci} {c:Cst} {k:Nat} {x:Ci} {s:List UInt8} (hx:code[k]? =some x) (hs:c.at_.getD k none=some s):roundP code c k=match leavesP x s with
  |none=>(some (k:Int),c)
  |some (nx,th)=>
   let h1:=if x.op=34∨x.op=50 then(c,true) else handP c (k+1) nx
   if h1.2=false then(some ((k:Int)+1),h1.1) else
   let h2:=if goesB x.op then handP h1.1 x.a.toNat th else(h1.1,true)
   if h2.2=false then(some x.a,h2.1) else(none,h2.1):=by
 unfold roundP
 rw[hx,hs]
 rfl
theorem fits_any {f:Cf} {v:Fv} {w:World} (hrow:RowIs w w.heap.size v.ca (f.code.flatMap insCells)) (h0:0<f.code.length) (hlen:f.code.length≤60000) (hfit:∀(k:Nat) (x:Ci),f.code[k]? =some x→FitI f.code k x) (hcnt:∀x∈f.code,CountedOk x):
  Calls Tryz.prog 38 #[fnV (f,v)] w fun e w'=>e= .returned (.int .i64 (fitsR (fitsP f.code)))∧Below w.heap.size w w':=by
 obtain⟨R,HR⟩:∃R,Hid (fitsP f.code=R):=⟨_,rfl⟩
 rw[HR.out]
 obtain⟨ca,o,hca,hcb,hcc⟩:=hrow.at (by rw[flat_len ins_len];omega)
 simp only[fnV]
 rw[hca]
 have HC:=Lib.hid hcc
 have HFI:=Lib.hid hfit
 have HCN:=Lib.hid hcnt
 obtain⟨n,hn⟩:∃n,f.code.length=n:=⟨_,rfl⟩
 have HLN:=Lib.hid hn
 rw[hn] at h0 hlen⊢
 have m1:=make_at n (by omega)
 have m2:=make_ints n (by omega)
 clear hrow hca hcc hfit hcnt hn
 go_enter Tryz.func38,Tryz.ntmps38
 have hB:=FtAt.begin w (.cells #[.string f.name,.int .i64 f.params,.int .i64 f.slots,.slice v.ta f.taken.length v.tc,.int .i64 f.around,.slice (some ⟨ca,o,none⟩) n v.cc] 33 (0,0)) n h0
 have hw0:=heap_alloc_new w (.cells #[.string f.name,.int .i64 f.params,.int .i64 f.slots,.slice v.ta f.taken.length v.tc,.int .i64 f.around,.slice (some ⟨ca,o,none⟩) n v.cc] 33 (0,0))
 have hbw:Below w.heap.size w (w.alloc (.cells #[.string f.name,.int .i64 f.params,.int .i64 f.slots,.slice v.ta f.taken.length v.tc,.int .i64 f.around,.slice (some ⟨ca,o,none⟩) n v.cc] 33 (0,0))):=(Below.refl _ _).alloc (Nat.le_refl _) _
 have HINV:=Lib.hid (Inv.begin f.code (by rw[HLN.out];exact h0))
 rw[HLN.out] at HINV
 have hloop:fitsLoop f.code (4*n+4) ⟨some []::List.replicate n none,List.replicate n false,[0]⟩=R:=by rw[←HR.out];unfold fitsP;rw[HLN.out]
 have HLP:=Lib.hid hloop
 have HB:=Lib.hid hB
 have HW0:=Lib.hid hw0
 have HBW:=Lib.hid hbw
 clear hB hw0 hbw hloop
 go_wp2_with fail
 go_step3
 go_wp2_with fail
 go_step3
 go_wp2_with fail
 obtain⟨w0,hw⟩:∃w0,w.alloc (.cells #[.string f.name,.int .i64 f.params,.int .i64 f.slots,.slice v.ta f.taken.length v.tc,.int .i64 f.around,.slice (some ⟨ca,o,none⟩) n v.cc] 33 (0,0))=w0:=⟨_,rfl⟩
 have hs0:w0.heap.size=w.heap.size+1:=by rw[←hw];simp
 rw[hw] at HB HW0 HBW
 obtain⟨s0,hs1⟩:∃s0,w.heap.size=s0:=⟨_,rfl⟩
 simp only[hw,hs1]
 rw[hs1] at hs0 HB HW0
 go_loopg [] (4*n+4) (fun fu wr=>∃(g cap:Nat) (T:Tab) (c:Cst),Hid (FtAt w0 (s0+1) (s0+1+1) (s0+1+1+1+1) n g cap T c wr)∧Hid (Inv f.code c)∧c.mu+1≤fu∧fu≤4*n+4∧Hid (fitsLoop f.code fu c=R))
 case atStart=>exact⟨_,_,_,_,HB,Lib.hid HINV.out.1,by rw[HINV.out.2];omega,Nat.le_refl _,HLP⟩
 case round=>
  obtain⟨g,cap,T,c,HF,HI,hmu,hfu,HL⟩:=hrel
  have hca0:ca<s0:=by rw[←hs1];exact hcb
  have hwl:w.heap.size≤w0.heap.size:=by omega
  clear hs1 hw
  cases gk with
  |zero=>exfalso;omega
  |succ gf=>
  have t0:=cell_of_row wr (s0+1+1+1+1) 0 _ _ _ HF.out.todo.box
  simp only[List.getElem?_toArray,List.getElem?_cons_zero] at t0
  have hl:=HL.out
  rw[fitsLoop] at hl
  have hmt:c.todo.length≤c.mu:=by unfold Cst.mu;omega
  by_cases htd:c.todo=[]
  ·rw[if_pos htd] at hl
   have hz:c.todo.length=0:=by rw[htd];rfl
   rw[hz] at t0
   have HR2:=Lib.hid hl
   clear hl hz
   go_wp2_with fail
   try rw[Exit.noGoto_ret]
   go_ret
   rw[←HR2.out]
   exact⟨rfl,HBW.out.trans (HF.out.below.mono hwl)⟩
  ·rw[if_neg htd] at hl
   have hpos:0<c.todo.length:=List.length_pos_iff.2 htd
   obtain⟨k,hpk,hkn,s,hs⟩:=pop_at HI.out htd
   rw[HLN.out] at hkn
   obtain⟨x,hx⟩:∃x,f.code[k]? =some x:=⟨_,List.getElem?_eq_getElem (by rw[HLN.out];exact hkn)⟩
   obtain⟨r,hp⟩:∃r,popL c.todo=((k:Int),r):=⟨(popL c.todo).2,Prod.ext hpk rfl⟩
   have HP:=Lib.hid (pop_any HF.out.todo hpos (by omega))
   rw[hp] at HP hl
   simp only[Int.toNat_natCast] at hl
   have HPI:=Lib.hid (HI.out.pop htd)
   rw[hp] at HPI
   have HPP:=Lib.hid hp
   obtain⟨tl,htl⟩:∃tl,c.todo.length=tl:=⟨_,rfl⟩
   rw[htl] at t0 hpos
   have dl:decide (0<(tl:Int))=true:=by simp;omega
   by_cases hsn:c.seen.getD k false=true
   ·rw[if_pos hsn] at hl
    have HL2:=Lib.hid hl
    clear hl htl hp hpk hx
    go_wp2_with (go_at_call 84;refine HP.out.mono ?_;rintro e w1 ⟨rfl,ht1,hf1⟩;have hF1:=HF.out.pop (by rw[HPP.out];exact ht1) hf1;rw[HPP.out] at hF1;obtain⟨q1,_⟩:=hF1.seenAt hkn;simp only at q1;rw[hsn] at q1;simp only[seenV,if_true] at q1;have HF1:=Lib.hid hF1;clear hF1 ht1 hf1;try dsimp only)
    go_roundg gf
    case rel=>exact⟨g,cap,T,_,HF1,Lib.hid HPI.out.1,by have:=HPI.out.2;omega,by omega,HL2⟩
    case measure=>omega
   ·have hsn2:c.seen.getD k false=false:=by simpa using hsn
    rw[if_neg hsn] at hl
    have hcell:=ins_at HC.out hx
    have hfx:=HFI.out k x hx
    have hxc:=HCN.out x (List.mem_of_getElem? hx)
    have HLK:=Lib.hid (HPI.out.1.look (k:=k) (by rw[HLN.out];exact hkn) hsn2)
    obtain⟨c2,hc2⟩:∃c2:Cst,({c with todo:=r,seen:=c.seen.set k true}:Cst)=c2:=⟨_,rfl⟩
    have hc2':({({c with todo:=r}:Cst) with seen:=c.seen.set k true}:Cst)=c2:=hc2
    have hat2:c2.at_.getD k none=some s:=by rw[←hc2];exact hs
    rw[hc2,round_eq hx hat2] at hl
    rw[hc2'] at HLK
    have hmu3:c2.mu+4=c.mu:=by
     have h1:({c with todo:=r}:Cst).mu+1=c.mu:=HPI.out.2
     have h2:c2.mu+3=({c with todo:=r}:Cst).mu:=HLK.out.2
     omega
    have hm2:c2.todo.length≤c2.mu:=by unfold Cst.mu;omega
    have hIR:=HLK.out.1.round HFI.out k
    rw[round_eq hx hat2] at hIR
    have HIR:=Lib.hid hIR
    have hs3:s.length≤30000:=HF.out.deep k s hs
    have HFX:=Lib.hid hfx
    have HXC:=Lib.hid hxc
    have HL2:=Lib.hid hl
    have HPCL:Hid (∀ {W:World},FtAt w0 (s0+1) (s0+1+1) (s0+1+1+1+1) n g cap T {c with todo:=r} W→FtAt w0 (s0+1) (s0+1+1) (s0+1+1+1+1) n g cap T c2 (W.setCell ⟨s0+1+1,k,none⟩ (.int .i64 1))):=Lib.hid fun h=>by
     have:=h.look hkn
     rw[←hc2]
     exact this
    have HCELL:=Lib.hid hcell
    have hcne:(ca=s0+1+1)=False:=by simp;omega
    have hsne:(s0=s0+1+1)=False:=eq_false (by omega)
    clear hl htl hp hpk hx hfx hxc hc2 hc2' hIR hcell
    go_upto_region 10 with(go_at_call 84;refine HP.out.mono ?_;rintro e w1 ⟨rfl,ht1,hf1⟩;have hF1:=HF.out.pop (by rw[HPP.out];exact ht1) hf1;rw[HPP.out] at hF1;obtain⟨q1,q2⟩:=hF1.seenAt hkn;simp only at q1;rw[hsn2] at q1;simp only[seenV,Bool.false_eq_true,if_false] at q1;have hk1:=fun i (hi:i<w0.heap.size)=>hF1.below.block i hi;have u5:w1.cell? ⟨s0,5,none⟩=some (.slice (some ⟨ca,o,none⟩) n v.cc):=cell_of_row w1 s0 5 _ _ _ ((hk1 s0 (by omega)).trans HW0.out);have hcx:∀j,w1.cell? ⟨ca,j,none⟩=w.cell? ⟨ca,j,none⟩:=fun j=>World.cell?_of_block (w:=w) (a:=⟨ca,j,none⟩) ((hk1 ca (by omega)).trans (HBW.out.block ca hcb));obtain⟨x0,x1,x2,x3,x4⟩:=HCELL.out;rw[←hcx] at x0 x1 x2 x3 x4;have HF1:=Lib.hid hF1;clear hF1 ht1 hf1 hk1 hcx;try dsimp only)
    have hF2:=HPCL.out HF1.out
    have hF3:=hF2.alloc (.cells #[.int .i64 x.op,.int .i64 x.a,.int .i64 x.b,.string x.text,.int .i64 x.at_] 36 (0,0))
    have hxr:=heap_alloc_new (w1.setCell ⟨s0+1+1,k,none⟩ (.int .i64 1)) (.cells #[.int .i64 x.op,.int .i64 x.a,.int .i64 x.b,.string x.text,.int .i64 x.at_] 36 (0,0))
    obtain⟨xb,hxb⟩:∃xb,(w1.setCell ⟨s0+1+1,k,none⟩ (.int .i64 1)).heap.size=xb:=⟨_,rfl⟩
    have hxb1:w1.heap.size=xb:=by rw[←hxb];simp
    have hxn:∀s,(xb,s) ∉ T:=fun s hs=>by have:=(hF2.stk.node _ s hs).2.1;omega
    obtain⟨l1,l2,l3,l4⟩:=hF2.alt
    have hxne:xb≠s0+1∧xb≠s0+1+1+1+1∧xb≠g:=by omega
    rw[hxb] at hxr
    obtain⟨W3,hW3⟩:∃W3,(w1.setCell ⟨s0+1+1,k,none⟩ (.int .i64 1)).alloc (.cells #[.int .i64 x.op,.int .i64 x.a,.int .i64 x.b,.string x.text,.int .i64 x.at_] 36 (0,0))=W3:=⟨_,rfl⟩
    rw[hW3] at hxr hF3
    simp only[hW3,hxb1]
    have hxlt:xb<W3.heap.size:=(Array.getElem?_eq_some_iff.1 hxr).1
    obtain⟨y0,y1,y2,y3,y4⟩:=cr5 W3 xb hxr
    simp only[gq] at y0 y1 y2 y3 y4
    obtain⟨va,a0,hva,_⟩:=hF3.at_ (k:=k) (by omega)
    rw[hat2] at hva
    obtain⟨bk,rfl,hbk⟩:=hva
    have HF3:=Lib.hid hF3
    have HXR:=Lib.hid hxr
    clear hF2 hF3 hxr hW3 hxb hxb1 x0 x1 x2 x3 x4 u5 l1 l2 l3 l4 q1 q2 HP t0 dl
    have hbd:((k:Int)<(n:Int)+1)=True:=eq_true (by omega)
    have HDR:Hid (FtAt w0 (s0+1) (s0+1+1) (s0+1+1+1+1) n g cap T c2 W3.drew):=Lib.hid (HF3.out.under ⟨rfl,rfl,rfl,Nat.le_refl _,fun _ _=>rfl⟩)
    cases hlv:leavesP x s with
    |none=>
     rw[hlv] at HL2
     have hR2:R=some (k:Int):=HL2.out.symm
     have HR2:=Lib.hid hR2
     clear hR2
     refine wp_region_G [] (fun y=>y.cell? ⟨xb,0,none⟩=some (.int .i64 x.op)∧y.cell? ⟨xb,1,none⟩=some (.int .i64 x.a)∧y.cell? ⟨xb,2,none⟩=some (.int .i64 x.b)∧y.cell? ⟨xb,3,none⟩=some (.string x.text)∧y.cell? ⟨xb,4,none⟩=some (.int .i64 x.at_)∧y.cell? ⟨s0+1,k,none⟩=some (.pointer (some ⟨bk,0,none⟩))) (by rfl) ?_ (fun hHeld=> ?_)
     ·exact⟨y0,y1,y2,y3,y4,a0⟩
     refine tk 0 (h:=tk 1 (h:=tk 2 (h:=tk 3 (h:=tk 4 (h:= ?_)))))
     try simp only[nmC]
     refine rd1 5 fun KK hKK=> ?_
     go_simp
     go_at_call 85
     refine(leaves_any HXC.out HFX.out.count HDR.out.stk hbk hs3).mono ?_
     intro e w5 hpost
     rw[hlv] at hpost
     obtain⟨T5,hs5,hsub5,hnew5,hf5,hres⟩:=hpost
     obtain⟨vb,rfl⟩:=hres
     have hF5:=HDR.out.more hs5 hsub5 hnew5 hf5
     have hxr5:=(hf5.block xb hxlt (fun⟨s,hs⟩=>hxn s hs)).trans HXR.out
     obtain⟨z0,z1,z2,z3,z4⟩:=cr5 w5 xb hxr5
     simp only[gq] at z0 z1 z2 z3 z4
     obtain⟨va,z5,hva,_⟩:=hF5.at_ (k:=k) (by omega)
     rw[hat2] at hva
     obtain⟨bk5,rfl,hbk5⟩:=hva
     obtain rfl:=hs5.one _ _ _ (hsub5 _ hbk) hbk5
     have HF5:=Lib.hid hF5
     have HXR5:=Lib.hid hxr5
     have hxl5:=Nat.lt_of_lt_of_le hxlt hf5.size
     clear hF5 hxr5 hs5 hf5 hbk5
     try dsimp only
     refine hKK.out _ _ (⟨z0,z1,z2,z3,z4,z5⟩) (fun hHeld=> ?_)
     clear hKK KK
     try simp only[nmC]
     refine tk 6 (h:=tk 7 (h:=tk 8 (h:=tk 9 (h:=tk 10 (h:= ?_)))))
     try simp only[nmC]
     refine wpAnyG_done (by kernel_rfl) ?_ _
     go_wp2_with fail
     try rw[Exit.noGoto_ret]
     go_ret
     rw[HR2.out]
     exact⟨rfl,HBW.out.trans (HF5.out.below.mono hwl)⟩
    |some pr=>
     obtain⟨nx,th⟩:=pr
     obtain⟨hn3,ht3⟩:=leaves_len hlv hs3
     rw[hlv] at HL2 HIR
     have hl:=HL2.out
     have hir:=HIR.out
     dsimp only at hl hir
     refine wp_region_G [] (fun y=>y.cell? ⟨xb,0,none⟩=some (.int .i64 x.op)∧y.cell? ⟨xb,1,none⟩=some (.int .i64 x.a)∧y.cell? ⟨xb,2,none⟩=some (.int .i64 x.b)∧y.cell? ⟨xb,3,none⟩=some (.string x.text)∧y.cell? ⟨xb,4,none⟩=some (.int .i64 x.at_)∧y.cell? ⟨s0+1,k,none⟩=some (.pointer (some ⟨bk,0,none⟩))) (by rfl) ?_ (fun hHeld=> ?_)
     ·exact⟨y0,y1,y2,y3,y4,a0⟩
     refine tk 0 (h:=tk 1 (h:=tk 2 (h:=tk 3 (h:=tk 4 (h:= ?_)))))
     try simp only[nmC]
     refine rd1 5 fun KK hKK=> ?_
     go_simp
     go_at_call 85
     refine(leaves_any HXC.out HFX.out.count HDR.out.stk hbk hs3).mono ?_
     intro e w5 hpost
     rw[hlv] at hpost
     obtain⟨T5,hs5,hsub5,hnew5,hf5,hres⟩:=hpost
     obtain⟨ga,gb,rfl,hga,hgb⟩:=hres
     have hF5:=HDR.out.more hs5 hsub5 hnew5 hf5
     have hxr5:=(hf5.block xb hxlt (fun⟨s,hs⟩=>hxn s hs)).trans HXR.out
     obtain⟨z0,z1,z2,z3,z4⟩:=cr5 w5 xb hxr5
     simp only[gq] at z0 z1 z2 z3 z4
     obtain⟨va,z5,hva,_⟩:=hF5.at_ (k:=k) (by omega)
     rw[hat2] at hva
     obtain⟨bk5,rfl,hbk5⟩:=hva
     obtain rfl:=hs5.one _ _ _ (hsub5 _ hbk) hbk5
     have HF5:=Lib.hid hF5
     have HXR5:=Lib.hid hxr5
     have hxl5:=Nat.lt_of_lt_of_le hxlt hf5.size
     clear hF5 hxr5 hs5 hf5 hbk5
     try dsimp only
     refine hKK.out _ _ (⟨z0,z1,z2,z3,z4,z5⟩) (fun hHeld=> ?_)
     clear hKK KK
     try simp only[nmC]
     refine tk 6 (h:=tk 7 (h:=tk 8 (h:=tk 9 (h:=tk 10 (h:= ?_)))))
     try simp only[nmC]
     refine wpAnyG_done (by kernel_rfl) ?_ _
     have hq0:c2.todo.length≤900000:=by omega
     by_cases h34:x.op=34
     ·have e1:(x.op !=34)=false:=by simp[h34]
      have hgo:goesB x.op=true:=by rw[h34];decide
      simp only[if_pos (Or.inl h34:x.op=34∨x.op=50),hgo,if_true,Bool.true_eq_false,if_false] at hl hir
      obtain⟨hxa0,hxa1⟩:=HFX.out.goes hgo
      rw[HLN.out] at hxa1
      obtain⟨xa,hxa⟩:=Int.eq_ofNat_of_zero_le hxa0
      have hxan:xa≤n:=by omega
      rw[hxa,Int.toNat_natCast] at hl hir
      obtain⟨c4,b4,h4⟩:∃c4 b4,handP c2 xa th=(c4,b4):=⟨_,_,rfl⟩
      rw[h4] at hl hir
      dsimp only at hl hir
      clear h34
      cases b4 with
      |false=>
       have hR2:R=some (xa:Int):=by rw[if_pos rfl] at hl;exact hl.symm
       have HR2:=Lib.hid hR2
       clear hR2 hl hir
       go_wp2_with (first
        |(go_at_call 83;refine(goes_any _ _).mono ?_;rintro e w7 ⟨rfl,hb7⟩;rw[hgo];have hF7:=HF5.out.under hb7;have hxr7:=(hb7.block xb hxl5).trans HXR5.out;have r0:=cell_of_row w7 xb 0 _ _ _ hxr7;have r1:=cell_of_row w7 xb 1 _ _ _ hxr7;simp only[gq] at r0 r1;rw[hxa] at r1;have HH7:=Lib.hid (hand_any hF7 (k:=xa) hxan hgb ht3 hq0);rw[h4] at HH7;dsimp only at HH7;have hs7:=hb7.size;clear hb7 hF7)
        |(go_at_call 86;refine HH7.out.mono ?_;rintro e w8 ⟨rfl,⟨g8,cap8,hF8,_⟩,hfo8⟩;have hr8:=(World.cell?_of_block (w:=w7) (a:=⟨xb,1,none⟩) (hfo8.block xb (Nat.lt_of_lt_of_le hxl5 hs7) (by rintro(e|e|e);exact hxne.1 e;exact hxne.2.1 e;exact hxne.2.2 e))).trans r1;have HF8:=Lib.hid hF8;clear hF8 hfo8))
       try rw[Exit.noGoto_ret]
       go_ret
       rw[HR2.out]
       exact⟨rfl,HBW.out.trans (HF8.out.below.mono hwl)⟩
      |true=>
       simp only[Bool.true_eq_false,if_false] at hl hir
       have HLZ:=Lib.hid hl
       have HIZ:=Lib.hid (hir trivial)
       clear hl hir
       go_wp2_with (first
        |(go_at_call 83;refine(goes_any _ _).mono ?_;rintro e w7 ⟨rfl,hb7⟩;rw[hgo];have hF7:=HF5.out.under hb7;have hxr7:=(hb7.block xb hxl5).trans HXR5.out;have r0:=cell_of_row w7 xb 0 _ _ _ hxr7;have r1:=cell_of_row w7 xb 1 _ _ _ hxr7;simp only[gq] at r0 r1;rw[hxa] at r1;have HH7:=Lib.hid (hand_any hF7 (k:=xa) hxan hgb ht3 hq0);rw[h4] at HH7;dsimp only at HH7;have hs7:=hb7.size;clear hb7 hF7)
        |(go_at_call 86;refine HH7.out.mono ?_;rintro e w8 ⟨rfl,⟨g8,cap8,hF8,_⟩,hfo8⟩;have hr8:=(World.cell?_of_block (w:=w7) (a:=⟨xb,1,none⟩) (hfo8.block xb (Nat.lt_of_lt_of_le hxl5 hs7) (by rintro(e|e|e);exact hxne.1 e;exact hxne.2.1 e;exact hxne.2.2 e))).trans r1;have HF8:=Lib.hid hF8;clear hF8 hfo8))
       go_roundg gf
       case rel=>exact⟨g8,cap8,T5,c4,HF8,Lib.hid HIZ.out.1,by have:=HIZ.out.2;omega,by omega,HLZ⟩
       case measure=>omega
     ·have e1:(x.op !=34)=true:=by simp[h34]
      by_cases h50:x.op=50
      ·have e2:(x.op !=50)=false:=by simp[h50]
       have hgo:goesB x.op=false:=by rw[h50];decide
       simp only[if_pos (Or.inr h50:x.op=34∨x.op=50),hgo,if_false,Bool.true_eq_false,Bool.false_eq_true] at hl hir
       have HLZ:=Lib.hid hl
       have HIZ:=Lib.hid (hir trivial)
       clear hl hir h34 h50
       go_wp2_with (go_at_call 83;refine(goes_any _ _).mono ?_;rintro e w6 ⟨rfl,hb6⟩;rw[hgo];have HF6:=Lib.hid (HF5.out.under hb6))
       go_roundg gf
       case rel=>exact⟨g,cap,T5,c2,HF6,Lib.hid HIZ.out.1,by omega,by omega,HLZ⟩
       case measure=>omega
      ·have e2:(x.op !=50)=true:=by simp[h50]
       have hj:¬(x.op=34∨x.op=50):=by rintro(e|e);exact h34 e;exact h50 e
       have hlast:=HFX.out.last h34 h50
       rw[HLN.out] at hlast
       simp only[if_neg hj] at hl hir
       have hh1:=(HLK.out.1.hand (k:=k+1) (by rw[HLN.out];omega) nx).2
       obtain⟨c3,b3,h3⟩:∃c3 b3,handP c2 (k+1) nx=(c3,b3):=⟨_,_,rfl⟩
       have HH:=Lib.hid (hand_any HF5.out (k:=k+1) (by omega) hga hn3 hq0)
       rw[h3] at HH hl hir hh1
       dsimp only at HH hl hir hh1
       have hq1:c3.todo.length≤900000:=Nat.le_trans (show c3.todo.length≤c3.mu by unfold Cst.mu;omega) (by omega)
       clear h34 h50 hj h3
       cases b3 with
       |false=>
        have hR2:R=some ((k:Int)+1):=by rw[if_pos rfl] at hl;exact hl.symm
        have HR2:=Lib.hid hR2
        clear hR2 hl hir
        go_wp2_with (go_at_call 86;refine HH.out.mono ?_;rintro e w6 ⟨rfl,⟨g6,cap6,hF6,hgn6⟩,hfo6⟩;have HF6:=Lib.hid hF6;clear hF6 hfo6)
        try rw[Exit.noGoto_ret]
        go_ret
        rw[HR2.out]
        exact⟨rfl,HBW.out.trans (HF6.out.below.mono hwl)⟩
       |true=>
        simp only[Bool.true_eq_false,if_false] at hl hir
        cases hgo:goesB x.op with
        |false=>
         simp only[hgo,Bool.false_eq_true,if_false,Bool.true_eq_false] at hl hir
         have HLZ:=Lib.hid hl
         have HIZ:=Lib.hid (hir trivial)
         clear hl hir
         go_wp2_with (first
          |(go_at_call 86;refine HH.out.mono ?_;rintro e w6 ⟨rfl,⟨g6,cap6,hF6,hgn6⟩,hfo6⟩;have hxr6:=(hfo6.block xb hxl5 (by rintro(e|e|e);exact hxne.1 e;exact hxne.2.1 e;exact hxne.2.2 e)).trans HXR5.out;have p0:=cell_of_row w6 xb 0 _ _ _ hxr6;simp only[List.getElem?_toArray,List.getElem?_cons_zero] at p0;have hxl6:=Nat.lt_of_lt_of_le hxl5 hfo6.size;have hg6:xb≠g6:=(by have:=hxne.2.2;rcases hgn6 with e|e<;>omega);have HXR6:=Lib.hid hxr6;have HF6:=Lib.hid hF6;clear hF6 hxr6 hfo6)
          |(go_at_call 83;refine(goes_any _ _).mono ?_;rintro e w7 ⟨rfl,hb7⟩;rw[hgo];have HF7:=Lib.hid (HF6.out.under hb7)))
         go_roundg gf
         case rel=>exact⟨g6,cap6,T5,c3,HF7,Lib.hid HIZ.out.1,by have:=HIZ.out.2;omega,by omega,HLZ⟩
         case measure=>omega
        |true=>
         obtain⟨hxa0,hxa1⟩:=HFX.out.goes hgo
         rw[HLN.out] at hxa1
         obtain⟨xa,hxa⟩:=Int.eq_ofNat_of_zero_le hxa0
         have hxan:xa≤n:=by omega
         simp only[hgo,if_true] at hl hir
         rw[hxa,Int.toNat_natCast] at hl hir
         obtain⟨c4,b4,h4⟩:∃c4 b4,handP c3 xa th=(c4,b4):=⟨_,_,rfl⟩
         rw[h4] at hl hir
         dsimp only at hl hir
         cases b4 with
         |false=>
          have hR2:R=some (xa:Int):=by rw[if_pos rfl] at hl;exact hl.symm
          have HR2:=Lib.hid hR2
          clear hR2 hl hir
          go_wp2_with (first
           |(go_at_call 83;refine(goes_any _ _).mono ?_;rintro e w7 ⟨rfl,hb7⟩;rw[hgo];have hF7:=HF6.out.under hb7;have hxr7:=(hb7.block xb hxl6).trans HXR6.out;have r0:=cell_of_row w7 xb 0 _ _ _ hxr7;have r1:=cell_of_row w7 xb 1 _ _ _ hxr7;simp only[gq] at r0 r1;rw[hxa] at r1;have HH7:=Lib.hid (hand_any hF7 (k:=xa) hxan hgb ht3 hq1);rw[h4] at HH7;dsimp only at HH7;have hs7:=hb7.size;clear hb7 hF7)
           |(go_at_call 86;first|(refine HH7.out.mono ?_;rintro e w8 ⟨rfl,⟨g8,cap8,hF8,_⟩,hfo8⟩;have hr8:=(World.cell?_of_block (w:=w7) (a:=⟨xb,1,none⟩) (hfo8.block xb (Nat.lt_of_lt_of_le hxl6 hs7) (by rintro(e|e|e);exact hxne.1 e;exact hxne.2.1 e;exact hg6 e))).trans r1;have HF8:=Lib.hid hF8;clear hF8 hfo8)|(refine HH.out.mono ?_;rintro e w6 ⟨rfl,⟨g6,cap6,hF6,hgn6⟩,hfo6⟩;have hxr6:=(hfo6.block xb hxl5 (by rintro(e|e|e);exact hxne.1 e;exact hxne.2.1 e;exact hxne.2.2 e)).trans HXR5.out;have p0:=cell_of_row w6 xb 0 _ _ _ hxr6;simp only[List.getElem?_toArray,List.getElem?_cons_zero] at p0;have hxl6:=Nat.lt_of_lt_of_le hxl5 hfo6.size;have hg6:xb≠g6:=(by have:=hxne.2.2;rcases hgn6 with e|e<;>omega);have HXR6:=Lib.hid hxr6;have HF6:=Lib.hid hF6;clear hF6 hxr6 hfo6)))
          try rw[Exit.noGoto_ret]
          go_ret
          rw[HR2.out]
          exact⟨rfl,HBW.out.trans (HF8.out.below.mono hwl)⟩
         |true=>
          simp only[Bool.true_eq_false,if_false] at hl hir
          have HLZ:=Lib.hid hl
          have HIZ:=Lib.hid (hir trivial)
          clear hl hir
          go_wp2_with (first
           |(go_at_call 83;refine(goes_any _ _).mono ?_;rintro e w7 ⟨rfl,hb7⟩;rw[hgo];have hF7:=HF6.out.under hb7;have hxr7:=(hb7.block xb hxl6).trans HXR6.out;have r0:=cell_of_row w7 xb 0 _ _ _ hxr7;have r1:=cell_of_row w7 xb 1 _ _ _ hxr7;simp only[gq] at r0 r1;rw[hxa] at r1;have HH7:=Lib.hid (hand_any hF7 (k:=xa) hxan hgb ht3 hq1);rw[h4] at HH7;dsimp only at HH7;have hs7:=hb7.size;clear hb7 hF7)
           |(go_at_call 86;first|(refine HH7.out.mono ?_;rintro e w8 ⟨rfl,⟨g8,cap8,hF8,_⟩,hfo8⟩;have hr8:=(World.cell?_of_block (w:=w7) (a:=⟨xb,1,none⟩) (hfo8.block xb (Nat.lt_of_lt_of_le hxl6 hs7) (by rintro(e|e|e);exact hxne.1 e;exact hxne.2.1 e;exact hg6 e))).trans r1;have HF8:=Lib.hid hF8;clear hF8 hfo8)|(refine HH.out.mono ?_;rintro e w6 ⟨rfl,⟨g6,cap6,hF6,hgn6⟩,hfo6⟩;have hxr6:=(hfo6.block xb hxl5 (by rintro(e|e|e);exact hxne.1 e;exact hxne.2.1 e;exact hxne.2.2 e)).trans HXR5.out;have p0:=cell_of_row w6 xb 0 _ _ _ hxr6;simp only[List.getElem?_toArray,List.getElem?_cons_zero] at p0;have hxl6:=Nat.lt_of_lt_of_le hxl5 hfo6.size;have hg6:xb≠g6:=(by have:=hxne.2.2;rcases hgn6 with e|e<;>omega);have HXR6:=Lib.hid hxr6;have HF6:=Lib.hid hF6;clear hF6 hxr6 hfo6)))
          go_roundg gf
          case rel=>exact⟨g8,cap8,T5,c4,HF8,Lib.hid HIZ.out.1,by have:=HIZ.out.2;omega,by omega,HLZ⟩
          case measure=>omega
end Go.Proofs.YtagnicbknbmccaaGreatDoor
