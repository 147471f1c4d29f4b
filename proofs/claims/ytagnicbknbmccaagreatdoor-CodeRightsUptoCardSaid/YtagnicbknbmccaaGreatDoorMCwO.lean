/- code.hand. code.numbered. code.says where nothing may stand, code.fine. strconv.ParseUint at the base sixteen; code.float. -/
import Derived.LaidEqlPtr
import Derived.Test.YtagnicbknbmccaaGreatDoorMCwH
import Derived.Test.YtagnicbknbmccaaGreatDoorMCwB
import Derived.Test.YtagnicbknbmccaaGreatDoorMScanA
import Derived.Test.YtagnicbknbmccaaGreatDoorSqC
import Derived.Test.YtagnicbknbmccaaGreatDoorMCyA
import Derived.Test.YtagnicbknbmccaaGreatDoorMCwG
import Derived.Test.YtagnicbknbmccaaGreatDoorCwT
set_option maxRecDepth 100000
set_option maxHeartbeats 4000000
namespace Go.Proofs.YtagnicbknbmccaaGreatDoor
open Go.RowKit
def seenV (b:Bool):Value:= .int .i64 (if b then 1 else 0)
structure FtAt (w0:World) (ab sb tb n g cap:Nat) (T:Tab) (c:Cst) (W:World):Prop where
 below:Below w0.heap.size w0 W
 stk:Stk 125 W w0.heap.size T
 atr:∃vs:List Value,W.heap[ab]? =some (.cells vs.toArray 122 (0,0))∧vs.length=n+1∧∀j,j≤n→∃v,vs[j]? =some v∧StkOr T (c.at_.getD j none) v
 seen:W.heap[sb]? =some (.cells (c.seen.map seenV).toArray 3 (0,0))
 todo:TodoAt w0.heap.size tb g cap c.todo W
 la:c.at_.length=n+1
 ls:c.seen.length=n
 lo:w0.heap.size≤ab∧w0.heap.size≤sb∧w0.heap.size≤tb
 ne:ab≠sb∧ab≠tb∧ab≠g∧sb≠tb∧sb≠g
 nn:∀s,(ab,s) ∉ T∧(sb,s) ∉ T∧(tb,s) ∉ T∧(g,s) ∉ T
 deep:∀j s,c.at_.getD j none=some s→s.length≤30000
section
variable {w0 W W1 W':World} {ab sb tb n g cap:Nat} {T T':Tab} {c:Cst}
theorem FtAt.alt (h:FtAt w0 ab sb tb n g cap T c W):ab<W.heap.size∧sb<W.heap.size∧tb<W.heap.size∧g<W.heap.size:=by
 obtain⟨vs,h1,_⟩:=h.atr
 exact⟨(Array.getElem?_eq_some_iff.1 h1).1,(Array.getElem?_eq_some_iff.1 h.seen).1,(Array.getElem?_eq_some_iff.1 h.todo.box).1,own_blk h.todo.own⟩
theorem FtAt.at_ (h:FtAt w0 ab sb tb n g cap T c W) {k:Nat} (hk:k≤n):∃v,W.cell? ⟨ab,k,none⟩=some v∧StkOr T (c.at_.getD k none) v∧W.frozen? ⟨ab,k,none⟩=false:=by
 obtain⟨vs,h1,h2,h3⟩:=h.atr
 obtain⟨v,hv,hs⟩:=h3 k hk
 exact⟨v,(cell_of_row W ab k _ _ _ h1).trans (by simpa using hv),hs,frozen_of_row W ab k _ _ h1⟩
theorem FtAt.seenAt (h:FtAt w0 ab sb tb n g cap T c W) {k:Nat} (hk:k<n):W.cell? ⟨sb,k,none⟩=some (seenV (c.seen.getD k false))∧W.frozen? ⟨sb,k,none⟩=false:=by
 refine⟨(cell_of_row W sb k _ _ _ h.seen).trans ?_,frozen_of_row W sb k _ _ h.seen⟩
 have:k<c.seen.length:=by rw[h.ls];exact hk
 simp[List.getD_eq_getElem?_getD,List.getElem?_eq_getElem this]
theorem FtAt.more (h:FtAt w0 ab sb tb n g cap T c W) (hs:Stk 125 W' w0.heap.size T') (hsub:∀y∈T,y∈T') (hnew:∀y∈T',y∈T∨W.heap.size≤y.1) (hf:Foot W.heap.size (fun k=>∃s,(k,s)∈T) W W'):FtAt w0 ab sb tb n g cap T' c W':=by
 obtain⟨l1,l2,l3,l4⟩:=h.alt
 have hn:∀k,k<W.heap.size→(∀s,(k,s) ∉ T)→(∀s,(k,s) ∉ T'):=fun k hk hn s hs=>by
  rcases hnew _ hs with hs|hs
  ·exact hn s hs
  ·exact absurd hk (Nat.not_lt.2 hs)
 have hk:∀k,k<W.heap.size→(∀s,(k,s) ∉ T)→W'.heap[k]? =W.heap[k]? :=fun k hk hn=>hf.block k hk (fun⟨s,hs⟩=>hn s hs)
 obtain⟨vs,h1,h2,h3⟩:=h.atr
 have hn':=h.nn
 refine⟨h.below.trans (hf.to (C:=w0.heap.size) h.below.size fun k ⟨s,hs⟩=>(h.stk.node k s hs).1),hs,⟨vs,(hk ab l1 fun s=>(hn' s).1).trans h1,h2,fun j hj=> ?_⟩,(hk sb l2 fun s=>(hn' s).2.1).trans h.seen,h.todo.keep (hk tb l3 fun s=>(hn' s).2.2.1) (hk g l4 fun s=>(hn' s).2.2.2),h.la,h.ls,h.lo,h.ne,fun s=>⟨hn ab l1 (fun s=>(hn' s).1) s,hn sb l2 (fun s=>(hn' s).2.1) s,hn tb l3 (fun s=>(hn' s).2.2.1) s,hn g l4 (fun s=>(hn' s).2.2.2) s⟩,h.deep⟩
 obtain⟨v,hv,hs⟩:=h3 j hj
 refine⟨v,hv, ?_⟩
 revert hs
 cases c.at_.getD j none with
 |none=>exact id
 |some s=>rintro⟨b,e,hb⟩;exact⟨b,e,hsub _ hb⟩
theorem FtAt.hand (h:FtAt w0 ab sb tb n g cap T c W) {k b g' cap':Nat} {s:List UInt8} (hk:k≤n) (hb:(b,s)∈T) (hs:s.length≤30000)
  (ht:TodoAt w0.heap.size tb g' cap' (pushL c.todo k) W') (hg:g'=g∨(W.setCell ⟨ab,k,none⟩ (.pointer (some ⟨b,0,none⟩))).heap.size≤g')
  (hf:Foot (W.setCell ⟨ab,k,none⟩ (.pointer (some ⟨b,0,none⟩))).heap.size (fun k=>k=tb∨k=g) (W.setCell ⟨ab,k,none⟩ (.pointer (some ⟨b,0,none⟩))) W'):
  FtAt w0 ab sb tb n g' cap' T {c with at_:=c.at_.set k (some s),todo:=pushL c.todo k} W':=by
 obtain⟨l1,l2,l3,l4⟩:=h.alt
 obtain⟨vs,h1,h2,h3⟩:=h.atr
 have hsz:(W.setCell ⟨ab,k,none⟩ (.pointer (some ⟨b,0,none⟩))).heap.size=W.heap.size:=by simp
 rw[hsz] at hg hf
 have hfs:=hf.size
 rw[hsz] at hfs
 obtain⟨n1,n2,n3,n4,n5⟩:=h.ne
 have hn':=h.nn
 have hk2:∀i,i<W.heap.size→i≠ab→i≠tb→i≠g→W'.heap[i]? =W.heap[i]? :=fun i hi e1 e2 e3=>(hf.block i hi (by rintro(e|e);exact e2 e;exact e3 e)).trans (Below.heap_setCell W _ _ _ e1)
 have hab:W'.heap[ab]? =some (.cells (vs.set k (.pointer (some ⟨b,0,none⟩))).toArray 122 (0,0)):=by
  rw[hf.block ab l1 (by rintro(e|e);exact n2 e;exact n3 e),heap_setCell_same W ab k _ _ _ h1]
  simp
 have hge:w0.heap.size≤W.heap.size:=h.below.size
 have hg2:∀s,(g',s) ∉ T:=fun s hs=>by
  rcases hg with e|e
  ·rw[e] at hs;exact(hn' s).2.2.2 hs
  ·exact absurd (h.stk.node _ s hs).2.1 (Nat.not_lt.2 e)
 refine⟨⟨hf.os.trans h.below.os,hf.tape.trans h.below.tape,hf.output.trans h.below.output,Nat.le_trans hge hfs,fun i hi=> ?_⟩,h.stk.keep fun b s hb=> ?_,⟨vs.set k (.pointer (some ⟨b,0,none⟩)),hab,by simpa using h2,fun j hj=> ?_⟩,(hk2 sb l2 (Ne.symm n1) n4 n5).trans h.seen,ht,by simp only[List.length_set];exact h.la,h.ls,h.lo,⟨n1,n2, ?_,n4, ?_⟩,fun s=>⟨(hn' s).1,(hn' s).2.1,(hn' s).2.2.1,hg2 s⟩,fun j t=> ?_⟩
 ·have:=h.lo
  have:=h.todo.lo
  rw[hk2 i (by omega) (by omega) (by omega) (by omega)]
  exact h.below.block i hi
 ·have hn:=h.stk.node b s hb
  refine hk2 b hn.2.1 (fun e=>(hn' s).1 (e▸hb)) (fun e=>(hn' s).2.2.1 (e▸hb)) (fun e=>(hn' s).2.2.2 (e▸hb))
 ·obtain⟨v,hv,hs2⟩:=h3 j hj
  by_cases e:k=j
  ·subst e
   refine⟨.pointer (some ⟨b,0,none⟩),by rw[List.getElem?_set_self (by omega)], ?_⟩
   simp only[List.getD_eq_getElem?_getD]
   rw[List.getElem?_set_self (by rw[h.la];omega)]
   exact⟨b,rfl,hb⟩
  ·refine⟨v,by rw[List.getElem?_set_ne e];exact hv, ?_⟩
   simp only[List.getD_eq_getElem?_getD] at hs2⊢
   rw[List.getElem?_set_ne e]
   exact hs2
 ·rcases hg with e|e<;>omega
 ·rcases hg with e|e<;>omega
 ·intro ht
  by_cases e:k=j
  ·subst e
   simp only[List.getD_eq_getElem?_getD] at ht
   rw[List.getElem?_set_self (by rw[h.la];omega)] at ht
   simp only[Option.getD_some,Option.some.injEq] at ht
   rw[←ht];exact hs
  ·simp only[List.getD_eq_getElem?_getD] at ht
   rw[List.getElem?_set_ne e] at ht
   exact h.deep j t (by rw[List.getD_eq_getElem?_getD];exact ht)
end
theorem stackInfo:(Tryz.prog.info? 125).map (·.size)=some 6:=by kernel_rfl
theorem stack_eq {w:World} {B:Nat} {T:Tab} (h:Stk 125 w B T) {b b':Nat} {s s':List UInt8} (hb:(b,s)∈T) (hb':(b',s')∈T):
  (binOp .eql 122 (.pointer (some ⟨b,0,none⟩)) (.pointer (some ⟨b',0,none⟩))).run Tryz.prog w= .ok (.bool (s==s')) w:=by
 obtain⟨j,hj,hjs⟩:=Option.map_eq_some_iff.1 stackInfo
 by_cases e:b=b'
 ·subst e
  obtain rfl:=h.same _ _ _ hb hb'
  rw[run_eql_ptr_same w _ Tryz.underlying122 hj]
  simp
 ·obtain⟨_,_,_,_,_,_,h1,_⟩:=h.node b s hb
  obtain⟨_,_,_,_,_,_,h2,_⟩:=h.node b' s' hb'
  have hs:(s==s')=false:=by
   simp only[beq_eq_false_iff_ne,ne_eq]
   intro e2
   subst e2
   exact e (h.one _ _ _ hb hb')
  rw[run_eql_ptr_other w Tryz.underlying122 hj (by rw[hjs];decide) (fun e2=>e (by injection e2)) h1 h2,hs]
theorem getD_set {α:Type} {l:List (Option α)} {k:Nat} (hk:k<l.length) (v:Option α):(l.set k v).getD k none=v:=by
 rw[List.getD_eq_getElem?_getD,List.getElem?_set_self hk]
 rfl
theorem hand_any {w0 W:World} {ab sb tb n g cap:Nat} {T:Tab} {c:Cst} (h:FtAt w0 ab sb tb n g cap T c W) {k b:Nat} {s:List UInt8} (hk:k≤n) (hb:(b,s)∈T) (hs:s.length≤30000) (hl:c.todo.length≤900000):
  Calls Tryz.prog 86 #[.slice (some ⟨ab,0,none⟩) (n+1) (n+1),.pointer (some ⟨tb,0,none⟩),.int .i64 k,.pointer (some ⟨b,0,none⟩)] W fun e w'=>
   e= .returned (.bool (handP c k s).2)∧(∃g' cap',FtAt w0 ab sb tb n g' cap' T (handP c k s).1 w'∧(g'=g∨W.heap.size≤g'))∧Foot W.heap.size (fun i=>i=ab∨i=tb∨i=g) W w':=by
 obtain⟨v,k0,hv,f0⟩:=h.at_ hk
 have H:=Lib.hid h
 go_enter Tryz.func86,Tryz.ntmps86
 unfold handP
 cases hat:c.at_.getD k none with
 |none=>
  rw[hat] at hv
  obtain rfl:v= .pointer none:=hv
  have h1:TodoAt w0.heap.size tb g cap c.todo (W.setCell ⟨ab,k,none⟩ (.pointer (some ⟨b,0,none⟩))):=h.todo.keep (Below.heap_setCell W _ _ _ (Ne.symm h.ne.2.1)) (Below.heap_setCell W _ _ _ (Ne.symm h.ne.2.2.1))
  have HT:=Lib.hid h1
  have hlo:w0.heap.size≤(W.setCell ⟨ab,k,none⟩ (.pointer (some ⟨b,0,none⟩))).heap.size:=by simpa using h.below.size
  clear h h1 hat
  simp only
  go_wp2_with (go_at_call 129;refine(push_any HT.out k hl hlo).mono ?_;rintro e w1 ⟨rfl,g',cap',ht1,hg1,hf1⟩;have hF:=H.out.hand hk hb hs ht1 hg1 hf1;obtain⟨v2,k2,hv2,f2⟩:=hF.at_ hk;simp only at hv2;rw[getD_set (by rw[H.out.la];omega)] at hv2;obtain⟨b3,rfl,hb3⟩:=hv2;have q1:=stack_eq hF.stk hb3 hb;rw[beq_self_eq_true] at q1;have hfo:Foot W.heap.size (fun i=>i=ab∨i=tb∨i=g) W w1:=(Foot.set (g:=fun i=>i=ab∨i=tb∨i=g) (p:=⟨ab,k,none⟩) (Foot.refl W.heap.size _ W) (.inr (.inl rfl)) (.pointer (some ⟨b,0,none⟩))).trans (hf1.mono (by simp) fun i _ e=> .inr e);have HF:=Lib.hid hF;have hg2:g'=g∨W.heap.size≤g':=(by simpa using hg1);clear hF ht1 hf1 hg1 hb3)
  go_ret
  exact⟨rfl,⟨g',cap',HF.out,hg2⟩,hfo⟩
 |some t=>
  rw[hat] at hv
  obtain⟨b2,rfl,hb2⟩:=hv
  have q1:=stack_eq h.stk hb2 hb
  clear h hat
  simp only
  go_wp2_with fail
  go_ret
  exact⟨rfl,⟨g,cap,H.out,.inl rfl⟩,Foot.refl _ _ _⟩
def numbE (p:Cp) (f:Nat) (o:Cf) (x:Ci):Nat→Bool
 |0=>x.a==0
 |1=>decide (0≤x.a)&&decide (x.a<2)
 |2=>decide (0≤x.a)&&decide (x.a<3)
 |3=>decide (0≤x.a)&&decide (x.a<o.slots)
 |4=>decide (0≤x.a)&&decide (x.a<p.globals.length)
 |5=>decide (0≤x.a)&&decide (x.a<o.taken.length)
 |6=>decide (1≤x.a)&&decide (x.a≤7)
 |7=>decide (0≤x.a)&&decide (x.a<20001)
 |8=>decide (0≤x.a)&&decide (x.a<31)
 |9=>decide (0<x.a)&&(match p.funcs[x.a.toNat]? with
  |none=>false
  |some g=>g.around== -1||g.around==f)
 |10=>decide (0≤x.a)&&decide (x.a<o.code.length)
 |11=>x.a==2||x.a==3
 |_=>decide (0≤x.a)&&decide (x.a<0)
theorem numb_eq {p:Cp} {f:Nat} {o:Cf} (ho:p.funcs[f]? =some o) (x:Ci):numberedB p f x=numbE p f o x (formOf x.op).a:=by
 unfold numberedB
 rw[ho]
 generalize (formOf x.op).a=a
 unfold numbE
 rfl
theorem below3 (w:World) (o0 o1 o2:Obj):(((w.alloc o0).alloc o1).alloc o2).heap[w.heap.size]? =some o0∧(((w.alloc o0).alloc o1).alloc o2).heap[w.heap.size+1]? =some o1∧(((w.alloc o0).alloc o1).alloc o2).heap[w.heap.size+1+1]? =some o2∧Below w.heap.size w (((w.alloc o0).alloc o1).alloc o2)∧(((w.alloc o0).alloc o1).alloc o2).heap.size=w.heap.size+3:=by
 have e:(((w.alloc o0).alloc o1).alloc o2).heap=((w.heap.push o0).push o1).push o2:=rfl
 refine⟨?_, ?_, ?_, ?_, ?_⟩
 ·rw[e];simp[Array.getElem_push,Nat.add_assoc]
 ·rw[e];simp[Array.getElem_push,Nat.add_assoc]
 ·rw[e];simp[Array.getElem_push,Nat.add_assoc]
 ·exact(((Below.refl _ _).alloc (Nat.le_refl _) _).alloc (by simp) _).alloc (by simp;omega) _
 ·rw[e];simp
theorem numb_facts {w w4:World} {o0 o1 o2:Array Value} {t0 t1 t2:TypeId} (hA:(((w.alloc (.cells o0 t0 (0,0))).alloc (.cells o1 t1 (0,0))).alloc (.cells o2 t2 (0,0))).heap[w.heap.size]? =some (.cells o0 t0 (0,0))∧(((w.alloc (.cells o0 t0 (0,0))).alloc (.cells o1 t1 (0,0))).alloc (.cells o2 t2 (0,0))).heap[w.heap.size+1]? =some (.cells o1 t1 (0,0))∧(((w.alloc (.cells o0 t0 (0,0))).alloc (.cells o1 t1 (0,0))).alloc (.cells o2 t2 (0,0))).heap[w.heap.size+1+1]? =some (.cells o2 t2 (0,0))∧Below w.heap.size w (((w.alloc (.cells o0 t0 (0,0))).alloc (.cells o1 t1 (0,0))).alloc (.cells o2 t2 (0,0)))∧(((w.alloc (.cells o0 t0 (0,0))).alloc (.cells o1 t1 (0,0))).alloc (.cells o2 t2 (0,0))).heap.size=w.heap.size+3)
  (hb:Below (((w.alloc (.cells o0 t0 (0,0))).alloc (.cells o1 t1 (0,0))).alloc (.cells o2 t2 (0,0))).heap.size (((w.alloc (.cells o0 t0 (0,0))).alloc (.cells o1 t1 (0,0))).alloc (.cells o2 t2 (0,0))) w4):
  w4.cell? ⟨w.heap.size,0,none⟩=o0[0]? ∧w4.cell? ⟨w.heap.size,1,none⟩=o0[1]? ∧w4.cell? ⟨w.heap.size+1,1,none⟩=o1[1]? ∧w4.cell? ⟨w.heap.size+1+1,2,none⟩=o2[2]? ∧w4.cell? ⟨w.heap.size+1+1,3,none⟩=o2[3]? ∧w4.cell? ⟨w.heap.size+1+1,5,none⟩=o2[5]? ∧Below w.heap.size w w4:=by
 obtain⟨h1,h2,h3,h4,h5⟩:=hA
 rw[h5] at hb
 have k1:=(hb.block w.heap.size (by omega)).trans h1
 have k2:=(hb.block (w.heap.size+1) (by omega)).trans h2
 have k3:=(hb.block (w.heap.size+1+1) (by omega)).trans h3
 exact⟨cell_of_row w4 _ 0 _ _ _ k1,cell_of_row w4 _ 1 _ _ _ k1,cell_of_row w4 _ 1 _ _ _ k2,cell_of_row w4 _ 2 _ _ _ k3,cell_of_row w4 _ 3 _ _ _ k3,cell_of_row w4 _ 5 _ _ _ k3,h4.trans (hb.mono (by omega))⟩
attribute [local go_sem] fieldFm1
theorem numbered_any {p:Cp} {v:Value} {w:World} (hv:LiesC w w.heap.size p v) {f:Nat} {o:Cf} (ho:p.funcs[f]? =some o) (x:Ci):
  Calls Tryz.prog 81 #[v,.int .i64 f,insV x] w fun e w'=>e= .returned (.bool (numberedB p f x))∧Below w.heap.size w w':=by
 obtain⟨fa,fc,ga,gc,xs,h1,rfl,h3,h4,h5,h6,h7⟩:=hv
 have hfl:f<p.funcs.length:=(List.getElem?_eq_some_iff.1 ho).1
 obtain⟨y,hy⟩:∃y,xs[f]? =some y:=⟨_,List.getElem?_eq_getElem (by have:=congrArg List.length h1;simp at this;omega)⟩
 have hyo:y.1=o:=by
  have:(xs.map Prod.fst)[f]? =some y.1:=by simp[hy]
  rw[h1,ho] at this
  exact(Option.some.inj this).symm
 obtain⟨o',fv⟩:=y
 obtain rfl:o'=o:=hyo
 obtain⟨g,off,rfl,hg,hc⟩:=h3.at (by rw[flat_len fn_len];have:=congrArg List.length h1;simp at this;omega)
 obtain⟨c0,c1,c2,c3,c4,c5⟩:=fn_at hc hy
 have HC:=Lib.hid hc
 have H1:=Lib.hid h1
 have HF:=Lib.hid (forms_call x.op)
 have hle:=(forms_bytes x.op).2.2.2.2
 obtain⟨a,ha⟩:∃a,(formOf x.op).a=a:=⟨_,rfl⟩
 have HN:=Lib.hid (numb_eq ho x)
 obtain⟨F,hF⟩:∃F,formOf x.op=F:=⟨_,rfl⟩
 rw[hF] at HF ha hle HN
 rw[ha] at HF hle HN
 obtain⟨R,HR⟩:∃R,Hid (numberedB p f x=R):=⟨_,rfl⟩
 rw[HR.out] at HN⊢
 obtain⟨n,hn⟩:∃n,p.funcs.length=n:=⟨_,rfl⟩
 obtain⟨m,hm⟩:∃m,p.globals.length=m:=⟨_,rfl⟩
 have HLN:=Lib.hid hn
 have HM:=Lib.hid hm
 rw[hn] at hfl h5⊢
 rw[hm]
 simp only[insV]
 clear h1 h3 h4 h6 h7 hc hy ho hn hm hF ha
 go_enter Tryz.func81,Tryz.ntmps81
 have hcase:a=9∨(a=0∨a=1∨a=2∨a=3∨a=4∨a=5∨a=6∨a=7∨a=8∨a=10∨a=11):=by omega
 rcases hcase with rfl|hcase
 ·have hn:=HN.out
  simp only[numbE] at hn
  by_cases h0:0<x.a
  ·have e0:decide (0<x.a)=true:=decide_eq_true h0
   rw[e0,Bool.true_and] at hn
   obtain⟨xa,hxa⟩:=Int.eq_ofNat_of_zero_le (Int.le_of_lt h0)
   by_cases h1:x.a<n
   ·have e1:decide (x.a<(n:Int))=true:=decide_eq_true h1
    have hxl:xa<n:=by omega
    obtain⟨y2,hy2⟩:∃y2,xs[xa]? =some y2:=⟨_,List.getElem?_eq_getElem (by have:=congrArg List.length H1.out;simp at this;have:=HLN.out;omega)⟩
    obtain⟨o2,fv2⟩:=y2
    have ho2:p.funcs[xa]? =some o2:=by rw[←H1.out];simp[hy2]
    rw[hxa] at hn
    simp only[Int.toNat_natCast,ho2] at hn
    have hc4:=(fn_at HC.out hy2).2.2.2.2.1
    have HC4:=Lib.hid hc4
    have HN2:=Lib.hid hn
    have e2:decide (0<(xa:Int))=true:=by rw[←hxa];exact e0
    have e3:decide ((xa:Int)<(n:Int))=true:=by rw[←hxa];exact e1
    clear hn HN hy2 ho2 hc4 e0 e1 h0 h1
    rw[hxa]
    by_cases hm1:o2.around= -1
    ·have e4:(o2.around== -1)=true:=by simp[hm1]
     have e5:(o2.around==(f:Int))=false:=by first|(simp[hm1];done)|(simp[hm1];omega)
     clear hm1
     go_wp2_with (go_at_call 44;refine(HF.out _).mono ?_;rintro e w4 ⟨rfl,hb4⟩;have hA:=below3 w (.cells #[.slice (some ⟨g,off,none⟩) n fc,.slice ga m gc] 27 (0,0)) (.cells #[.int .i64 x.op,.int .i64 (xa:Int),.int .i64 x.b,.string x.text,.int .i64 x.at_] 36 (0,0)) (.cells #[.string o'.name,.int .i64 o'.params,.int .i64 o'.slots,.slice fv.ta o'.taken.length fv.tc,.int .i64 o'.around,.slice fv.ca o'.code.length fv.cc] 33 (0,0));have hB:=numb_facts hA hb4;simp only[gq] at hB;obtain⟨z0,z1,z2,z3,z4,z5,z6⟩:=hB;have HBW:=Lib.hid z6;have zc:=(World.cell?_of_block (w:=w) (a:=⟨g,off+xa*6+4,none⟩) (z6.block g hg)).trans HC4.out;clear z6 hA hb4)
     all_goals
      go_ret
      refine⟨ret_bool ?_,HBW.out⟩
      rw[HN2.out]
      try first|rfl|(simp[*];done)|(simp_all;done)|(simp_all;omega)|(rw[Bool.eq_iff_iff];simp;done)|(rw[Bool.eq_iff_iff];simp;omega)|(rw[Bool.eq_iff_iff];simp[*];done)|(rw[Bool.eq_iff_iff];simp[*];omega)
    ·have e4:(o2.around== -1)=false:=by simp[hm1]
     clear hm1
     go_wp2_with (go_at_call 44;refine(HF.out _).mono ?_;rintro e w4 ⟨rfl,hb4⟩;have hA:=below3 w (.cells #[.slice (some ⟨g,off,none⟩) n fc,.slice ga m gc] 27 (0,0)) (.cells #[.int .i64 x.op,.int .i64 (xa:Int),.int .i64 x.b,.string x.text,.int .i64 x.at_] 36 (0,0)) (.cells #[.string o'.name,.int .i64 o'.params,.int .i64 o'.slots,.slice fv.ta o'.taken.length fv.tc,.int .i64 o'.around,.slice fv.ca o'.code.length fv.cc] 33 (0,0));have hB:=numb_facts hA hb4;simp only[gq] at hB;obtain⟨z0,z1,z2,z3,z4,z5,z6⟩:=hB;have HBW:=Lib.hid z6;have zc:=(World.cell?_of_block (w:=w) (a:=⟨g,off+xa*6+4,none⟩) (z6.block g hg)).trans HC4.out;clear z6 hA hb4)
     all_goals
      go_ret
      refine⟨ret_bool ?_,HBW.out⟩
      rw[HN2.out]
      try first|rfl|(simp[*];done)|(simp_all;done)|(simp_all;omega)|(rw[Bool.eq_iff_iff];simp;done)|(rw[Bool.eq_iff_iff];simp;omega)|(rw[Bool.eq_iff_iff];simp[*];done)|(rw[Bool.eq_iff_iff];simp[*];omega)
   ·have e1:decide (x.a<(n:Int))=false:=decide_eq_false h1
    rw[List.getElem?_eq_none (by have:=HLN.out;omega)] at hn
    have HN2:=Lib.hid hn
    have e2:decide (0<(xa:Int))=true:=by rw[←hxa];exact e0
    have e3:decide ((xa:Int)<(n:Int))=false:=by rw[←hxa];exact e1
    have hge:n≤xa:=by omega
    clear hn HN e0 e1 h0 h1
    rw[hxa]
    go_wp2_with (go_at_call 44;refine(HF.out _).mono ?_;rintro e w4 ⟨rfl,hb4⟩;have hA:=below3 w (.cells #[.slice (some ⟨g,off,none⟩) n fc,.slice ga m gc] 27 (0,0)) (.cells #[.int .i64 x.op,.int .i64 (xa:Int),.int .i64 x.b,.string x.text,.int .i64 x.at_] 36 (0,0)) (.cells #[.string o'.name,.int .i64 o'.params,.int .i64 o'.slots,.slice fv.ta o'.taken.length fv.tc,.int .i64 o'.around,.slice fv.ca o'.code.length fv.cc] 33 (0,0));have hB:=numb_facts hA hb4;simp only[gq] at hB;obtain⟨z0,z1,z2,z3,z4,z5,z6⟩:=hB;have HBW:=Lib.hid z6;clear z6 hA hb4)
    all_goals
     go_ret
     exact⟨ret_bool HN2.out.symm,HBW.out⟩
  ·have e0:decide (0<x.a)=false:=decide_eq_false h0
   rw[e0,Bool.false_and] at hn
   have HN2:=Lib.hid hn
   clear hn HN
   go_wp2_with (go_at_call 44;refine(HF.out _).mono ?_;rintro e w4 ⟨rfl,hb4⟩;have hA:=below3 w (.cells #[.slice (some ⟨g,off,none⟩) n fc,.slice ga m gc] 27 (0,0)) (.cells #[.int .i64 x.op,.int .i64 x.a,.int .i64 x.b,.string x.text,.int .i64 x.at_] 36 (0,0)) (.cells #[.string o'.name,.int .i64 o'.params,.int .i64 o'.slots,.slice fv.ta o'.taken.length fv.tc,.int .i64 o'.around,.slice fv.ca o'.code.length fv.cc] 33 (0,0));have hB:=numb_facts hA hb4;simp only[gq] at hB;obtain⟨z0,z1,z2,z3,z4,z5,z6⟩:=hB;have HBW:=Lib.hid z6;clear z6 hA hb4)
   all_goals
    go_ret
    exact⟨ret_bool HN2.out.symm,HBW.out⟩
 ·rcases hcase with rfl|rfl|rfl|rfl|rfl|rfl|rfl|rfl|rfl|rfl|rfl
  all_goals
   have hn:=HN.out
   simp only[numbE] at hn
   have HN2:=Lib.hid hn
   clear hn HN
   go_wp2_with (go_at_call 44;refine(HF.out _).mono ?_;rintro e w4 ⟨rfl,hb4⟩;have hA:=below3 w (.cells #[.slice (some ⟨g,off,none⟩) n fc,.slice ga m gc] 27 (0,0)) (.cells #[.int .i64 x.op,.int .i64 x.a,.int .i64 x.b,.string x.text,.int .i64 x.at_] 36 (0,0)) (.cells #[.string o'.name,.int .i64 o'.params,.int .i64 o'.slots,.slice fv.ta o'.taken.length fv.tc,.int .i64 o'.around,.slice fv.ca o'.code.length fv.cc] 33 (0,0));have hB:=numb_facts hA hb4;simp only[gq] at hB;obtain⟨z0,z1,z2,z3,z4,z5,z6⟩:=hB;have HBW:=Lib.hid z6;clear z6 hA hb4)
   all_goals
    go_ret
    refine⟨ret_bool ?_,HBW.out⟩
    rw[HN2.out]
    try rw[HM.out]
    try first|rfl|(simp[*];done)|(simp_all;done)|(simp_all;omega)|(rw[Bool.eq_iff_iff];simp;done)|(rw[Bool.eq_iff_iff];simp;omega)|(rw[Bool.eq_iff_iff];simp[*];done)|(rw[Bool.eq_iff_iff];simp[*];omega)
def SaysOk (x:Ci):Prop:=∀w,Gc w→Calls Tryz.prog 82 #[insV x] w fun e w'=>e= .returned (.bool (saysB x))∧Below w.heap.size w w'
attribute [local go_sem] fieldFm2
theorem says_zero {x:Ci} (h:(formOf x.op).text=0):saysB x=x.text.data.toList.isEmpty:=by
 unfold saysB
 simp only[h]
theorem says_plain (x:Ci) (h:(formOf x.op).text=0):SaysOk x:=by
 intro w _
 have HF:=Lib.hid (forms_call x.op)
 have HS:=Lib.hid (says_zero h)
 obtain⟨F,hF⟩:∃F,formOf x.op=F:=⟨_,rfl⟩
 rw[hF] at HF h
 rw[h] at HF
 obtain⟨R,HR⟩:∃R,Hid (saysB x=R):=⟨_,rfl⟩
 rw[HR.out] at HS⊢
 simp only[insV]
 clear hF h
 go_enter Tryz.func82,Tryz.ntmps82
 go_wp2_with (go_at_call 44;refine(HF.out _).mono ?_;rintro e w4 ⟨rfl,hb4⟩;have hx:=(hb4.block w.heap.size (by simp)).trans (heap_alloc_new w _);have z3:=cell_of_row w4 _ 3 _ _ _ hx;simp only[gq] at z3;have HB:=Lib.hid (((Below.refl w.heap.size w).alloc (Nat.le_refl _) (.cells #[.int .i64 x.op,.int .i64 x.a,.int .i64 x.b,.string x.text,.int .i64 x.at_] 36 (0,0))).trans (hb4.mono (by simp)));clear hx hb4)
 go_ret
 refine⟨ret_bool ?_,HB.out⟩
 rw[HS.out,ByteArray.toList_eq]
theorem LiesC.more {w:World} {B B':Nat} {p:Cp} {v:Value} (h:LiesC w B p v) (hB:B≤B'):LiesC w B' p v:=by
 obtain⟨fa,fc,ga,gc,xs,h1,h2,h3,h4,h5,h6,h7⟩:=h
 exact⟨fa,fc,ga,gc,xs,h1,h2,h3.more hB,h4.more hB,h5,h6,fun x hx=>⟨(h7 x hx).1.more hB,(h7 x hx).2.1.more hB,(h7 x hx).2.2⟩⟩
structure FnAt (w:World) (v:Value) (cs:Array Value) (F:Cform) (pb xb fb:Nat) (W:World):Prop where
 low:Below w.heap.size w W
 pr:∃ps,v= .agg ps∧W.heap[pb]? =some (.cells ps 27 (0,0))
 xr:W.heap[xb]? =some (.cells cs 36 (0,0))
 fr:W.heap[fb]? =some (.cells #[.string ⟨⟨F.word⟩⟩,.int .i64 F.a,.int .i64 F.text,.string ⟨⟨F.takes⟩⟩,.string ⟨⟨F.lays⟩⟩] 86 (0,0))
theorem FnAt.under {w W W':World} {v:Value} {cs:Array Value} {F:Cform} {pb xb fb:Nat} (h:FnAt w v cs F pb xb fb W) (hb:Below W.heap.size W W'):FnAt w v cs F pb xb fb W':=by
 obtain⟨ps,h1,h2⟩:=h.pr
 exact⟨h.low.trans (hb.mono h.low.size),⟨ps,h1,(hb.block _ (Array.getElem?_eq_some_iff.1 h2).1).trans h2⟩,(hb.block _ (Array.getElem?_eq_some_iff.1 h.xr).1).trans h.xr,(hb.block _ (Array.getElem?_eq_some_iff.1 h.fr).1).trans h.fr⟩
theorem FnAt.xc {w W:World} {v:Value} {a b c d e:Value} {F:Cform} {pb xb fb:Nat} (h:FnAt w v #[a,b,c,d,e] F pb xb fb W):W.cell? ⟨xb,0,none⟩=some a∧W.cell? ⟨xb,1,none⟩=some b∧W.cell? ⟨xb,2,none⟩=some c∧W.cell? ⟨xb,3,none⟩=some d∧W.cell? ⟨xb,4,none⟩=some e:=
 ⟨cell_of_row W xb 0 _ _ _ h.xr,cell_of_row W xb 1 _ _ _ h.xr,cell_of_row W xb 2 _ _ _ h.xr,cell_of_row W xb 3 _ _ _ h.xr,cell_of_row W xb 4 _ _ _ h.xr⟩
theorem FnAt.pc {w W:World} {a b:Value} {cs:Array Value} {F:Cform} {pb xb fb:Nat} (h:FnAt w (.agg #[a,b]) cs F pb xb fb W):W.cell? ⟨pb,0,none⟩=some a∧W.cell? ⟨pb,1,none⟩=some b:=by
 obtain⟨ps,h1,h2⟩:=h.pr
 injection h1 with h1
 subst h1
 exact⟨cell_of_row W pb 0 _ _ _ h2,cell_of_row W pb 1 _ _ _ h2⟩
theorem FnAt.fc {w W:World} {v:Value} {cs:Array Value} {F:Cform} {pb xb fb:Nat} (h:FnAt w v cs F pb xb fb W):W.cell? ⟨fb,0,none⟩=some (.string ⟨⟨F.word⟩⟩):=cell_of_row W fb 0 _ _ _ h.fr
def hexCheck (n:Nat):Bool:=
 (match hexV (UInt8.ofNat n) with|some d=>hexA n==some d&&Lib.lowerB (UInt8.ofNat n)==UInt8.ofNat n|none=>true)&&
 (match hexA n with|some d=>decide (n<128)&&(!(n==43)&&(decide (d<16)&&(!(Lib.lowerB (UInt8.ofNat n)==UInt8.ofNat n)||hexV (UInt8.ofNat n)==some d)))|none=>true)
theorem hexCheck_all:(List.range 256).all hexCheck=true:=by kernel_rfl
theorem hex_byte (c:UInt8):(∀d,hexV c=some d→hexA c.toNat=some d∧Lib.lowerB c=c)∧∀d,hexA c.toNat=some d→c.toNat<128∧c.toNat≠43∧d<16∧(Lib.lowerB c=c→hexV c=some d):=by
 have h:=List.all_eq_true.mp hexCheck_all c.toNat (List.mem_range.2 c.toNat_lt)
 unfold hexCheck at h
 rw[show UInt8.ofNat c.toNat=c by simp] at h
 simp only[Bool.and_eq_true] at h
 obtain⟨h1,h2⟩:=h
 constructor
 ·intro d hd
  rw[hd] at h1
  simpa using h1
 ·intro d hd
  rw[hd] at h2
  simp only[Bool.and_eq_true,decide_eq_true_eq,Bool.not_eq_true',beq_eq_false_iff_ne,Bool.or_eq_true,beq_iff_eq] at h2
  obtain⟨a,b,c',e⟩:=h2
  refine⟨a,b,c',fun hl=> ?_⟩
  rcases e with e|e
  ·exact absurd hl e
  ·exact e
theorem hexU_of:∀(s:List UInt8) (n m:Nat),hexNum s n=some m→(n+1)*16^s.length≤18446744073709551616→hexU s n=some m∧Lib.toLowerA s=s
 | [],n,m,h,_=>⟨h,rfl⟩
 |c::r,n,m,h,hb=>by
  rw[hexNum] at h
  cases hc:hexV c with
  |none=>rw[hc] at h;cases h
  |some d=>
   rw[hc] at h
   have h':hexNum r (16*n+d)=some m:=h
   obtain⟨ha,hl⟩:=(hex_byte c).1 d hc
   have hd:=((hex_byte c).2 d ha).2.2.1
   have hp:1≤16^r.length:=by first|exact Nat.pos_pow (by decide)|exact Nat.pow_pos (by decide)|exact Nat.pos_pow_of_pos _ (by decide)
   rw[List.length_cons,Nat.pow_succ] at hb
   have hb2:(16*n+d+1)*16^r.length≤18446744073709551616:=by
    refine Nat.le_trans (Nat.mul_le_mul_right _ (show 16*n+d+1≤(n+1)*16 by omega)) ?_
    rw[Nat.mul_assoc,Nat.mul_comm 16]
    exact hb
   have hn:¬1152921504606846976≤n:=by
    intro hge
    have:(n+1)*(16^r.length*16)≥(n+1)*16:=Nat.mul_le_mul_left _ (by omega)
    omega
   obtain⟨i1,i2⟩:=hexU_of r _ m h' hb2
   exact⟨by rw[hexU_go ha hn];exact i1,by rw[Lib.toLowerA,List.map_cons,hl];exact congrArg (c::·) i2⟩
theorem hexNum_of:∀(s:List UInt8) (n m:Nat),hexU s n=some m→Lib.toLowerA s=s→hexNum s n=some m
 | [],n,m,h,_=>h
 |c::r,n,m,h,hl=>by
  rw[Lib.toLowerA,List.map_cons,List.cons.injEq] at hl
  cases hc:hexA c.toNat with
  |none=>rw[hexU_bad hc] at h;cases h
  |some d=>
   have hn:¬1152921504606846976≤n:=fun hge=>by rw[hexU_far hge] at h;cases h
   rw[hexU_go hc hn] at h
   rw[hexNum,((hex_byte c).2 d hc).2.2.2 hl.1]
   exact hexNum_of r _ m h hl.2
theorem hexU_ascii:∀(s:List UInt8) (n m:Nat),hexU s n=some m→∀b∈s,b.toNat<128∧b.toNat≠43
 | [],_,_,_,b,hb=>by cases hb
 |c::r,n,m,h,b,hb=>by
  cases hc:hexA c.toNat with
  |none=>rw[hexU_bad hc] at h;cases h
  |some d=>
   have hn:¬1152921504606846976≤n:=fun hge=>by rw[hexU_far hge] at h;cases h
   rw[hexU_go hc hn] at h
   rcases List.mem_cons.1 hb with rfl|hb
   ·exact⟨((hex_byte b).2 d hc).1,((hex_byte b).2 d hc).2.1⟩
   ·exact hexU_ascii r _ m h b hb
def hexW (s:List UInt8):Option Nat:=if s=[] then none else hexU s 0
def UintPost (w:World) (r:Option Nat) (e:Ending) (w':World):Prop:=Below w.heap.size w w'∧match r with
 |some n=>n<18446744073709551616∧e= .returned (.tuple #[.int .u64 n,.nilIface])
 |none=>∃v te pe,e= .returned (.tuple #[.int .u64 v,.iface te pe])
theorem hex_outer (t:List UInt8) (hmax:t.length≤4000000000) (w:World) (hG:Gc w):
  Calls Tryz.prog 162 #[.string ⟨⟨t⟩⟩,.int .i64 16,.int .i64 64] w (UintPost w (hexW t)):=by
 obtain⟨es,hs1,hs2⟩:=hG.syn
 obtain⟨er,hr1,hr2⟩:=hG.rng
 have HI:Hid (Calls Tryz.prog 188 #[.string ⟨⟨t⟩⟩,.int .i64 16,.int .i64 64] w (HexPost w (hexW t))):=Lib.hid (by
  cases t with
  |nil=>
   refine(Tryz.internal_strconv_ParseUint_empty 16 64 w).mono ?_
   rintro e w' ⟨rfl,rfl⟩
   exact⟨Below.refl _ _,0,2,.inr rfl,rfl⟩
  |cons c r=>exact hex_inner ⟨⟨c::r⟩⟩ (by show(c::r).length≠0;simp) hmax w)
 have HT:Hid (∀w',Below w.heap.size w w'→∀k,(k=1∨k=2)→Calls Tryz.prog 187 #[.string ⟨#[80,97,114,115,101,85,105,110,116]⟩,.string ⟨⟨t⟩⟩,.int .i64 16,.int .i64 64,.iface 273 (.int .i64 k)] w' fun e w''=>∃te pe,e= .returned (.iface te pe)∧Below w'.heap.size w' w''):=Lib.hid (by
  intro w' hb k hk
  rcases hk with rfl|rfl
  ·refine(Tryz.strconv_toError_range _ _ _ _ er w' (by show t.length≤_;omega) ((hb.cell (p:=⟨6,0,none⟩) (Nat.lt_of_lt_of_le (by decide) hG.size)).trans hr1) hr2).mono ?_
   rintro e w'' ⟨N,rfl,_,_,h⟩
   exact⟨_,_,rfl,h⟩
  ·refine(Tryz.strconv_toError_syntax _ _ _ _ es w' (by show t.length≤_;omega) ((hb.cell (p:=⟨5,0,none⟩) (Nat.lt_of_lt_of_le (by decide) hG.size)).trans hs1) hs2).mono ?_
   rintro e w'' ⟨N,rfl,_,_,h⟩
   exact⟨_,_,rfl,h⟩)
 clear hs1 hs2 hr1 hr2 hG
 obtain⟨R,hR⟩:∃R,hexW t=R:=⟨_,rfl⟩
 rw[hR] at HI⊢
 clear hR
 go_enter Tryz.func162,Tryz.ntmps162
 cases R with
 |some n=>
  go_wp2_with (go_at_call 188;refine HI.out.mono ?_;rintro e w1 ⟨hb1,hn,rfl⟩)
  go_ret2
  exact⟨hb1,hn,rfl⟩
 |none=>
  go_wp2_with (first
   |(go_at_call 188;refine HI.out.mono ?_;rintro e w1 ⟨hb1,v,k,hk,rfl⟩;have HB1:=Lib.hid hb1;clear hb1)
   |(go_at_call 187;refine(HT.out _ HB1.out _ hk).mono ?_;rintro e w2 ⟨te,pe,rfl,hb2⟩))
  go_ret2
  exact⟨HB1.out.trans (hb2.mono HB1.out.size),_,_,_,rfl⟩
end Go.Proofs.YtagnicbknbmccaaGreatDoor
