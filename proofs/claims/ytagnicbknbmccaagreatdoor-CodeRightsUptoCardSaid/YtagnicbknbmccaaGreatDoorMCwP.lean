/- code.fits: what it lays, the loop. code.counted of a slice's instruction. -/
import Derived.Laws.MakeOwn
import Derived.Laws.OwnMore
import Derived.Deep.LoopGhost
import Derived.Test.YtagnicbknbmccaaGreatDoorMCwO
import Derived.Test.YtagnicbknbmccaaGreatDoorMCwF
import Derived.Test.YtagnicbknbmccaaGreatDoorSqC
import Derived.Test.YtagnicbknbmccaaGreatDoorMCwB
set_option maxRecDepth 100000
set_option maxHeartbeats 4000000
namespace Go.Proofs.YtagnicbknbmccaaGreatDoor
open Go.RowKit
def fitsR:Option Int→Int
 |none=> -1
 |some k=>k
def fnV (x:Cf×Fv):Value:= .agg #[.string x.1.name,.int .i64 x.1.params,.int .i64 x.1.slots,.slice x.2.ta x.1.taken.length x.2.tc,.int .i64 x.1.around,.slice x.2.ca x.1.code.length x.2.cc]
theorem ptrInfo:(Tryz.prog.info? 122).map (fun i=>(i.zero,i.size,i.bytes))=some (some (.pointer none),1,8):=by kernel_rfl
theorem make_at (n:Nat) (hn:n≤100000) (w:World):(Instr.makeSlice 121 (.int .i64 ((n:Int)+1)) (.int .i64 ((n:Int)+1))).run Tryz.prog w= .ok (.slice (some ⟨w.heap.size,0,none⟩) (n+1) (n+1)) (w.alloc (.cells (List.replicate (n+1) (Value.pointer none)).toArray 122 (0,0))):=by
 obtain⟨i,hi,hz0,hz1,hz2⟩:=info_parts ptrInfo
 have:=run_make (P:=Tryz.prog) w 121 122 i _ Tryz.underlying121 hi hz0 .i64 .i64 ((n:Int)+1) ((n:Int)+1) (by omega) (by omega) (by rw[hz2];omega) (by omega)
 rw[this,hz1,Nat.mul_one,show((n:Int)+1).toNat=n+1 by omega]
 have e:=toList_madeCells_one (Value.pointer none) (n+1)
 rw[←e]
 rfl
theorem make_ints (n:Nat) (hn:n≤100000) (w:World):(Instr.makeSlice 22 (.int .i64 (n:Int)) (.int .i64 (n:Int))).run Tryz.prog w= .ok (.slice (some ⟨w.heap.size,0,none⟩) n n) (w.alloc (.cells (List.replicate n (Value.int .i64 0)).toArray 3 (0,0))):=by
 obtain⟨i,hi,hz0,hz1,hz2⟩:=info_parts intInfo
 have:=run_make (P:=Tryz.prog) w 22 3 i _ Tryz.underlying22 hi hz0 .i64 .i64 (n:Int) (n:Int) (by omega) (by omega) (by rw[hz2];omega) (by omega)
 rw[this,hz1,Nat.mul_one,Int.toNat_natCast]
 have e:=toList_madeCells_one (Value.int .i64 0) n
 rw[←e]
 rfl
theorem allocs6 (w:World) (o0 o1 o2 o3 o4 o5:Obj):
  let W:=(((((w.alloc o0).alloc o1).alloc o2).alloc o3).alloc o4).alloc o5
  W.heap[w.heap.size]? =some o0∧W.heap[w.heap.size+1]? =some o1∧W.heap[w.heap.size+1+1]? =some o2∧W.heap[w.heap.size+1+1+1]? =some o3∧W.heap[w.heap.size+1+1+1+1]? =some o4∧W.heap[w.heap.size+1+1+1+1+1]? =some o5∧W.heap.size=w.heap.size+6∧Below (w.heap.size+1) (w.alloc o0) W:=by
 intro W
 have e:∀(w:World) (o:Obj),(w.alloc o).heap=w.heap.push o:=fun _ _=>rfl
 have hW:W.heap=(((((w.heap.push o0).push o1).push o2).push o3).push o4).push o5:=rfl
 refine⟨?_, ?_, ?_, ?_, ?_, ?_, ?_, ?_⟩
 ·rw[hW];simp[Array.getElem_push,Nat.add_assoc]
 ·rw[hW];simp[Array.getElem_push,Nat.add_assoc]
 ·rw[hW];simp[Array.getElem_push,Nat.add_assoc]
 ·rw[hW];simp[Array.getElem_push,Nat.add_assoc]
 ·rw[hW];simp[Array.getElem_push,Nat.add_assoc]
 ·rw[hW];simp[Array.getElem_push,Nat.add_assoc]
 ·rw[hW];simp only[Array.size_push]
 ·have h1:=(Below.refl (w.heap.size+1) (w.alloc o0)).alloc (by simp) o1
  have h2:=h1.alloc (by simp) o2
  have h3:=h2.alloc (by simp) o3
  have h4:=h3.alloc (by simp) o4
  exact h4.alloc (by simp) o5
theorem FtAt.begin (w:World) (o0:Obj) (n:Nat) (_h0:0<n):
  FtAt (w.alloc o0) (w.heap.size+1) (w.heap.size+1+1) (w.heap.size+1+1+1+1) n (w.heap.size+1+1+1) 1 [(w.heap.size+1+1+1+1+1,[])] ⟨some []::List.replicate n none,List.replicate n false,[0]⟩
   ((((((w.alloc o0).alloc (.cells ((Array.replicate (n+1) (Value.pointer none)).setIfInBounds 0 (.pointer (some ⟨w.heap.size+1+1+1+1+1,0,none⟩))) 122 (0,0))).alloc (.cells (Array.replicate n (Value.int .i64 0)) 3 (0,0))).alloc (.cells #[.int .i64 0] 3 (0,0))).alloc (.cells #[.slice (some ⟨w.heap.size+1+1+1,0,none⟩) 1 1] 22 (0,0))).alloc
    (.cells #[.int .u8 0,.pointer none,.int .i64 0,.pointer none,.pointer none,.pointer none] 125 (0,0))):=by
 have hA:=allocs6 w o0 (.cells ((Array.replicate (n+1) (Value.pointer none)).setIfInBounds 0 (.pointer (some ⟨w.heap.size+1+1+1+1+1,0,none⟩))) 122 (0,0)) (.cells (Array.replicate n (Value.int .i64 0)) 3 (0,0)) (.cells #[.int .i64 0] 3 (0,0)) (.cells #[.slice (some ⟨w.heap.size+1+1+1,0,none⟩) 1 1] 22 (0,0)) (.cells #[.int .u8 0,.pointer none,.int .i64 0,.pointer none,.pointer none,.pointer none] 125 (0,0))
 dsimp only at hA
 obtain⟨W,hW⟩:∃W,(((((w.alloc o0).alloc (.cells ((Array.replicate (n+1) (Value.pointer none)).setIfInBounds 0 (.pointer (some ⟨w.heap.size+1+1+1+1+1,0,none⟩))) 122 (0,0))).alloc (.cells (Array.replicate n (Value.int .i64 0)) 3 (0,0))).alloc (.cells #[.int .i64 0] 3 (0,0))).alloc (.cells #[.slice (some ⟨w.heap.size+1+1+1,0,none⟩) 1 1] 22 (0,0))).alloc
    (.cells #[.int .u8 0,.pointer none,.int .i64 0,.pointer none,.pointer none,.pointer none] 125 (0,0))=W:=⟨_,rfl⟩
 rw[hW] at hA⊢
 obtain⟨_,a1,a2,a3,a4,a5,hsz,hb⟩:=hA
 have hs0:(w.alloc o0).heap.size=w.heap.size+1:=by simp
 refine⟨by rw[hs0];exact hb,⟨?_, ?_, ?_⟩,⟨(List.replicate (n+1) (Value.pointer none)).set 0 (.pointer (some ⟨w.heap.size+1+1+1+1+1,0,none⟩)),by rw[a1,←List.setIfInBounds_toArray,List.toArray_replicate],by simp,fun j hj=> ?_⟩,by rw[a2];simp[seenV],⟨a4,⟨by simp[rowI],.inr ⟨_,_,_,rfl,Nat.zero_le _,a3,by simp,by decide,by simp,by simp[rowI]⟩⟩,by omega,by rw[hs0];omega⟩,by simp,by simp,by rw[hs0];omega,by omega,fun s=> ?_,fun j s=> ?_⟩
 ·intro b s hb2
  rw[List.mem_singleton] at hb2
  injection hb2 with e1 e2
  subst e1
  subst e2
  refine⟨by rw[hs0];omega,by rw[hsz];omega,.pointer none,.pointer none,.pointer none,.pointer none,by rw[a5];rfl,rfl, ?_, ?_, ?_⟩<;>
  ·refine .inl ⟨rfl,fun b hb3=> ?_⟩
   rw[List.mem_singleton] at hb3
   injection hb3 with _ e
   cases e
 ·intro b b' s h1 h2
  rw[List.mem_singleton] at h1 h2
  injection h1 with e1 _
  injection h2 with e2 _
  rw[e1,e2]
 ·intro b s s' h1 h2
  rw[List.mem_singleton] at h1 h2
  injection h1 with _ e1
  injection h2 with _ e2
  rw[e1,e2]
 ·cases j with
  |zero=>exact⟨_,by rw[List.getElem?_set_self (by simp)],_,rfl,List.mem_singleton.2 rfl⟩
  |succ j=>
   refine⟨.pointer none,by rw[List.getElem?_set_ne (by omega),List.getElem?_replicate,if_pos (by omega)], ?_⟩
   simp only[List.getD_cons_succ]
   rw[List.getD_eq_getElem?_getD,List.getElem?_replicate]
   split<;>exact rfl
 ·simp
 ·intro h
  cases j with
  |zero=>
   simp only[List.getD_cons_zero,Option.some.injEq] at h
   rw[←h];exact Nat.zero_le _
  |succ j=>
   simp only[List.getD_cons_succ] at h
   rw[List.getD_eq_getElem?_getD,List.getElem?_replicate] at h
   split at h<;>cases h
section
variable {w0 W W':World} {ab sb tb n g cap:Nat} {T:Tab} {c:Cst}
theorem FtAt.alloc (h:FtAt w0 ab sb tb n g cap T c W) (o:Obj):FtAt w0 ab sb tb n g cap T c (W.alloc o):=
 h.more (h.stk.keep fun b s hb=>heap_alloc_old W o (h.stk.node b s hb).2.1) (fun _ h=>h) (fun _ h=> .inl h) (Foot.of ((Below.refl _ W).alloc (Nat.le_refl _) o))
theorem FtAt.under (h:FtAt w0 ab sb tb n g cap T c W) (hb:Below W.heap.size W W'):FtAt w0 ab sb tb n g cap T c W':=
 h.more (h.stk.keep fun b s hb2=>hb.block b (h.stk.node b s hb2).2.1) (fun _ h=>h) (fun _ h=> .inl h) (Foot.of hb)
theorem FtAt.drewN (h:FtAt w0 ab sb tb n g cap T c W) (k:Nat):FtAt w0 ab sb tb n g cap T c (W.drewN k):=h.under ⟨rfl,rfl,rfl,Nat.le_refl _,fun _ _=>rfl⟩
theorem FtAt.pop (h:FtAt w0 ab sb tb n g cap T c W) (ht:TodoAt w0.heap.size tb g cap (popL c.todo).2 W') (hf:Foot W.heap.size (fun k=>k=tb∨k=g) W W'):FtAt w0 ab sb tb n g cap T {c with todo:=(popL c.todo).2} W':=by
 obtain⟨l1,l2,l3,l4⟩:=h.alt
 obtain⟨vs,h1,h2,h3⟩:=h.atr
 obtain⟨n1,n2,n3,n4,n5⟩:=h.ne
 have hn':=h.nn
 have hk:∀k,k<W.heap.size→k≠tb→k≠g→W'.heap[k]? =W.heap[k]? :=fun k hk e1 e2=>hf.block k hk (by rintro(e|e);exact e1 e;exact e2 e)
 have hlo:=h.lo
 have hlg:=h.todo.lo
 exact⟨h.below.trans (hf.to (C:=w0.heap.size) h.below.size (by rintro k (e|e)<;>omega)),h.stk.keep fun b s hb=>hk b (h.stk.node b s hb).2.1 (fun e=>(hn' s).2.2.1 (e▸hb)) (fun e=>(hn' s).2.2.2 (e▸hb)),⟨vs,(hk ab l1 n2 n3).trans h1,h2,h3⟩,(hk sb l2 n4 n5).trans h.seen,ht,h.la,h.ls,h.lo,h.ne,h.nn,h.deep⟩
theorem FtAt.look (h:FtAt w0 ab sb tb n g cap T c W) {k:Nat} (_hk:k<n):FtAt w0 ab sb tb n g cap T {c with seen:=c.seen.set k true} (W.setCell ⟨sb,k,none⟩ (.int .i64 1)):=by
 obtain⟨vs,h1,h2,h3⟩:=h.atr
 obtain⟨n1,n2,n3,n4,n5⟩:=h.ne
 have hn':=h.nn
 have hk2:∀i,i≠sb→(W.setCell ⟨sb,k,none⟩ (.int .i64 1)).heap[i]? =W.heap[i]? :=fun i e=>Below.heap_setCell W _ _ _ e
 have hlo:=h.lo
 refine⟨h.below.setCell (p:=⟨sb,k,none⟩) hlo.2.1 _,h.stk.keep fun b s hb=>hk2 b (fun e=>(hn' s).2.1 (e▸hb)),⟨vs,(hk2 ab n1).trans h1,h2,h3⟩, ?_,h.todo.keep (hk2 tb (Ne.symm n4)) (hk2 g (Ne.symm n5)),h.la,by simp only[List.length_set];exact h.ls,h.lo,h.ne,h.nn,h.deep⟩
 rw[heap_setCell_same W sb k _ _ _ h.seen]
 simp[List.map_set,seenV]
end
theorem lays_len:∀(l:List UInt8) (s:List UInt8) {s':List UInt8},laysP s l=some s'→s.length≤30000→s'.length≤30000
 | [],s,s',h,hs=>by
  rw[laysP] at h
  injection h with h
  rw[←h];exact hs
 |c::r,s,s',h,hs=>by
  rw[laysP] at h
  split at h
  ·cases h
  ·exact lays_len r (c::s) h (by simp only[List.length_cons];omega)
theorem takes_len:∀(l:List UInt8) (s:List UInt8) {s':List UInt8},takesP s l=some s'→s'.length≤s.length
 | [],s,s',h=>by
  rw[takesP] at h
  injection h with h
  rw[←h];exact Nat.le_refl _
 |c::r,s,s',h=>by
  rw[takesP] at h
  cases e:lessP s c 1 with
  |none=>rw[e] at h;cases h
  |some s1=>
   rw[e] at h
   exact Nat.le_trans (takes_len r s1 h) (less_len _ _ e)
theorem leaves_len {x:Ci} {s nx th:List UInt8} (h:leavesP x s=some (nx,th)) (hs:s.length≤30000):nx.length≤30000∧th.length≤30000:=by
 unfold leavesP at h
 split at h
 ·cases h
 ·rename_i s1 e1
  have l1:=less_len _ _ e1
  split at h
  ·cases h
  ·rename_i s2 e2
   have l2:=takes_len _ _ e2
   split at h
   ·cases h
   ·rename_i s3 e3
    have l3:=lays_len _ _ e3 (by omega)
    simp only[Option.some.injEq,Prod.mk.injEq] at h
    obtain⟨rfl,rfl⟩:=h
    refine⟨l3, ?_⟩
    split
    ·rename_i ho
     have e:takesP s1 [118]=some s2:=by
      rcases ho with ho|ho
      ·rw[ho] at e2;exact e2
      ·rw[ho] at e2;exact e2
     rw[takesP] at e
     cases e4:lessP s1 118 1 with
     |none=>rw[e4] at e;cases e
     |some s4=>
      rw[e4] at e
      dsimp only at e
      rw[takesP] at e
      injection e with e
      subst e
      cases s1 with
      |nil=>rw[lessP] at e4;cases e4
      |cons t r=>
       rw[lessP] at e4
       split at e4
       ·rw[lessP] at e4
        injection e4 with e4
        subst e4
        simp only[List.length_cons] at l1⊢
        omega
       ·cases e4
    ·omega
theorem round_eq {code:List Ci} {c:Cst} {k:Nat} {x:Ci} {s:List UInt8} (hx:code[k]? =some x) (hs:c.at_.getD k none=some s):roundP code c k=match leavesP x s with
  |none=>(some (k:Int),c)
  |some (nx,th)=>
   let h1:=if x.op=34∨x.op=50 then(c,true) else handP c (k+1) nx
   if h1.2=false then(some ((k:Int)+1),h1.1) else
   let h2:=if goesB x.op then handP h1.1 x.a.toNat th else(h1.1,true)
   if h2.2=false then(some x.a,h2.1) else(none,h2.1):=by
 unfold roundP
 rw[hx,hs]
 rfl
theorem counted_sl0 (a at_:Int) (text:ByteArray) (ha:0≤a∧a≤30000) (w:World):Calls Tryz.prog 126 #[.agg #[.int .i64 26,.int .i64 a,.int .i64 0,.string text,.int .i64 at_]] w fun e w'=>e= .returned (.tuple #[.int .u8 118,.int .i64 (a+1)])∧Below w.heap.size w w':=by
 have w1:IntKind.i64.wrap (a+1)=a+1:=by rw[IntKind.wrap_i64];omega
 have w2:IntKind.i64.wrap (a-1)=a-1:=by rw[IntKind.wrap_i64];omega
 go_enter Tryz.func126,Tryz.ntmps126
 go_upto_region 12 with fail
 have hx:=heap_alloc_new w (.cells #[.int .i64 26,.int .i64 a,.int .i64 0,.string text,.int .i64 at_] 36 (0,0))
 have hB0:Below w.heap.size w (World.drew (w.alloc (.cells #[.int .i64 26,.int .i64 a,.int .i64 0,.string text,.int .i64 at_] 36 (0,0)))):=Below.drewN' ((Below.refl _ _).alloc (Nat.le_refl _) _) 1
 have hsz:(World.drew (w.alloc (.cells #[.int .i64 26,.int .i64 a,.int .i64 0,.string text,.int .i64 at_] 36 (0,0)))).heap.size=w.heap.size+1:=World.size_alloc _ _
 obtain⟨W1,hW1⟩:∃W1,w.alloc (.cells #[.int .i64 26,.int .i64 a,.int .i64 0,.string text,.int .i64 at_] 36 (0,0))=W1:=⟨_,rfl⟩
 obtain⟨xb,hxb0⟩:∃xb,w.heap.size=xb:=⟨_,rfl⟩
 simp only[hW1,hxb0] at hx hB0 hsz⊢
 have y1:(World.drew W1).cell? ⟨xb,1,none⟩=some (.int .i64 a):=cell_of_row W1 xb 1 _ _ _ hx
 have y2:(World.drew W1).cell? ⟨xb,2,none⟩=some (.int .i64 0):=cell_of_row W1 xb 2 _ _ _ hx
 have hxb:xb<(World.drew W1).heap.size:=by omega
 have HB:=Lib.hid hB0
 have HXB:=Lib.hid hxb0
 clear hx hB0 hsz hW1 hxb0
 refine wp_region_G [] (fun u=>u.cell? ⟨xb,1,none⟩=some (.int .i64 a)∧u.cell? ⟨xb,2,none⟩=some (.int .i64 0)) (by rfl) ?_ (fun hHeld=> ?_)
 ·exact⟨y1,y2⟩
 generalize hwd:World.drew W1=wd at HB y1 y2 hxb hHeld⊢
 refine tk 0 (h:=tk 1 (h:=tk 2 (h:=tk 3 (h:=tk 4 (h:=tk 5 (h:= ?_))))))
 try simp only[nmC]
 refine tk 6 (h:=tk 7 (h:=tk 8 (h:=tk 9 (h:=tk 11 (h:=tk 12 (h:= ?_))))))
 try simp only[nmC]
 refine tk 15 (h:= ?_)
 try simp only[nmC]
 refine rd1 10 fun KK hKK=> ?_
 go_simp
 have y1:=(((Below.refl wd.heap.size wd).alloc (Nat.le_refl _) (.cells #[.int .i64 (a+1),.int .i64 a,.int .i64 a,.int .i64 (a-1)] 3 (0,0))).cell (p:=⟨xb,1,none⟩) hxb).trans y1
 have y2:=(((Below.refl wd.heap.size wd).alloc (Nat.le_refl _) (.cells #[.int .i64 (a+1),.int .i64 a,.int .i64 a,.int .i64 (a-1)] 3 (0,0))).cell (p:=⟨xb,2,none⟩) hxb).trans y2
 have z:=(cell_of_row _ _ 0 _ _ _ (heap_alloc_new wd (.cells #[.int .i64 (a+1),.int .i64 a,.int .i64 a,.int .i64 (a-1)] 3 (0,0))))
 simp only[gq] at z
 try dsimp only
 refine hKK.out _ _ (⟨y1,y2⟩) (fun hHeld=> ?_)
 clear hKK KK
 try simp only[nmC]
 refine tk 13 (h:= ?_)
 try simp only[nmC]
 refine rd1 14 fun KK hKK=> ?_
 go_simp
 try dsimp only
 refine hKK.out _ _ (⟨y1,y2⟩) (fun hHeld=> ?_)
 clear hKK KK
 try simp only[nmC]
 refine tk 16 (h:= ?_)
 try simp only[nmC]
 refine wpAnyG_done (by kernel_rfl) ?_ _
 go_wp2_with fail
 go_ret2
 exact⟨rfl,by rw[HXB.out];exact HB.out.alloc (by omega) _⟩
theorem counted_sl1 (a at_:Int) (text:ByteArray) (ha:0≤a∧a≤30000) (w:World):Calls Tryz.prog 126 #[.agg #[.int .i64 26,.int .i64 a,.int .i64 1,.string text,.int .i64 at_]] w fun e w'=>e= .returned (.tuple #[.int .u8 118,.int .i64 (a)])∧Below w.heap.size w w':=by
 have w1:IntKind.i64.wrap (a+1)=a+1:=by rw[IntKind.wrap_i64];omega
 have w2:IntKind.i64.wrap (a-1)=a-1:=by rw[IntKind.wrap_i64];omega
 go_enter Tryz.func126,Tryz.ntmps126
 go_upto_region 12 with fail
 have hx:=heap_alloc_new w (.cells #[.int .i64 26,.int .i64 a,.int .i64 1,.string text,.int .i64 at_] 36 (0,0))
 have hB0:Below w.heap.size w (World.drew (w.alloc (.cells #[.int .i64 26,.int .i64 a,.int .i64 1,.string text,.int .i64 at_] 36 (0,0)))):=Below.drewN' ((Below.refl _ _).alloc (Nat.le_refl _) _) 1
 have hsz:(World.drew (w.alloc (.cells #[.int .i64 26,.int .i64 a,.int .i64 1,.string text,.int .i64 at_] 36 (0,0)))).heap.size=w.heap.size+1:=World.size_alloc _ _
 obtain⟨W1,hW1⟩:∃W1,w.alloc (.cells #[.int .i64 26,.int .i64 a,.int .i64 1,.string text,.int .i64 at_] 36 (0,0))=W1:=⟨_,rfl⟩
 obtain⟨xb,hxb0⟩:∃xb,w.heap.size=xb:=⟨_,rfl⟩
 simp only[hW1,hxb0] at hx hB0 hsz⊢
 have y1:(World.drew W1).cell? ⟨xb,1,none⟩=some (.int .i64 a):=cell_of_row W1 xb 1 _ _ _ hx
 have y2:(World.drew W1).cell? ⟨xb,2,none⟩=some (.int .i64 1):=cell_of_row W1 xb 2 _ _ _ hx
 have hxb:xb<(World.drew W1).heap.size:=by omega
 have HB:=Lib.hid hB0
 have HXB:=Lib.hid hxb0
 clear hx hB0 hsz hW1 hxb0
 refine wp_region_G [] (fun u=>u.cell? ⟨xb,1,none⟩=some (.int .i64 a)∧u.cell? ⟨xb,2,none⟩=some (.int .i64 1)) (by rfl) ?_ (fun hHeld=> ?_)
 ·exact⟨y1,y2⟩
 generalize hwd:World.drew W1=wd at HB y1 y2 hxb hHeld⊢
 refine tk 0 (h:=tk 1 (h:=tk 2 (h:=tk 3 (h:=tk 4 (h:=tk 5 (h:= ?_))))))
 try simp only[nmC]
 refine tk 6 (h:=tk 7 (h:=tk 8 (h:=tk 9 (h:=tk 11 (h:=tk 12 (h:= ?_))))))
 try simp only[nmC]
 refine tk 15 (h:= ?_)
 try simp only[nmC]
 refine rd1 10 fun KK hKK=> ?_
 go_simp
 have y1:=(((Below.refl wd.heap.size wd).alloc (Nat.le_refl _) (.cells #[.int .i64 (a+1),.int .i64 a,.int .i64 a,.int .i64 (a-1)] 3 (0,0))).cell (p:=⟨xb,1,none⟩) hxb).trans y1
 have y2:=(((Below.refl wd.heap.size wd).alloc (Nat.le_refl _) (.cells #[.int .i64 (a+1),.int .i64 a,.int .i64 a,.int .i64 (a-1)] 3 (0,0))).cell (p:=⟨xb,2,none⟩) hxb).trans y2
 have z:=(cell_of_row _ _ 1 _ _ _ (heap_alloc_new wd (.cells #[.int .i64 (a+1),.int .i64 a,.int .i64 a,.int .i64 (a-1)] 3 (0,0))))
 simp only[gq] at z
 try dsimp only
 refine hKK.out _ _ (⟨y1,y2⟩) (fun hHeld=> ?_)
 clear hKK KK
 try simp only[nmC]
 refine tk 13 (h:= ?_)
 try simp only[nmC]
 refine rd1 14 fun KK hKK=> ?_
 go_simp
 try dsimp only
 refine hKK.out _ _ (⟨y1,y2⟩) (fun hHeld=> ?_)
 clear hKK KK
 try simp only[nmC]
 refine tk 16 (h:= ?_)
 try simp only[nmC]
 refine wpAnyG_done (by kernel_rfl) ?_ _
 go_wp2_with fail
 go_ret2
 exact⟨rfl,by rw[HXB.out];exact HB.out.alloc (by omega) _⟩
theorem counted_sl2 (a at_:Int) (text:ByteArray) (ha:0≤a∧a≤30000) (w:World):Calls Tryz.prog 126 #[.agg #[.int .i64 26,.int .i64 a,.int .i64 2,.string text,.int .i64 at_]] w fun e w'=>e= .returned (.tuple #[.int .u8 118,.int .i64 (a)])∧Below w.heap.size w w':=by
 have w1:IntKind.i64.wrap (a+1)=a+1:=by rw[IntKind.wrap_i64];omega
 have w2:IntKind.i64.wrap (a-1)=a-1:=by rw[IntKind.wrap_i64];omega
 go_enter Tryz.func126,Tryz.ntmps126
 go_upto_region 12 with fail
 have hx:=heap_alloc_new w (.cells #[.int .i64 26,.int .i64 a,.int .i64 2,.string text,.int .i64 at_] 36 (0,0))
 have hB0:Below w.heap.size w (World.drew (w.alloc (.cells #[.int .i64 26,.int .i64 a,.int .i64 2,.string text,.int .i64 at_] 36 (0,0)))):=Below.drewN' ((Below.refl _ _).alloc (Nat.le_refl _) _) 1
 have hsz:(World.drew (w.alloc (.cells #[.int .i64 26,.int .i64 a,.int .i64 2,.string text,.int .i64 at_] 36 (0,0)))).heap.size=w.heap.size+1:=World.size_alloc _ _
 obtain⟨W1,hW1⟩:∃W1,w.alloc (.cells #[.int .i64 26,.int .i64 a,.int .i64 2,.string text,.int .i64 at_] 36 (0,0))=W1:=⟨_,rfl⟩
 obtain⟨xb,hxb0⟩:∃xb,w.heap.size=xb:=⟨_,rfl⟩
 simp only[hW1,hxb0] at hx hB0 hsz⊢
 have y1:(World.drew W1).cell? ⟨xb,1,none⟩=some (.int .i64 a):=cell_of_row W1 xb 1 _ _ _ hx
 have y2:(World.drew W1).cell? ⟨xb,2,none⟩=some (.int .i64 2):=cell_of_row W1 xb 2 _ _ _ hx
 have hxb:xb<(World.drew W1).heap.size:=by omega
 have HB:=Lib.hid hB0
 have HXB:=Lib.hid hxb0
 clear hx hB0 hsz hW1 hxb0
 refine wp_region_G [] (fun u=>u.cell? ⟨xb,1,none⟩=some (.int .i64 a)∧u.cell? ⟨xb,2,none⟩=some (.int .i64 2)) (by rfl) ?_ (fun hHeld=> ?_)
 ·exact⟨y1,y2⟩
 generalize hwd:World.drew W1=wd at HB y1 y2 hxb hHeld⊢
 refine tk 0 (h:=tk 1 (h:=tk 2 (h:=tk 3 (h:=tk 4 (h:=tk 5 (h:= ?_))))))
 try simp only[nmC]
 refine tk 6 (h:=tk 7 (h:=tk 8 (h:=tk 9 (h:=tk 11 (h:=tk 12 (h:= ?_))))))
 try simp only[nmC]
 refine tk 15 (h:= ?_)
 try simp only[nmC]
 refine rd1 10 fun KK hKK=> ?_
 go_simp
 have y1:=(((Below.refl wd.heap.size wd).alloc (Nat.le_refl _) (.cells #[.int .i64 (a+1),.int .i64 a,.int .i64 a,.int .i64 (a-1)] 3 (0,0))).cell (p:=⟨xb,1,none⟩) hxb).trans y1
 have y2:=(((Below.refl wd.heap.size wd).alloc (Nat.le_refl _) (.cells #[.int .i64 (a+1),.int .i64 a,.int .i64 a,.int .i64 (a-1)] 3 (0,0))).cell (p:=⟨xb,2,none⟩) hxb).trans y2
 have z:=(cell_of_row _ _ 2 _ _ _ (heap_alloc_new wd (.cells #[.int .i64 (a+1),.int .i64 a,.int .i64 a,.int .i64 (a-1)] 3 (0,0))))
 simp only[gq] at z
 try dsimp only
 refine hKK.out _ _ (⟨y1,y2⟩) (fun hHeld=> ?_)
 clear hKK KK
 try simp only[nmC]
 refine tk 13 (h:= ?_)
 try simp only[nmC]
 refine rd1 14 fun KK hKK=> ?_
 go_simp
 try dsimp only
 refine hKK.out _ _ (⟨y1,y2⟩) (fun hHeld=> ?_)
 clear hKK KK
 try simp only[nmC]
 refine tk 16 (h:= ?_)
 try simp only[nmC]
 refine wpAnyG_done (by kernel_rfl) ?_ _
 go_wp2_with fail
 go_ret2
 exact⟨rfl,by rw[HXB.out];exact HB.out.alloc (by omega) _⟩
theorem counted_sl3 (a at_:Int) (text:ByteArray) (ha:0≤a∧a≤30000) (w:World):Calls Tryz.prog 126 #[.agg #[.int .i64 26,.int .i64 a,.int .i64 3,.string text,.int .i64 at_]] w fun e w'=>e= .returned (.tuple #[.int .u8 118,.int .i64 (a-1)])∧Below w.heap.size w w':=by
 have w1:IntKind.i64.wrap (a+1)=a+1:=by rw[IntKind.wrap_i64];omega
 have w2:IntKind.i64.wrap (a-1)=a-1:=by rw[IntKind.wrap_i64];omega
 go_enter Tryz.func126,Tryz.ntmps126
 go_upto_region 12 with fail
 have hx:=heap_alloc_new w (.cells #[.int .i64 26,.int .i64 a,.int .i64 3,.string text,.int .i64 at_] 36 (0,0))
 have hB0:Below w.heap.size w (World.drew (w.alloc (.cells #[.int .i64 26,.int .i64 a,.int .i64 3,.string text,.int .i64 at_] 36 (0,0)))):=Below.drewN' ((Below.refl _ _).alloc (Nat.le_refl _) _) 1
 have hsz:(World.drew (w.alloc (.cells #[.int .i64 26,.int .i64 a,.int .i64 3,.string text,.int .i64 at_] 36 (0,0)))).heap.size=w.heap.size+1:=World.size_alloc _ _
 obtain⟨W1,hW1⟩:∃W1,w.alloc (.cells #[.int .i64 26,.int .i64 a,.int .i64 3,.string text,.int .i64 at_] 36 (0,0))=W1:=⟨_,rfl⟩
 obtain⟨xb,hxb0⟩:∃xb,w.heap.size=xb:=⟨_,rfl⟩
 simp only[hW1,hxb0] at hx hB0 hsz⊢
 have y1:(World.drew W1).cell? ⟨xb,1,none⟩=some (.int .i64 a):=cell_of_row W1 xb 1 _ _ _ hx
 have y2:(World.drew W1).cell? ⟨xb,2,none⟩=some (.int .i64 3):=cell_of_row W1 xb 2 _ _ _ hx
 have hxb:xb<(World.drew W1).heap.size:=by omega
 have HB:=Lib.hid hB0
 have HXB:=Lib.hid hxb0
 clear hx hB0 hsz hW1 hxb0
 refine wp_region_G [] (fun u=>u.cell? ⟨xb,1,none⟩=some (.int .i64 a)∧u.cell? ⟨xb,2,none⟩=some (.int .i64 3)) (by rfl) ?_ (fun hHeld=> ?_)
 ·exact⟨y1,y2⟩
 generalize hwd:World.drew W1=wd at HB y1 y2 hxb hHeld⊢
 refine tk 0 (h:=tk 1 (h:=tk 2 (h:=tk 3 (h:=tk 4 (h:=tk 5 (h:= ?_))))))
 try simp only[nmC]
 refine tk 6 (h:=tk 7 (h:=tk 8 (h:=tk 9 (h:=tk 11 (h:=tk 12 (h:= ?_))))))
 try simp only[nmC]
 refine tk 15 (h:= ?_)
 try simp only[nmC]
 refine rd1 10 fun KK hKK=> ?_
 go_simp
 have y1:=(((Below.refl wd.heap.size wd).alloc (Nat.le_refl _) (.cells #[.int .i64 (a+1),.int .i64 a,.int .i64 a,.int .i64 (a-1)] 3 (0,0))).cell (p:=⟨xb,1,none⟩) hxb).trans y1
 have y2:=(((Below.refl wd.heap.size wd).alloc (Nat.le_refl _) (.cells #[.int .i64 (a+1),.int .i64 a,.int .i64 a,.int .i64 (a-1)] 3 (0,0))).cell (p:=⟨xb,2,none⟩) hxb).trans y2
 have z:=(cell_of_row _ _ 3 _ _ _ (heap_alloc_new wd (.cells #[.int .i64 (a+1),.int .i64 a,.int .i64 a,.int .i64 (a-1)] 3 (0,0))))
 simp only[gq] at z
 try dsimp only
 refine hKK.out _ _ (⟨y1,y2⟩) (fun hHeld=> ?_)
 clear hKK KK
 try simp only[nmC]
 refine tk 13 (h:= ?_)
 try simp only[nmC]
 refine rd1 14 fun KK hKK=> ?_
 go_simp
 try dsimp only
 refine hKK.out _ _ (⟨y1,y2⟩) (fun hHeld=> ?_)
 clear hKK KK
 try simp only[nmC]
 refine tk 16 (h:= ?_)
 try simp only[nmC]
 refine wpAnyG_done (by kernel_rfl) ?_ _
 go_wp2_with fail
 go_ret2
 exact⟨rfl,by rw[HXB.out];exact HB.out.alloc (by omega) _⟩
theorem counted_slice (x:Ci) (h26:x.op=26) (ha:0≤x.a∧x.a≤30000) (hb:x.b=0∨x.b=1∨x.b=2∨x.b=3):CountedOk x:=by
 intro w
 obtain⟨op,a,b,text,at_⟩:=x
 dsimp only at h26 ha hb
 subst h26
 rcases hb with rfl|rfl|rfl|rfl
 ·exact counted_sl0 a at_ text ha w
 ·exact counted_sl1 a at_ text ha w
 ·exact counted_sl2 a at_ text ha w
 ·exact counted_sl3 a at_ text ha w
end Go.Proofs.YtagnicbknbmccaaGreatDoor
