/- code.row's methods; container/heap over it. code.row: Swap, Push. container/heap over code.row: up, down. container/heap over code.row: down. container/heap's Push and Pop over code.row; code.push, code.pop. -/
import Derived.BigQuiet
import Derived.Deep.DeepCutAuto
import Derived.Deep.AppendLies
import Derived.Test.YtagnicbknbmccaaGreatDoorMCwF
import Derived.Test.YtagnicbknbmccaaGreatDoorMLex1
import Derived.Test.YtagnicbknbmccaaGreatDoorSqC
set_option maxRecDepth 100000
set_option maxHeartbeats 4000000
namespace Go.Proofs.YtagnicbknbmccaaGreatDoor
open Go.RowKit
def rowI (l:List Int):List Value:=l.map (Value.int .i64)
structure RowSt (r g cap:Nat) (l:List Int) (w:World):Prop where
 box:w.heap[r]? =some (.cells #[.slice (some ⟨g,0,none⟩) l.length cap] 168 (0,0))
 own:w.ownsRow 0 3 1 (.slice (some ⟨g,0,none⟩) l.length cap) l.length (rowI l)
 ne:r≠g
section
variable {r g cap:Nat} {l:List Int} {w W:World}
theorem RowSt.c (h:RowSt r g cap l w):w.cell? ⟨r,0,none⟩=some (.slice (some ⟨g,0,none⟩) l.length cap)∧w.frozen? ⟨r,0,none⟩=false:=
 ⟨cell_of_row w r 0 _ _ _ h.box,frozen_of_row w r 0 _ _ h.box⟩
theorem own_cell (h:w.ownsRow 0 3 1 (.slice (some ⟨g,0,none⟩) l.length cap) l.length (rowI l)) (j:Nat) (hj:j<l.length):w.cell? ⟨g,j,none⟩=some (.int .i64 (l.getD j 0))∧w.frozen? ⟨g,j,none⟩=false:=by
 obtain⟨h1,h2⟩:=h
 rcases h2 with⟨h2,_⟩|⟨g',cap',cur,hv,hb,hg,hc1,hc2,hc3,hc4⟩
 ·cases h2
 ·simp only[Value.slice.injEq,Option.some.injEq,Addr.mk.injEq,and_true,true_and] at hv
  obtain⟨rfl,rfl⟩:=hv
  refine⟨?_,frozen_of_row w g j _ _ hg⟩
  have e:cur.toList[j]? =(rowI l)[j]? :=by rw[←hc4,List.getElem?_take,if_pos (by omega)]
  rw[cell_of_row w g j _ _ _ hg,←Array.getElem?_toList,e,rowI,List.getElem?_map,List.getElem?_eq_getElem hj,List.getD_eq_getElem?_getD,List.getElem?_eq_getElem hj]
  rfl
theorem own_cap (h:w.ownsRow 0 3 1 (.slice (some ⟨g,0,none⟩) l.length cap) l.length (rowI l)):l.length≤cap:=by
 rcases h.2 with⟨h2,_⟩|⟨g',cap',cur,hv,hb,hg,hc1,hc2,hc3,hc4⟩
 ·cases h2
 ·simp only[Value.slice.injEq,Option.some.injEq,Addr.mk.injEq,and_true,true_and] at hv
  obtain⟨rfl,rfl⟩:=hv
  exact hc1
theorem own_setI (h:w.ownsRow 0 3 1 (.slice (some ⟨g,0,none⟩) l.length cap) l.length (rowI l)) (j:Nat) (u:Int):(w.setCell ⟨g,j,none⟩ (.int .i64 u)).ownsRow 0 3 1 (.slice (some ⟨g,0,none⟩) (l.set j u).length cap) (l.set j u).length (rowI (l.set j u)):=by
 obtain⟨h1,h2⟩:=h
 refine⟨by simp[rowI], ?_⟩
 rcases h2 with⟨h2,_⟩|⟨g',cap',cur,hv,hb,hg,hc1,hc2,hc3,hc4⟩
 ·cases h2
 ·simp only[Value.slice.injEq,Option.some.injEq,Addr.mk.injEq,and_true,true_and] at hv
  obtain⟨rfl,rfl⟩:=hv
  refine .inr ⟨g,cap,cur.setIfInBounds j (.int .i64 u),rfl,hb,heap_setCell_same w g j _ _ _ hg,by simpa using hc1,hc2,by simpa using hc3, ?_⟩
  rw[rowI,List.map_set,List.length_set,←rowI,←hc4]
  simp[List.take_set]
theorem RowSt.set (h:RowSt r g cap l w) (j:Nat) (u:Int):RowSt r g cap (l.set j u) (w.setCell ⟨g,j,none⟩ (.int .i64 u)):=
 ⟨by rw[heap_setCell_other _ _ _ _ h.ne,List.length_set];exact h.box,own_setI h.own j u,h.ne⟩
theorem RowSt.swap (h:RowSt r g cap l w) (i j:Nat):RowSt r g cap (swapL l i j) ((w.setCell ⟨g,i,none⟩ (.int .i64 (l.getD j 0))).setCell ⟨g,j,none⟩ (.int .i64 (l.getD i 0))):=(h.set i _).set j _
theorem RowSt.take (h:RowSt r g cap l w) {m:Nat} (hm:m≤l.length):RowSt r g cap (l.take m) (w.setCell ⟨r,0,none⟩ (.slice (some ⟨g,0,none⟩) m cap)):=by
 have e:(l.take m).length=m:=by rw[List.length_take];omega
 refine⟨by rw[e];exact heap_setCell_same w r 0 _ _ _ h.box, ?_,h.ne⟩
 rw[e]
 obtain⟨h1,h2⟩:=h.own
 refine⟨by simp[rowI];omega, ?_⟩
 rcases h2 with⟨h2,_⟩|⟨g',cap',cur,hv,hb,hg,hc1,hc2,hc3,hc4⟩
 ·cases h2
 ·simp only[Value.slice.injEq,Option.some.injEq,Addr.mk.injEq,and_true,true_and] at hv
  obtain⟨rfl,rfl⟩:=hv
  refine .inr ⟨g,cap,cur,rfl,hb,(heap_setCell_other _ _ _ _ (Ne.symm h.ne)).trans hg,by omega,hc2,hc3, ?_⟩
  rw[rowI,List.map_take,←rowI,←hc4,List.take_take]
  congr 1
  omega
theorem swapL_len (l:List Int) (i j:Nat):(swapL l i j).length=l.length:=by simp[swapL]
end
theorem intInfo:(Tryz.prog.info? 3).map (fun i=>(i.zero,i.size,i.bytes))=some (some (.int .i64 0),1,8):=by kernel_rfl
theorem push_facts {r g cap:Nat} {l:List Int} {w:World} {o:Obj} {g2 cap2:Nat} {w2:World} {n:Int} (h:RowSt r g cap l w)
  (ho:w2.ownsRow 0 3 1 (.slice (some ⟨g2,0,none⟩) (l.length+1) cap2) (l.length+1) (rowI l++ [.int .i64 n])) (hg:(w.drew.alloc o).grownBy w2 (Value.slice (some ⟨g,0,none⟩) l.length cap).ownBlock)
  (hb:(Value.slice (some ⟨g,0,none⟩) l.length cap).ownBlock=some g2∨g2=(w.drew.alloc o).heap.size):
  w2.cell? ⟨r,0,none⟩=some (.slice (some ⟨g,0,none⟩) l.length cap)∧w2.frozen? ⟨r,0,none⟩=false∧
  RowSt r g2 cap2 (l++ [n]) (w2.setCell ⟨r,0,none⟩ (.slice (some ⟨g2,0,none⟩) (l.length+1) cap2))∧(g2=g∨w.heap.size≤g2)∧Foot w.heap.size (fun k=>k=r∨k=g) w (w2.setCell ⟨r,0,none⟩ (.slice (some ⟨g2,0,none⟩) (l.length+1) cap2)):=by
 have hr:=(Array.getElem?_eq_some_iff.1 h.box).1
 have hsz:(w.drew.alloc o).heap.size=w.heap.size+1:=by simp
 have hbox:w2.heap[r]? =some (.cells #[.slice (some ⟨g,0,none⟩) l.length cap] 168 (0,0)):=by
  rw[hg.block r (by rw[hsz];omega) (fun e=>h.ne (by simpa[Value.ownBlock] using e))]
  exact(heap_alloc_old w.drew o hr).trans h.box
 have hg2:g2=g∨w.heap.size≤g2:=by
  rcases hb with hb|hb
  ·left;simpa[Value.ownBlock] using hb.symm
  ·right;rw[hb,hsz];omega
 have hne:r≠g2:=by
  rcases hg2 with e|e
  ·rw[e];exact h.ne
  ·omega
 have hf:Foot w.heap.size (fun k=>k=r∨k=g) w w2:=by
  refine⟨hg.os,hg.tape,hg.output, ?_,fun k hk hn=> ?_⟩
  ·have:=hg.size;rw[hsz] at this;omega
  ·rw[hg.block k (by rw[hsz];omega) (fun e=>hn (.inr (by simpa[Value.ownBlock] using e)))]
   exact heap_alloc_old w.drew o hk
 refine⟨cell_of_row w2 r 0 _ _ _ hbox,frozen_of_row w2 r 0 _ _ hbox,⟨?_, ?_,hne⟩,hg2,hf.set (.inr (.inl rfl)) _⟩
 ·have:=heap_setCell_same w2 r 0 _ _ (.slice (some ⟨g2,0,none⟩) (l.length+1) cap2) hbox
  simpa using this
 ·have h3:(w2.setCell ⟨r,0,none⟩ (.slice (some ⟨g2,0,none⟩) (l.length+1) cap2)).ownsRow 0 3 1 (.slice (some ⟨g2,0,none⟩) (l.length+1) cap2) (l.length+1) (rowI l++ [.int .i64 n]):=
   ho.kept (row:=some r) ⟨rfl,rfl,rfl,by simp,fun k _ hk=>Below.heap_setCell w2 _ _ _ (fun e=>hk (by rw[e]))⟩ (.inr fun e=>hne (by simpa[Value.ownBlock] using e.symm))
  have e1:(l++ [n]).length=l.length+1:=by simp
  have e2:rowI (l++ [n])=rowI l++ [.int .i64 n]:=by simp[rowI]
  rw[e1,e2]
  exact h3
theorem rlen_any (A:Option Addr) (n cap:Nat) (w:World):Calls Tryz.prog 257 #[.slice A n cap] w fun e w'=>e= .returned (.int .i64 n)∧w'=w:=by
 go_enter Tryz.func257,Tryz.ntmps257
 go_wp2_with fail
 go_ret
 exact⟨rfl,rfl⟩
theorem rless_any {g cap:Nat} {l:List Int} {w:World} (h:w.ownsRow 0 3 1 (.slice (some ⟨g,0,none⟩) l.length cap) l.length (rowI l)) {i j:Nat} (hi:i<l.length) (hj:j<l.length):
  Calls Tryz.prog 258 #[.slice (some ⟨g,0,none⟩) l.length cap,.int .i64 i,.int .i64 j] w fun e w'=>e= .returned (.bool (decide (l.getD i 0<l.getD j 0)))∧∃k,w'=w.drewN k:=by
 have hc1:=(own_cell h i hi).1
 have hc2:=(own_cell h j hj).1
 generalize l.getD i 0=x1 at hc1⊢
 generalize l.getD j 0=x2 at hc2⊢
 clear h
 go_enter Tryz.func258,Tryz.ntmps258
 go_wp2_with fail
 go_quiet (fail)
 go_wp2_with fail
 go_ret
 exact⟨rfl,_,rfl⟩
theorem rpop_any {r g cap:Nat} {l:List Int} {w:World} (h:RowSt r g cap l w) (hl:0<l.length) (hl2:l.length≤1000000):
  Calls Tryz.prog 260 #[.pointer (some ⟨r,0,none⟩)] w fun e w'=>e= .returned (.iface 3 (.int .i64 (l.getD (l.length-1) 0)))∧RowSt r g cap (l.take (l.length-1)) w'∧Foot w.heap.size (fun k=>k=r) w w':=by
 have hc:=h.c.1
 have hf:=h.c.2
 have hx:=(own_cell h.own (l.length-1) (by omega)).1
 have hcap:=own_cap h.own
 have HR:=Lib.hid h
 clear h
 obtain⟨m,hm⟩:∃m,l.length=m+1:=⟨l.length-1,by omega⟩
 have HM:=Lib.hid hm
 rw[hm] at hc hx hl2 hcap⊢
 simp only[Nat.add_sub_cancel] at hx⊢
 clear hm hl
 go_enter Tryz.func260,Tryz.ntmps260
 go_wp2_with fail
 go_ret
 refine⟨by simp, ?_,Foot.set (g:=fun k=>k=r) (p:=⟨r,0,none⟩) (Foot.refl _ _ _) (.inr rfl) _⟩
 exact HR.out.take (by rw[HM.out];omega)
theorem swap_any {g cap:Nat} {l:List Int} {w:World} (h:w.ownsRow 0 3 1 (.slice (some ⟨g,0,none⟩) l.length cap) l.length (rowI l)) {i j:Nat} (hi:i<l.length) (hj:j<l.length):
  Calls Tryz.prog 259 #[.slice (some ⟨g,0,none⟩) l.length cap,.int .i64 i,.int .i64 j] w fun e w'=>e= .returned (.tuple #[])∧w'=(w.drew.setCell ⟨g,i,none⟩ (.int .i64 (l.getD j 0))).setCell ⟨g,j,none⟩ (.int .i64 (l.getD i 0)):=by
 have hc1:=own_cell h i hi
 have hc2:=own_cell h j hj
 have hc3:=own_cell (own_setI h i (l.getD j 0)) j (by simpa using hj)
 generalize (l.set i (l.getD j 0)).getD j 0=x3 at hc3
 generalize l.getD i 0=x1 at hc1⊢
 generalize l.getD j 0=x2 at hc2 hc3⊢
 obtain⟨c1,f1⟩:=hc1
 obtain⟨c2,f2⟩:=hc2
 obtain⟨c3,f3⟩:=hc3
 clear h
 go_enter Tryz.func259,Tryz.ntmps259
 go_wp2_with fail
 refine wp_region_any (by rfl) ?_
 refine tq 0 (h:=tq 1 (h:=tq 2 (h:=tq 3 (h:=tq 4 (h:=tq 5 (h:= ?_))))))
 try simp only[nmC]
 refine tq 6 (h:=tq 8 (h:=tq 9 (h:=tq 10 (h:= ?_))))
 try simp only[nmC]
 refine wpAny_ready' (rs:=[7,11]) (by kernel_rfl) (by simp) ?_
 refine allReady_cons rfl (fun KK hKK=> ?_) (allReady_cons rfl (fun KK hKK=> ?_) allReady_nil)
 ·go_simp
  refine hKK.out _ _ ?_
  clear hKK KK
  try simp only[nmC]
  refine wpAny_ready' (rs:=[11]) (by kernel_rfl) (by simp) ?_
  refine allReady_cons rfl (fun KK hKK=> ?_) allReady_nil
  go_simp
  refine hKK.out _ _ ?_
  clear hKK KK
  try simp only[nmC]
  refine tq 12 (h:= ?_)
  try simp only[nmC]
  refine wpAny_ready' (rs:=[13]) (by kernel_rfl) (by simp) ?_
  refine allReady_cons rfl (fun KK hKK=> ?_) allReady_nil
  go_simp
  refine hKK.out _ _ ?_
  clear hKK KK
  try simp only[nmC]
  refine tq 14 (h:= ?_)
  try simp only[nmC]
  refine wpAny_ready' (rs:=[15]) (by kernel_rfl) (by simp) ?_
  refine allReady_cons rfl (fun KK hKK=> ?_) allReady_nil
  go_simp
  refine hKK.out _ _ ?_
  clear hKK KK
  try simp only[nmC]
  refine wpAny_done (by kernel_rfl) ?_ _
  go_wp2_with fail
  go_end0
  exact⟨rfl,rfl⟩
 ·go_simp
  refine hKK.out _ _ ?_
  clear hKK KK
  try simp only[nmC]
  refine wpAny_ready' (rs:=[7]) (by kernel_rfl) (by simp) ?_
  refine allReady_cons rfl (fun KK hKK=> ?_) allReady_nil
  go_simp
  refine hKK.out _ _ ?_
  clear hKK KK
  try simp only[nmC]
  refine tq 12 (h:= ?_)
  try simp only[nmC]
  refine wpAny_ready' (rs:=[13]) (by kernel_rfl) (by simp) ?_
  refine allReady_cons rfl (fun KK hKK=> ?_) allReady_nil
  go_simp
  refine hKK.out _ _ ?_
  clear hKK KK
  try simp only[nmC]
  refine tq 14 (h:= ?_)
  try simp only[nmC]
  refine wpAny_ready' (rs:=[15]) (by kernel_rfl) (by simp) ?_
  refine allReady_cons rfl (fun KK hKK=> ?_) allReady_nil
  go_simp
  refine hKK.out _ _ ?_
  clear hKK KK
  try simp only[nmC]
  refine wpAny_done (by kernel_rfl) ?_ _
  go_wp2_with fail
  go_end0
  exact⟨rfl,rfl⟩
theorem rpush_any {r g cap:Nat} {l:List Int} {w:World} (h:RowSt r g cap l w) (n:Int) (hl:l.length≤1000000):
  Calls Tryz.prog 261 #[.pointer (some ⟨r,0,none⟩),.iface 3 (.int .i64 n)] w fun e w'=>e= .returned (.tuple #[])∧∃g' cap',RowSt r g' cap' (l++ [n]) w'∧(g'=g∨w.heap.size≤g')∧Foot w.heap.size (fun k=>k=r∨k=g) w w':=by
 obtain⟨i0,hi,hz0,hz1,hz2⟩:=info_parts intInfo
 have HR:=Lib.hid h
 have HS0:=Lib.hid h.c
 have HO:=Lib.hid h.own
 have hrlt:r<w.heap.size:=(Array.getElem?_eq_some_iff.1 h.box).1
 clear h
 have qT:∀w,(Instr.typeAssert (.iface 3 (.int .i64 n)) 20 3 false).run Tryz.prog w= .ok (.int .i64 n) w:=fun w=>by kernel_rfl
 go_enter Tryz.func261,Tryz.ntmps261
 go_wp2_with fail
 refine wp_region_G [9] (fun x=>x.cell? ⟨r,0,none⟩=some (.slice (some ⟨g,0,none⟩) l.length cap)∧x.frozen? ⟨r,0,none⟩=false) (by rfl) ?_ (fun hHeld=> ?_)
 ·exact HS0.out
 refine tk 0 (h:=tk 1 (h:=tk 2 (h:=tk 3 (h:=tk 4 (h:=tk 5 (h:= ?_))))))
 try simp only[nmC]
 refine rd1 6 fun KK hKK=> ?_
 go_simp
 refine hKK.out _ _ (⟨cell_of_row _ r 0 _ _ _ ((heap_alloc_old w.drew _ hrlt).trans HR.out.box),frozen_of_row _ r 0 _ _ ((heap_alloc_old w.drew _ hrlt).trans HR.out.box)⟩) (fun hHeld=> ?_)
 clear hKK KK
 try simp only[nmC]
 refine rd1 7 fun KK hKK=> ?_
 refine step_append_lies _ rfl (.tmp 7) (.tmp 10) 168 rfl 0 3 i0 _ 1 8 Tryz.underlying168 hi hz0 hz1 hz2 rfl (by decide) _ _ _ rfl (HO.out.alloc _) ⟨w.heap.size,0,none⟩ 1 1 [.int .i64 n] rfl rfl (fun k u hu=>cell_one_new w.drew _ _ k u hu) (by intro u hu;simp at hu;subst hu;rfl) (by decide) (by unfold maxLen;omega) (by omega) (by omega) _ rfl ?_
 intro g2 cap2 w2 ho2 hg2 hb2 hl2
 have hf:=push_facts HR.out ho2 hg2 hb2
 have fc:=hf.1
 have ff:=hf.2.1
 have HF:=Lib.hid hf.2.2
 clear hf
 refine hKK.out _ _ (⟨fc,ff⟩) (fun hHeld=> ?_)
 clear hKK KK
 try simp only[nmC]
 refine tk 8 (h:= ?_)
 try simp only[nmC]
 refine rl1 9 fun KK hKK=> ?_
 go_simp
 refine hKK.out _ _ ?_
 clear hKK KK
 try simp only[nmC]
 refine wpAny_done (by kernel_rfl) ?_ _
 go_wp2_with fail
 go_end0
 exact⟨rfl,g2,cap2,HF.out.1,HF.out.2.1,HF.out.2.2⟩
theorem half_nat (j:Nat):(((j:Int)-1).tdiv 2)=((j-1)/2:Nat):=by
 cases j with
 |zero=>rfl
 |succ n=>
  rw[show((n+1:Nat):Int)-1=(n:Int) by push_cast;omega,Nat.add_sub_cancel,Int.tdiv_eq_ediv_of_nonneg (by omega)]
  rfl
section
variable {r g cap:Nat} {l:List Int} {w:World}
theorem meth_less {v:Value} (hc:w.cell? ⟨r,0,none⟩=some v):(method 432 170 (.pointer (some ⟨r,0,none⟩)) "Less").run Tryz.prog w= .ok (258,v) w:=by
 have e:(method 432 170 (.pointer (some ⟨r,0,none⟩)) "Less").run Tryz.prog w=(loadVar 168 ⟨r,0,none⟩>>=fun v=>pure (258,v)).run Tryz.prog w:=by kernel_rfl
 rw[e]
 go_simp
theorem meth_swap {v:Value} (hc:w.cell? ⟨r,0,none⟩=some v):(method 432 170 (.pointer (some ⟨r,0,none⟩)) "Swap").run Tryz.prog w= .ok (259,v) w:=by
 have e:(method 432 170 (.pointer (some ⟨r,0,none⟩)) "Swap").run Tryz.prog w=(loadVar 168 ⟨r,0,none⟩>>=fun v=>pure (259,v)).run Tryz.prog w:=by kernel_rfl
 rw[e]
 go_simp
theorem meth_len {v:Value} (hc:w.cell? ⟨r,0,none⟩=some v):(method 432 170 (.pointer (some ⟨r,0,none⟩)) "Len").run Tryz.prog w= .ok (257,v) w:=by
 have e:(method 432 170 (.pointer (some ⟨r,0,none⟩)) "Len").run Tryz.prog w=(loadVar 168 ⟨r,0,none⟩>>=fun v=>pure (257,v)).run Tryz.prog w:=by kernel_rfl
 rw[e]
 go_simp
theorem RowSt.drewN (h:RowSt r g cap l w) (k:Nat):RowSt r g cap l (w.drewN k):=⟨h.box,h.own,h.ne⟩
theorem Foot.drewN {B:Nat} {P:Nat→Prop} {a b:World} (h:Foot B P a b) (k:Nat):Foot B P a (b.drewN k):=⟨h.os,h.tape,h.output,h.size,h.block⟩
theorem rswap_any (h:RowSt r g cap l w) {i j:Nat} (hi:i<l.length) (hj:j<l.length):
  Calls Tryz.prog 259 #[.slice (some ⟨g,0,none⟩) l.length cap,.int .i64 i,.int .i64 j] w fun e w'=>e= .returned (.tuple #[])∧RowSt r g cap (swapL l i j) w'∧Foot w.heap.size (fun k=>k=g) w w':=by
 refine(swap_any h.own hi hj).mono ?_
 rintro e w' ⟨rfl,rfl⟩
 exact⟨rfl,(show RowSt r g cap l w.drew from⟨h.box,h.own,h.ne⟩).swap i j,Foot.set (g:=fun k=>k=g) (p:=⟨g,j,none⟩) (Foot.set (g:=fun k=>k=g) (p:=⟨g,i,none⟩) (a:=w) (b:=w.drew) ⟨rfl,rfl,rfl,Nat.le_refl _,fun _ _ _=>rfl⟩ (.inr rfl) _) (.inr rfl) _⟩
theorem rless_true (h:RowSt r g cap l w) {i j:Nat} (hi:i<l.length) (hj:j<l.length) {b:Bool} (hb:decide (l.getD i 0<l.getD j 0)=b):
  Calls Tryz.prog 258 #[.slice (some ⟨g,0,none⟩) l.length cap,.int .i64 i,.int .i64 j] w fun e w'=>e= .returned (.bool b)∧RowSt r g cap l w'∧Foot w.heap.size (fun k=>k=g) w w':=by
 subst hb
 refine(rless_any h.own hi hj).mono ?_
 rintro e w' ⟨rfl,k,rfl⟩
 exact⟨rfl,h.drewN k,(Foot.refl _ _ _).drewN k⟩
end
theorem up_any {r g cap:Nat} {f:Nat} {l:List Int} {j:Nat} {w:World} (h:RowSt r g cap l w) (hj:j<l.length) (hf:j<f) (hl:l.length≤1000000):
  Calls Tryz.prog 192 #[.iface 170 (.pointer (some ⟨r,0,none⟩)),.int .i64 j] w fun e w'=>e= .returned (.tuple #[])∧RowSt r g cap (upL f l j) w'∧Foot w.heap.size (fun k=>k=g) w w':=by
 have HR:=Lib.hid h
 clear h
 obtain⟨n,HN⟩:∃n,Hid (l.length=n):=⟨_,rfl⟩
 rw[HN.out] at hj hl
 obtain⟨R,HX⟩:∃R,Hid (upL f l j=R):=⟨_,rfl⟩
 rw[HX.out]
 go_enter Tryz.func192,Tryz.ntmps192
 go_wp2_with fail
 go_loopw [1] (fun i wr=>∃(f' j':Nat) (l':List Int),i= .int .i64 j'∧j'<n∧Hid (l'.length=n)∧j'<f'∧Hid (RowSt r g cap l' wr)∧Hid (upL f' l' j'=R)∧Foot w.heap.size (fun k=>k=g) w wr) (fun i _=>(intOf i).toNat)
 case atStart=>exact⟨f,j,l,rfl,hj,HN,hf,HR,HX,Foot.refl _ _ _⟩
 case round=>
  obtain⟨f',j',l',rfl,hj',hl',hf',HR',HU,hfoot⟩:=hrel
  obtain⟨c1,_⟩:=HR'.out.c
  rw[hl'.out] at c1
  have hm1:=meth_less c1
  obtain⟨f'',rfl⟩:∃f'',f'=f''+1:=⟨f'-1,by omega⟩
  obtain⟨p,hp⟩:∃p:Nat,(j'-1)/2=p:=⟨_,rfl⟩
  have hq:((j':Int)-1).tdiv 2=(p:Int):=by rw[half_nat,hp]
  have hu:=HU.out
  rw[upL,hp] at hu
  have hpj':p≤j':=by omega
  clear hp c1
  by_cases hpj:p=j'
  ·subst hpj
   rw[if_pos (.inl rfl)] at hu
   have HU2:=Lib.hid hu
   clear hu
   go_wp2_with fail
   go_end0
   refine⟨rfl, ?_,hfoot⟩
   rw[←HU2.out];exact HR'.out
  ·have dq:((p:Int)==(j':Int))=false:=by simpa using fun e=>hpj (by omega)
   by_cases hlt:l'.getD j' 0<l'.getD p 0
   ·rw[if_neg (by rintro(e|e);exact hpj e;exact e hlt)] at hu
    have HU2:=Lib.hid hu
    have HD:=Lib.hid (decide_eq_true hlt)
    clear hu hlt
    go_wp2_with (first
     |(go_at_call 258;rw[←hl'.out];refine(rless_true HR'.out (by rw[hl'.out];exact hj') (by rw[hl'.out];omega) HD.out).mono ?_;rintro e w1 ⟨rfl,hr1,hf1⟩;have c2:=hr1.c.1;rw[hl'.out] at c2;have hm2:=meth_swap c2;have HR1:=Lib.hid hr1;clear hr1 c2)
     |(go_at_call 259;rw[←hl'.out];refine(rswap_any HR1.out (by rw[hl'.out];omega) (by rw[hl'.out];exact hj')).mono ?_;rintro e w2 ⟨rfl,hr2,hf2⟩;have HR2:=Lib.hid hr2;clear hr2))
    go_roundw
    case rel=>exact⟨f'',p,swapL l' p j',by simp,by omega,Lib.hid (by rw[swapL_len];exact hl'.out),by omega,HR2,HU2,(hfoot.trans (hf1.mono hfoot.size fun _ _ h=>h)).trans (hf2.mono (Nat.le_trans hfoot.size hf1.size) fun _ _ h=>h)⟩
    case measure=>simp[intOf];omega
   ·rw[if_pos (.inr hlt)] at hu
    have HU2:=Lib.hid hu
    have HD:=Lib.hid (decide_eq_false hlt)
    clear hu hlt
    go_wp2_with (first
     |(go_at_call 258;rw[←hl'.out];refine(rless_true HR'.out (by rw[hl'.out];exact hj') (by rw[hl'.out];omega) HD.out).mono ?_;rintro e w1 ⟨rfl,hr1,hf1⟩;have HR1:=Lib.hid hr1;clear hr1))
    go_end0
    refine⟨rfl, ?_,hfoot.trans (hf1.mono hfoot.size fun _ _ h=>h)⟩
    rw[←HU2.out];exact HR1.out
theorem downL_go {f:Nat} {l:List Int} {i n j:Nat} (hbig:¬n≤2*i+1) (hj:(if 2*i+2<n∧l.getD (2*i+2) 0<l.getD (2*i+1) 0 then 2*i+2 else 2*i+1)=j):
  downL (f+1) l i n=if l.getD j 0<l.getD i 0 then downL f (swapL l i j) j n else l:=by
 subst hj
 rw[downL,if_neg hbig]
theorem down_any {r g cap:Nat} {f:Nat} {l:List Int} {i n:Nat} {w:World} (h:RowSt r g cap l w) (hn:n≤l.length) (hi:i≤n) (hf:n<f+i) (hl:l.length≤1000000):
  Calls Tryz.prog 164 #[.iface 170 (.pointer (some ⟨r,0,none⟩)),.int .i64 i,.int .i64 n] w fun e w'=>(∃b,e= .returned (.bool b))∧RowSt r g cap (downL f l i n) w'∧Foot w.heap.size (fun k=>k=g) w w':=by
 have HR:=Lib.hid h
 clear h
 obtain⟨m,HN⟩:∃m,Hid (l.length=m):=⟨_,rfl⟩
 rw[HN.out] at hn hl
 obtain⟨R,HX⟩:∃R,Hid (downL f l i n=R):=⟨_,rfl⟩
 rw[HX.out]
 go_enter Tryz.func164,Tryz.ntmps164
 go_wp2_with fail
 go_loopw [7] (fun i wr=>∃(f' i':Nat) (l':List Int),i= .int .i64 i'∧i'≤n∧Hid (l'.length=m)∧n<f'+i'∧Hid (RowSt r g cap l' wr)∧Hid (downL f' l' i' n=R)∧Foot w.heap.size (fun k=>k=g) w wr) (fun i _=>n-(intOf i).toNat)
 case atStart=>exact⟨f,i,l,rfl,hi,HN,hf,HR,HX,Foot.refl _ _ _⟩
 case round=>
  obtain⟨f',i',l',rfl,hi',hl',hf',HR',HU,hfoot⟩:=hrel
  obtain⟨c1,_⟩:=HR'.out.c
  rw[hl'.out] at c1
  have hm1:=meth_less c1
  clear c1
  by_cases hbig:n≤2*i'+1
  ·have hfin:l'=R:=by
    rw[←HU.out]
    cases f' with
    |zero=>rfl
    |succ f''=>rw[downL,if_pos hbig]
   have HU2:=Lib.hid hfin
   clear hfin
   have d1:decide ((n:Int)≤2*(i':Int)+1)=true:=by simp;omega
   go_wp2_with fail
   go_ret
   refine⟨⟨_,rfl⟩, ?_,hfoot⟩
   rw[←HU2.out];exact HR'.out
  ·obtain⟨f'',rfl⟩:∃f'',f'=f''+1:=⟨f'-1,by omega⟩
   have hu:=HU.out
   obtain⟨p,hp⟩:∃p,2*i'+1=p:=⟨_,rfl⟩
   obtain⟨q,hq⟩:∃q,2*i'+2=q:=⟨_,rfl⟩
   have zp:2*(i':Int)+1=(p:Int):=by omega
   have zq:(p:Int)+1=(q:Int):=by omega
   have d1:decide ((n:Int)≤(p:Int))=false:=by simp;omega
   have d2:decide ((p:Int)<0)=false:=by simp
   have hip:i'<p∧q≤p+1∧p<q∧p<n:=by omega
   by_cases hc:q<n
   ·have d3:decide ((q:Int)<(n:Int))=true:=by simpa using hc
    by_cases hx:l'.getD q 0<l'.getD p 0
    ·rw[downL_go hbig (j:=q) (by rw[hp,hq];exact if_pos ⟨hc,hx⟩)] at hu
     have HD1:=Lib.hid (decide_eq_true hx)
     clear hx
     by_cases hy:l'.getD q 0<l'.getD i' 0
     ·rw[if_pos hy] at hu
      have HU2:=Lib.hid hu
      have HD2:=Lib.hid (decide_eq_true hy)
      clear hu hy hp hq hbig
      go_wp2_with (first
       |(go_at_call 258;rw[←hl'.out];with_reducible refine(rless_true HR'.out (i:=q) (j:=p) (by rw[hl'.out];omega) (by rw[hl'.out];omega) HD1.out).mono ?_;rintro e w1 ⟨rfl,hr1,hf1⟩;have c1:=hr1.c.1;rw[hl'.out] at c1;have hm2:=meth_less c1;have hs2:=meth_swap c1;have HR1:=Lib.hid hr1;clear hr1 c1)
       |(go_at_call 258;rw[←hl'.out];with_reducible refine(rless_true HR1.out (i:=q) (j:=i') (by rw[hl'.out];omega) (by rw[hl'.out];omega) HD2.out).mono ?_;rintro e w2 ⟨rfl,hr2,hf2⟩;have c2:=hr2.c.1;rw[hl'.out] at c2;have hm3:=meth_less c2;have hs3:=meth_swap c2;have HR2:=Lib.hid hr2;clear hr2 c2)
       |(go_at_call 259;rw[←hl'.out];with_reducible refine(rswap_any HR2.out (i:=i') (j:=q) (by rw[hl'.out];omega) (by rw[hl'.out];omega)).mono ?_;rintro e w3 ⟨rfl,hr3,hf3⟩;have HR3:=Lib.hid hr3;clear hr3))
      go_roundw
      case rel=>exact⟨f'',q,swapL l' i' q,by simp,by omega,Lib.hid (by rw[swapL_len];exact hl'.out),by omega,HR3,HU2,(((hfoot.trans (hf1.mono (hfoot.size) fun _ _ h=>h)).trans (hf2.mono (Nat.le_trans (hfoot.size) hf1.size) fun _ _ h=>h)).trans (hf3.mono (Nat.le_trans (Nat.le_trans (hfoot.size) hf1.size) hf2.size) fun _ _ h=>h))⟩
      case measure=>simp[intOf];omega
     ·rw[if_neg hy] at hu
      have HU2:=Lib.hid hu
      have HD2:=Lib.hid (decide_eq_false hy)
      clear hu hy hp hq hbig
      go_wp2_with (first
       |(go_at_call 258;rw[←hl'.out];with_reducible refine(rless_true HR'.out (i:=q) (j:=p) (by rw[hl'.out];omega) (by rw[hl'.out];omega) HD1.out).mono ?_;rintro e w1 ⟨rfl,hr1,hf1⟩;have c1:=hr1.c.1;rw[hl'.out] at c1;have hm2:=meth_less c1;have hs2:=meth_swap c1;have HR1:=Lib.hid hr1;clear hr1 c1)
       |(go_at_call 258;rw[←hl'.out];with_reducible refine(rless_true HR1.out (i:=q) (j:=i') (by rw[hl'.out];omega) (by rw[hl'.out];omega) HD2.out).mono ?_;rintro e w2 ⟨rfl,hr2,hf2⟩;have c2:=hr2.c.1;rw[hl'.out] at c2;have hm3:=meth_less c2;have hs3:=meth_swap c2;have HR2:=Lib.hid hr2;clear hr2 c2))
      go_ret
      refine⟨⟨_,rfl⟩, ?_,((hfoot.trans (hf1.mono (hfoot.size) fun _ _ h=>h)).trans (hf2.mono (Nat.le_trans (hfoot.size) hf1.size) fun _ _ h=>h))⟩
      rw[←HU2.out];exact HR2.out
    ·rw[downL_go hbig (j:=p) (by rw[hp,hq];exact if_neg (fun e=>hx e.2))] at hu
     have HD1:=Lib.hid (decide_eq_false hx)
     clear hx
     by_cases hy:l'.getD p 0<l'.getD i' 0
     ·rw[if_pos hy] at hu
      have HU2:=Lib.hid hu
      have HD2:=Lib.hid (decide_eq_true hy)
      clear hu hy hp hq hbig
      go_wp2_with (first
       |(go_at_call 258;rw[←hl'.out];with_reducible refine(rless_true HR'.out (i:=q) (j:=p) (by rw[hl'.out];omega) (by rw[hl'.out];omega) HD1.out).mono ?_;rintro e w1 ⟨rfl,hr1,hf1⟩;have c1:=hr1.c.1;rw[hl'.out] at c1;have hm2:=meth_less c1;have hs2:=meth_swap c1;have HR1:=Lib.hid hr1;clear hr1 c1)
       |(go_at_call 258;rw[←hl'.out];with_reducible refine(rless_true HR1.out (i:=p) (j:=i') (by rw[hl'.out];omega) (by rw[hl'.out];omega) HD2.out).mono ?_;rintro e w2 ⟨rfl,hr2,hf2⟩;have c2:=hr2.c.1;rw[hl'.out] at c2;have hm3:=meth_less c2;have hs3:=meth_swap c2;have HR2:=Lib.hid hr2;clear hr2 c2)
       |(go_at_call 259;rw[←hl'.out];with_reducible refine(rswap_any HR2.out (i:=i') (j:=p) (by rw[hl'.out];omega) (by rw[hl'.out];omega)).mono ?_;rintro e w3 ⟨rfl,hr3,hf3⟩;have HR3:=Lib.hid hr3;clear hr3))
      go_roundw
      case rel=>exact⟨f'',p,swapL l' i' p,by simp,by omega,Lib.hid (by rw[swapL_len];exact hl'.out),by omega,HR3,HU2,(((hfoot.trans (hf1.mono (hfoot.size) fun _ _ h=>h)).trans (hf2.mono (Nat.le_trans (hfoot.size) hf1.size) fun _ _ h=>h)).trans (hf3.mono (Nat.le_trans (Nat.le_trans (hfoot.size) hf1.size) hf2.size) fun _ _ h=>h))⟩
      case measure=>simp[intOf];omega
     ·rw[if_neg hy] at hu
      have HU2:=Lib.hid hu
      have HD2:=Lib.hid (decide_eq_false hy)
      clear hu hy hp hq hbig
      go_wp2_with (first
       |(go_at_call 258;rw[←hl'.out];with_reducible refine(rless_true HR'.out (i:=q) (j:=p) (by rw[hl'.out];omega) (by rw[hl'.out];omega) HD1.out).mono ?_;rintro e w1 ⟨rfl,hr1,hf1⟩;have c1:=hr1.c.1;rw[hl'.out] at c1;have hm2:=meth_less c1;have hs2:=meth_swap c1;have HR1:=Lib.hid hr1;clear hr1 c1)
       |(go_at_call 258;rw[←hl'.out];with_reducible refine(rless_true HR1.out (i:=p) (j:=i') (by rw[hl'.out];omega) (by rw[hl'.out];omega) HD2.out).mono ?_;rintro e w2 ⟨rfl,hr2,hf2⟩;have c2:=hr2.c.1;rw[hl'.out] at c2;have hm3:=meth_less c2;have hs3:=meth_swap c2;have HR2:=Lib.hid hr2;clear hr2 c2))
      go_ret
      refine⟨⟨_,rfl⟩, ?_,((hfoot.trans (hf1.mono (hfoot.size) fun _ _ h=>h)).trans (hf2.mono (Nat.le_trans (hfoot.size) hf1.size) fun _ _ h=>h))⟩
      rw[←HU2.out];exact HR2.out
   ·have d3:decide ((q:Int)<(n:Int))=false:=by simpa using hc
    rw[downL_go hbig (j:=p) (by rw[hp,hq];exact if_neg (fun e=>hc e.1))] at hu
    by_cases hy:l'.getD p 0<l'.getD i' 0
    ·rw[if_pos hy] at hu
     have HU2:=Lib.hid hu
     have HD2:=Lib.hid (decide_eq_true hy)
     clear hu hy hp hq hbig
     go_wp2_with (first
      |(go_at_call 258;rw[←hl'.out];with_reducible refine(rless_true HR'.out (i:=p) (j:=i') (by rw[hl'.out];omega) (by rw[hl'.out];omega) HD2.out).mono ?_;rintro e w1 ⟨rfl,hr1,hf1⟩;have c1:=hr1.c.1;rw[hl'.out] at c1;have hm2:=meth_less c1;have hs2:=meth_swap c1;have HR1:=Lib.hid hr1;clear hr1 c1)
      |(go_at_call 259;rw[←hl'.out];with_reducible refine(rswap_any HR1.out (i:=i') (j:=p) (by rw[hl'.out];omega) (by rw[hl'.out];omega)).mono ?_;rintro e w2 ⟨rfl,hr2,hf2⟩;have HR2:=Lib.hid hr2;clear hr2))
     go_roundw
     case rel=>exact⟨f'',p,swapL l' i' p,by simp,by omega,Lib.hid (by rw[swapL_len];exact hl'.out),by omega,HR2,HU2,((hfoot.trans (hf1.mono (hfoot.size) fun _ _ h=>h)).trans (hf2.mono (Nat.le_trans (hfoot.size) hf1.size) fun _ _ h=>h))⟩
     case measure=>simp[intOf];omega
    ·rw[if_neg hy] at hu
     have HU2:=Lib.hid hu
     have HD2:=Lib.hid (decide_eq_false hy)
     clear hu hy hp hq hbig
     go_wp2_with (first
      |(go_at_call 258;rw[←hl'.out];with_reducible refine(rless_true HR'.out (i:=p) (j:=i') (by rw[hl'.out];omega) (by rw[hl'.out];omega) HD2.out).mono ?_;rintro e w1 ⟨rfl,hr1,hf1⟩;have c1:=hr1.c.1;rw[hl'.out] at c1;have hm2:=meth_less c1;have hs2:=meth_swap c1;have HR1:=Lib.hid hr1;clear hr1 c1))
     go_ret
     refine⟨⟨_,rfl⟩, ?_,(hfoot.trans (hf1.mono (hfoot.size) fun _ _ h=>h))⟩
     rw[←HU2.out];exact HR1.out
theorem meth_push {r:Nat} {w:World}:(method 432 170 (.pointer (some ⟨r,0,none⟩)) "Push").run Tryz.prog w= .ok (261,.pointer (some ⟨r,0,none⟩)) w:=by kernel_rfl
theorem meth_pop {r:Nat} {w:World}:(method 432 170 (.pointer (some ⟨r,0,none⟩)) "Pop").run Tryz.prog w= .ok (260,.pointer (some ⟨r,0,none⟩)) w:=by kernel_rfl
attribute [local go_sem] meth_push meth_pop
theorem hpush_any {r g cap:Nat} {l:List Int} {w:World} (h:RowSt r g cap l w) (n:Int) (hl:l.length≤900000):
  Calls Tryz.prog 166 #[.iface 170 (.pointer (some ⟨r,0,none⟩)),.iface 3 (.int .i64 n)] w fun e w'=>e= .returned (.tuple #[])∧∃g' cap',RowSt r g' cap' (pushL l n) w'∧(g'=g∨w.heap.size≤g')∧Foot w.heap.size (fun k=>k=r∨k=g) w w':=by
 have HR:=Lib.hid h
 clear h
 obtain⟨R,HX⟩:∃R,Hid (upL (l.length+1) (l++ [n]) l.length=R):=⟨_,rfl⟩
 have HP:Hid (pushL l n=R):=HX
 rw[HP.out]
 obtain⟨m,HN⟩:∃m,Hid (l.length=m):=⟨_,rfl⟩
 have HN2:Hid ((l++ [n]).length=m+1):=Lib.hid (by rw[List.length_append,HN.out];rfl)
 rw[HN.out] at hl HX
 go_enter Tryz.func166,Tryz.ntmps166
 go_wp2_with (first
  |(go_at_call 261;refine(rpush_any HR.out n (by rw[HN.out];omega)).mono ?_;rintro e w1 ⟨rfl,g',cap',hr1,hg1,hf1⟩;have c1:=hr1.c.1;rw[HN2.out] at c1;have hm1:=meth_len c1;have HR1:=Lib.hid hr1;clear hr1 c1)
  |(go_at_call 257;rw[←HN2.out];refine(rlen_any _ _ _ _).mono ?_;rintro e w2 ⟨rfl,rfl⟩;rw[HN2.out])
  |(go_at_call 192;refine(up_any (f:=m+1) HR1.out (by rw[HN2.out];omega) (by omega) (by rw[HN2.out];omega)).mono ?_;rintro e w3 ⟨rfl,hr3,hf3⟩;have HR3:=Lib.hid hr3;clear hr3))
 go_end0
 rw[HX.out] at HR3
 refine⟨rfl,g',cap',HR3.out,hg1,hf1.trans (hf3.mono hf1.size fun k hk e=> ?_)⟩
 rcases hg1 with e1|e1
 ·exact .inr (by omega)
 ·omega
theorem downL_len:∀(f:Nat) (l:List Int) (i n:Nat),(downL f l i n).length=l.length
 |0,_,_,_=>rfl
 |f+1,l,i,n=>by
  by_cases h:n≤2*i+1
  ·rw[downL,if_pos h]
  ·obtain⟨j,hj⟩:∃j,(if 2*i+2<n∧l.getD (2*i+2) 0<l.getD (2*i+1) 0 then 2*i+2 else 2*i+1)=j:=⟨_,rfl⟩
   rw[downL_go h hj]
   split
   ·rw[downL_len f,swapL_len]
   ·rfl
theorem hpop_any {r g cap:Nat} {l:List Int} {w:World} (h:RowSt r g cap l w) (h0:0<l.length) (hl:l.length≤900000):
  Calls Tryz.prog 125 #[.iface 170 (.pointer (some ⟨r,0,none⟩))] w fun e w'=>e= .returned (.iface 3 (.int .i64 (popL l).1))∧RowSt r g cap (popL l).2 w'∧Foot w.heap.size (fun k=>k=r∨k=g) w w':=by
 have HR:=Lib.hid h
 have c0:=h.c.1
 clear h
 obtain⟨m,hm⟩:∃m,l.length=m+1:=⟨l.length-1,by omega⟩
 have HM:=Lib.hid hm
 obtain⟨L1,HL1⟩:∃L1,Hid (swapL l 0 m=L1):=⟨_,rfl⟩
 obtain⟨L2,HL2⟩:∃L2,Hid (downL (m+1) L1 0 m=L2):=⟨_,rfl⟩
 have hl1:L1.length=m+1:=by rw[←HL1.out,swapL_len,hm]
 have hl2:L2.length=m+1:=by rw[←HL2.out,downL_len,hl1]
 have HN1:=Lib.hid hl1
 have HN2:=Lib.hid hl2
 have hp:popL l=(L2.getD m 0,L2.take m):=by
  unfold popL
  rw[hm,Nat.add_sub_cancel,HL1.out,HL2.out]
 rw[hp]
 rw[hm] at c0 hl
 have hm1:=meth_len c0
 clear hm h0 hl1 hl2 hp c0
 go_enter Tryz.func125,Tryz.ntmps125
 go_wp2_with (first
  |(go_at_call 257;refine(rlen_any _ _ _ _).mono ?_;rintro e w0 ⟨rfl,rfl⟩;have c1:=HR.out.c.1;rw[HM.out] at c1;have hm2:=meth_swap c1;clear c1)
  |(go_at_call 259;rw[←HM.out];refine(rswap_any HR.out (i:=0) (j:=m) (by rw[HM.out];omega) (by rw[HM.out];omega)).mono ?_;rintro e w1 ⟨rfl,hr1,hf1⟩;rw[HL1.out] at hr1;have HR1:=Lib.hid hr1;clear hr1)
  |(go_at_call 164;refine(down_any (f:=m+1) (i:=0) (n:=m) HR1.out (by rw[HN1.out];omega) (by omega) (by omega) (by rw[HN1.out];omega)).mono ?_;rintro e w2 ⟨⟨b,rfl⟩,hr2,hf2⟩;rw[HL2.out] at hr2;have HR2:=Lib.hid hr2;clear hr2)
  |(go_at_call 260;with_reducible refine(rpop_any HR2.out (by rw[HN2.out];omega) (by rw[HN2.out];omega)).mono ?_;rintro e w3 ⟨rfl,hr3,hf3⟩;have HR3:=Lib.hid hr3;clear hr3))
 go_ret
 refine⟨by simp[HN2.out], ?_, ?_⟩
 ·have:=HR3.out
  rw[HN2.out,Nat.add_sub_cancel] at this
  exact this
 ·exact((hf1.mono (Nat.le_refl _) fun k _ e=> .inr e).trans (hf2.mono hf1.size fun k _ e=> .inr e)).trans (hf3.mono (Nat.le_trans hf1.size hf2.size) fun k _ e=> .inl e)
structure TodoAt (lo t g cap:Nat) (l:List Int) (w:World):Prop where
 box:w.heap[t]? =some (.cells #[.slice (some ⟨g,0,none⟩) l.length cap] 22 (0,0))
 own:w.ownsRow 0 3 1 (.slice (some ⟨g,0,none⟩) l.length cap) l.length (rowI l)
 ne:t≠g
 lo:lo≤g
theorem own_kept {w W:World} {g cap:Nat} {l:List Int} (h:w.ownsRow 0 3 1 (.slice (some ⟨g,0,none⟩) l.length cap) l.length (rowI l)) (hk:W.heap[g]? =w.heap[g]?):W.ownsRow 0 3 1 (.slice (some ⟨g,0,none⟩) l.length cap) l.length (rowI l):=by
 obtain⟨h1,h2⟩:=h
 refine⟨h1, ?_⟩
 rcases h2 with h2|⟨g',cap',cur,hv,hb,hg,r⟩
 ·exact .inl h2
 ·have hv':=hv
  simp only[Value.slice.injEq,Option.some.injEq,Addr.mk.injEq,and_true,true_and] at hv'
  obtain⟨rfl,rfl⟩:=hv'
  exact .inr ⟨g,cap,cur,hv,hb,hk.trans hg,r⟩
theorem own_blk {w:World} {g cap:Nat} {l:List Int} (h:w.ownsRow 0 3 1 (.slice (some ⟨g,0,none⟩) l.length cap) l.length (rowI l)):g<w.heap.size:=by
 rcases h.2 with⟨h2,_⟩|⟨g',cap',cur,hv,hb,hg,r⟩
 ·cases h2
 ·simp only[Value.slice.injEq,Option.some.injEq,Addr.mk.injEq,and_true,true_and] at hv
  obtain⟨rfl,rfl⟩:=hv
  exact(Array.getElem?_eq_some_iff.1 hg).1
theorem TodoAt.keep {lo t g cap:Nat} {l:List Int} {w W:World} (h:TodoAt lo t g cap l w) (h1:W.heap[t]? =w.heap[t]?) (h2:W.heap[g]? =w.heap[g]?):TodoAt lo t g cap l W:=⟨h1.trans h.box,own_kept h.own h2,h.ne,h.lo⟩
theorem TodoAt.row {lo t g cap:Nat} {l:List Int} {w:World} (h:TodoAt lo t g cap l w):RowSt w.heap.size g cap l (w.alloc (.cells #[.slice (some ⟨g,0,none⟩) l.length cap] 168 (0,0))):=by
 have hg:=own_blk h.own
 exact⟨heap_alloc_new _ _,own_kept h.own (heap_alloc_old _ _ hg),by omega⟩
theorem todo_facts {lo t g cap:Nat} {l:List Int} {w w1:World} (h:TodoAt lo t g cap l w) (hf:Foot (w.alloc (.cells #[.slice (some ⟨g,0,none⟩) l.length cap] 168 (0,0))).heap.size (fun k=>k=w.heap.size∨k=g) (w.alloc (.cells #[.slice (some ⟨g,0,none⟩) l.length cap] 168 (0,0))) w1):
  w1.cell? ⟨t,0,none⟩=some (.slice (some ⟨g,0,none⟩) l.length cap)∧w1.frozen? ⟨t,0,none⟩=false∧
  (∀v,Foot w.heap.size (fun k=>k=t∨k=g) w (w1.setCell ⟨t,0,none⟩ v))∧
  ∀ {g' cap':Nat} (l':List Int),RowSt w.heap.size g' cap' l' w1→(g'=g∨(w.alloc (.cells #[.slice (some ⟨g,0,none⟩) l.length cap] 168 (0,0))).heap.size≤g')→TodoAt lo t g' cap' l' (w1.setCell ⟨t,0,none⟩ (.slice (some ⟨g',0,none⟩) l'.length cap')):=by
 have ht:=(Array.getElem?_eq_some_iff.1 h.box).1
 have hg:=own_blk h.own
 have hsz:(w.alloc (.cells #[.slice (some ⟨g,0,none⟩) l.length cap] 168 (0,0))).heap.size=w.heap.size+1:=by simp
 have hb:w1.heap[t]? =some (.cells #[.slice (some ⟨g,0,none⟩) l.length cap] 22 (0,0)):=by
  rw[hf.block t (by rw[hsz];omega) (by rintro(e|e);omega;exact h.ne e)]
  exact(heap_alloc_old _ _ ht).trans h.box
 have hF:Foot w.heap.size (fun k=>k=t∨k=g) w w1:=by
  refine⟨hf.os,hf.tape,hf.output,by have:=hf.size;omega,fun k hk hn=> ?_⟩
  rw[hf.block k (by rw[hsz];omega) (by rintro(e|e);omega;exact hn (.inr e))]
  exact heap_alloc_old _ _ hk
 refine⟨cell_of_row w1 t 0 _ _ _ hb,frozen_of_row w1 t 0 _ _ hb,fun v=>hF.set (.inr (.inl rfl)) v,fun {g' cap'} l' hr hg'=> ?_⟩
 have hne:t≠g':=by
  rcases hg' with e|e
  ·rw[e];exact h.ne
  ·rw[hsz] at e;omega
 refine⟨heap_setCell_same w1 t 0 _ _ _ hb,own_kept hr.own (heap_setCell_other _ _ _ _ (Ne.symm hne)),hne, ?_⟩
 rcases hg' with e|e
 ·rw[e];exact h.lo
 ·rw[hsz] at e;have:=h.lo;omega
theorem push_any {lo t g cap:Nat} {l:List Int} {w:World} (h:TodoAt lo t g cap l w) (n:Int) (hl:l.length≤900000) (_hlo:lo≤w.heap.size):
  Calls Tryz.prog 129 #[.pointer (some ⟨t,0,none⟩),.int .i64 n] w fun e w'=>e= .returned (.tuple #[])∧∃g' cap',TodoAt lo t g' cap' (pushL l n) w'∧(g'=g∨w.heap.size≤g')∧Foot w.heap.size (fun k=>k=t∨k=g) w w':=by
 have H:=Lib.hid h
 have c0:=cell_of_row w t 0 _ _ _ h.box
 have f0:=frozen_of_row w t 0 _ _ h.box
 simp only[List.getElem?_toArray,List.getElem?_cons_zero] at c0
 clear h
 have hrow:=H.out.row
 have HRW:=Lib.hid hrow
 have htw:t<w.heap.size:=(Array.getElem?_eq_some_iff.1 H.out.box).1
 clear hrow
 go_enter Tryz.func129,Tryz.ntmps129
 go_wp2_with (go_at_call 166;refine(hpush_any HRW.out n hl).mono ?_;rintro e w1 ⟨rfl,g',cap',hr1,hg1,hf1⟩;have c1:=hr1.c.1;have hf:=todo_facts H.out hf1;have c2:=hf.1;have f2:=hf.2.1;have HF:=Lib.hid hf.2.2;have HR1:=Lib.hid hr1;clear hf hr1)
 go_end0
 refine⟨rfl,g',cap',HF.out.2 _ HR1.out hg1, ?_,HF.out.1 _⟩
 rcases hg1 with e|e
 ·exact .inl e
 ·simp at e;exact .inr (by omega)
theorem pop_any {lo t g cap:Nat} {l:List Int} {w:World} (h:TodoAt lo t g cap l w) (h0:0<l.length) (hl:l.length≤900000):
  Calls Tryz.prog 84 #[.pointer (some ⟨t,0,none⟩)] w fun e w'=>e= .returned (.int .i64 (popL l).1)∧TodoAt lo t g cap (popL l).2 w'∧Foot w.heap.size (fun k=>k=t∨k=g) w w':=by
 have H:=Lib.hid h
 have c0:=cell_of_row w t 0 _ _ _ h.box
 have f0:=frozen_of_row w t 0 _ _ h.box
 simp only[List.getElem?_toArray,List.getElem?_cons_zero] at c0
 clear h
 have qT:∀(n:Int) w,(Instr.typeAssert (.iface 3 (.int .i64 n)) 20 3 false).run Tryz.prog w= .ok (.int .i64 n) w:=fun n w=>by kernel_rfl
 have hrow:=H.out.row
 have HRW:=Lib.hid hrow
 have htw:t<w.heap.size:=(Array.getElem?_eq_some_iff.1 H.out.box).1
 clear hrow
 obtain⟨x,r,hp⟩:∃x r,popL l=(x,r):=⟨_,_,rfl⟩
 have HP:=Lib.hid (hpop_any HRW.out h0 hl)
 rw[hp] at HP⊢
 go_enter Tryz.func84,Tryz.ntmps84
 go_wp2_with (go_at_call 125;refine HP.out.mono ?_;rintro e w1 ⟨rfl,hr1,hf1⟩;have c1:=hr1.c.1;have hf:=todo_facts H.out hf1;have c2:=hf.1;have f2:=hf.2.1;have HF:=Lib.hid hf.2.2;have HR1:=Lib.hid hr1;clear hf hr1)
 go_ret
 exact⟨rfl,HF.out.2 _ HR1.out (.inl rfl),HF.out.1 _⟩
end Go.Proofs.YtagnicbknbmccaaGreatDoor
