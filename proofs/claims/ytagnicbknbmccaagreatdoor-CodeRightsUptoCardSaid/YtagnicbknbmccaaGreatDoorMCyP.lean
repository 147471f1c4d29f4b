/- copy and make at whatever size of an element; what guiselaw13.lent has laid so far. guiselaw13.lent: a function's own rows; the row of functions. CodeTurns: for every program that is not too great the law answers true (the walk). guiseref13.fits: what a round hands on, in plain form. What a fine instruction gives to guiseref13.fits. guiselaw13.told of what is right; guiselaw13.fresh. -/
import Derived.Laws.MakeOwn
import Derived.Laws.CopyRow
import Derived.LaidEqlPtr
import Derived.Test.YtagnicbknbmccaaGreatDoorMCyK
import Derived.Test.YtagnicbknbmccaaGreatDoorMCwF
import Derived.Test.YtagnicbknbmccaaGreatDoorSqC
import Derived.Test.YtagnicbknbmccaaGreatDoorMCzV
import Derived.Test.YtagnicbknbmccaaGreatDoorMScanA
import Derived.Test.YtagnicbknbmccaaGreatDoorMCyJ
import Derived.Test.YtagnicbknbmccaaGreatDoorMRfF
import Derived.Test.YtagnicbknbmccaaGreatDoorMCzO
set_option maxRecDepth 100000
set_option maxHeartbeats 4000000
namespace Go.Proofs.YtagnicbknbmccaaGreatDoor
open Go.RowKit
structure Only (g:Nat) (w w':World):Prop where
 os:w'.os=w.os
 tape:w'.tape=w.tape
 output:w'.output=w.output
 size:w'.heap.size=w.heap.size
 block:∀k,k≠g→w'.heap[k]? =w.heap[k]?
theorem Only.below {g:Nat} {B:Nat} {w0 w w':World} (h:Only g w w') (hb:Below B w0 w) (hB:B≤g):Below B w0 w':=
 hb.trans ⟨h.os,h.tape,h.output,by rw[h.size];exact Nat.le_refl _,fun k hk=>h.block k (by omega)⟩
theorem Only.set (g:Nat) (w:World) (i:Nat) (v:Value):Only g w (w.setCell ⟨g,i,none⟩ v):=⟨rfl,rfl,rfl,by simp,fun k hk=>Below.heap_setCell _ _ _ _ hk⟩
theorem Only.trans {g:Nat} {a b c:World} (h:Only g a b) (k:Only g b c):Only g a c:=⟨k.os.trans h.os,k.tape.trans h.tape,k.output.trans h.output,k.size.trans h.size,fun i hi=>(k.block i hi).trans (h.block i hi)⟩
section
variable {P:Program}
theorem run_copyK (w:World) (dT sT ty elem:TypeId) (i:TypeInfo) (hu:P.underlying dT=some (.slice elem)) (hi:P.info? elem=some i) (g o dLen dCap:Nat) (sp:Option Addr) (sLen sCap:Nat) (cur:Array Value) (t:TypeId) (cs:List Value)
  (hg:w.heap[g]? =some (.cells cur t (0,0))) (hle:sLen≤dLen) (hn:cs.length=sLen*i.size) (hsrc:cs≠ []→∃ad,sp=some ad∧∀j v,cs[j]? =some v→w.cell? (ad.add j)=some v) (hfit:o+cs.length≤cur.size) (h1:∀v∈cs,v.oneCell'=true):
  (Builtin.copy_ #[dT,sT] ty #[.slice (some ⟨g,o,none⟩) dLen dCap,.slice sp sLen sCap]).run P w= .ok (goInt sLen) (w.setRow g (cur.toList.take o++cs++cur.toList.drop (o+cs.length)).toArray):=by
 have hf:(Builtin.firstCells i.size sLen (.slice sp sLen sCap)).run P w= .ok cs.toArray w:=by
  by_cases h0:cs=[]
  ·subst h0
   have hz:sLen*i.size=0:=hn.symm
   cases sp with
   |none=>exact run_firstCells_none w i.size sLen sLen sCap
   |some a=>exact run_firstCells_some w i.size sLen a sLen sCap [] (by simpa using hz.symm) (fun j v h=>by cases h)
  ·obtain⟨ad,rfl,hc⟩:=hsrc h0
   exact run_firstCells_some w i.size sLen ad sLen sCap cs (by simpa using hn) hc
 have hmin:Nat.min sLen dLen=sLen:=Nat.min_eq_left hle
 have hst:=run_storeCells_at P g o t cs 0 cur w hg (by simpa using hfit) h1
 rw[Nat.add_zero] at hst
 have hmin2:sLen.min dLen=sLen:=hmin
 simp[Builtin.copy_,run_underlying hu,sizeOf,typeInfo,hi,Builtin.lenOf,hmin2,hf,hst]
theorem copy_facts {w:World} (dT sT ty elem:TypeId) (i:TypeInfo) (hu:P.underlying dT=some (.slice elem)) (hi:P.info? elem=some i) (size:Nat) (hz:i.size=size)
  (g dLen dCap:Nat) (sp:Option Addr) (sLen sCap:Nat) (cur:List Value) (t:TypeId) (cs:List Value)
  (hg:w.heap[g]? =some (.cells cur.toArray t (0,0))) (hle:sLen≤dLen) (hn:cs.length=sLen*size) (hsrc:cs≠ []→∃ad,sp=some ad∧∀j v,cs[j]? =some v→w.cell? (ad.add j)=some v) (hfit:cs.length≤cur.length) (h1:∀v∈cs,v.oneCell'=true):
  ∃w',(Builtin.copy_ #[dT,sT] ty #[.slice (some ⟨g,0,none⟩) dLen dCap,.slice sp sLen sCap]).run P w= .ok (.int .i64 sLen) w'∧w'.heap[g]? =some (.cells (cs++cur.drop cs.length).toArray t (0,0))∧Only g w w':=by
 subst hz
 have hrun:=run_copyK (P:=P) w dT sT ty elem i hu hi g 0 dLen dCap sp sLen sCap cur.toArray t cs hg hle hn hsrc (by simpa using hfit) h1
 refine⟨_,hrun, ?_,⟨rfl,rfl,rfl,by simp[World.setRow],fun k hk=>setRow_other w g k _ hk⟩⟩
 have:=setRow_heap w g _ (cur.toArray.toList.take 0++cs++cur.toArray.toList.drop (0+cs.length)).toArray t _ hg
 simpa using this
end
def RowHi (W:World) (lo:Nat) (A:Option Addr) (cs:List Value):Prop:=cs=[]∨∃g o,A=some ⟨g,o,none⟩∧lo≤g∧g<W.heap.size∧∀(j:Nat) (v:Value),cs[j]? =some v→W.cell? ⟨g,o+j,none⟩=some v
theorem RowHi.row {W:World} {lo:Nat} {A:Option Addr} {cs:List Value} (h:RowHi W lo A cs):RowIs W W.heap.size A cs:=by
 rcases h with h|⟨g,o,hA,_,hg,hc⟩
 ·exact .inl h
 ·exact .inr ⟨g,o,hA,hg,hc⟩
theorem RowHi.keep {W W':World} {lo:Nat} {A:Option Addr} {cs:List Value} (h:RowHi W lo A cs) (hs:W.heap.size≤W'.heap.size) (hk:∀k,lo≤k→k<W.heap.size→W'.heap[k]? =W.heap[k]?):RowHi W' lo A cs:=by
 rcases h with h|⟨g,o,hA,hl,hg,hc⟩
 ·exact .inl h
 ·exact .inr ⟨g,o,hA,hl,by omega,fun j v hj=>(World.cell?_of_block (w:=W) (a:=⟨g,o+j,none⟩) (hk g hl hg)).trans (hc j v hj)⟩
theorem RowHi.of_block {W:World} {lo b:Nat} {cs xs:List Value} {t:TypeId} {fr:Nat×Nat} (h:W.heap[b]? =some (.cells xs.toArray t fr)) (hb:lo≤b) (hx:∀(j:Nat) (v:Value),cs[j]? =some v→xs[j]? =some v):RowHi W lo (some ⟨b,0,none⟩) cs:=
 .inr ⟨b,0,rfl,hb,(Array.getElem?_eq_some_iff.1 h).1,fun j v hj=>by rw[Nat.zero_add,cell_of_row W b j _ _ _ h,List.getElem?_toArray];exact hx j v hj⟩
def LiesHi (W:World) (lo:Nat) (x:Cf×Fv):Prop:=RowHi W lo x.2.ta (x.1.taken.map (Value.int .i64))∧RowHi W lo x.2.ca (x.1.code.flatMap insCells)∧x.1.taken.length≤x.2.tc∧x.1.code.length≤x.2.cc
structure LtS (w W:World) (p:Cp) (n m:Nat) (v0 v1:Value) (pb rb ob gb fb lo k:Nat) (ys:List (Cf×Fv)):Prop where
 low:Below w.heap.size w W
 lp:w.heap.size≤pb
 hpb:W.heap[pb]? =some (.cells #[v0,v1] 27 (0,0))
 hrb:W.heap[rb]? =some (.cells #[.slice none 0 0,.slice none 0 0] 27 (0,0))
 hob:W.heap[ob]? =some (.cells #[.slice (some ⟨fb,0,none⟩) (n+2) (n+2),.slice (some ⟨gb,0,none⟩) (m+2) (m+2)] 27 (0,0))
 hgb:∃cs:List Value,cs.length=m+2∧cs.take m=p.globals.map Value.string∧W.heap[gb]? =some (.cells cs.toArray 9 (0,0))
 hfb:∃cs:List Value,cs.length=(n+2)*6∧cs.take (k*6)=ys.flatMap fnCells∧W.heap[fb]? =some (.cells cs.toArray 33 (0,0))
 yf:ys.map Prod.fst=p.funcs.take k
 rows:∀y∈ys,LiesHi W lo y
 llo:lo≤W.heap.size
 d:w.heap.size≤gb∧w.heap.size≤fb∧w.heap.size≤rb∧w.heap.size≤ob∧pb<lo∧rb<lo∧ob<lo∧gb<lo∧fb<lo∧pb≠gb∧pb≠fb∧rb≠gb∧rb≠fb∧ob≠gb∧ob≠fb∧gb≠fb∧pb≠rb∧ob≠rb∧ob≠pb
section
variable {w W W':World} {p:Cp} {n m:Nat} {v0 v1:Value} {pb rb ob gb fb lo k:Nat} {ys:List (Cf×Fv)}
theorem LtS.under (h:LtS w W p n m v0 v1 pb rb ob gb fb lo k ys) (hb:Below W.heap.size W W'):LtS w W' p n m v0 v1 pb rb ob gb fb lo k ys:=by
 have hd:=h.d
 have hl:=h.llo
 have hk:∀j,j<lo→W'.heap[j]? =W.heap[j]? :=fun j hj=>hb.block j (by omega)
 obtain⟨cg,g1,g2,g3⟩:=h.hgb
 obtain⟨cf,f1,f2,f3⟩:=h.hfb
 exact⟨h.low.trans (hb.mono h.low.size),h.lp,(hk _ (by omega)).trans h.hpb,(hk _ (by omega)).trans h.hrb,(hk _ (by omega)).trans h.hob,⟨cg,g1,g2,(hk _ (by omega)).trans g3⟩,⟨cf,f1,f2,(hk _ (by omega)).trans f3⟩,h.yf,
  fun y hy=>⟨(h.rows y hy).1.keep hb.size fun j _ hj=>hb.block j hj,(h.rows y hy).2.1.keep hb.size fun j _ hj=>hb.block j hj,(h.rows y hy).2.2⟩,Nat.le_trans hl hb.size,hd⟩
theorem LtS.alloc (h:LtS w W p n m v0 v1 pb rb ob gb fb lo k ys) (o:Obj):LtS w (W.alloc o) p n m v0 v1 pb rb ob gb fb lo k ys:=h.under ((Below.refl _ _).alloc (Nat.le_refl _) _)
theorem LtS.set (h:LtS w W p n m v0 v1 pb rb ob gb fb lo k ys) {x:Nat} (hx:lo≤x) (hy:∀y∈ys,Value.ownBlock (.slice y.2.ta 0 0)≠some x∧Value.ownBlock (.slice y.2.ca 0 0)≠some x) (hw:Only x W W'):LtS w W' p n m v0 v1 pb rb ob gb fb lo k ys:=by
 have hd:=h.d
 have hl:=h.llo
 have hk:∀j,j<lo→W'.heap[j]? =W.heap[j]? :=fun j hj=>hw.block j (by omega)
 obtain⟨cg,g1,g2,g3⟩:=h.hgb
 obtain⟨cf,f1,f2,f3⟩:=h.hfb
 have hr:∀(A:Option Addr) (cs:List Value),RowHi W lo A cs→Value.ownBlock (.slice A 0 0)≠some x→RowHi W' lo A cs:=by
  intro A cs h1 h2
  rcases h1 with h1|⟨g,o,rfl,h3,h4,hc⟩
  ·exact .inl h1
  ·have hgx:g≠x:=fun e=>h2 (by simp[Value.ownBlock,e])
   exact .inr ⟨g,o,rfl,h3,by rw[hw.size];exact h4,fun j v hj=>(World.cell?_of_block (w:=W) (a:=⟨g,o+j,none⟩) (hw.block g hgx)).trans (hc j v hj)⟩
 exact⟨hw.below h.low (by have:=hd;have:=h.lp;omega),h.lp,(hk _ (by omega)).trans h.hpb,(hk _ (by omega)).trans h.hrb,(hk _ (by omega)).trans h.hob,⟨cg,g1,g2,(hk _ (by omega)).trans g3⟩,⟨cf,f1,f2,(hk _ (by omega)).trans f3⟩,h.yf,
  fun y hy1=>⟨hr _ _ (h.rows y hy1).1 (hy y hy1).1,hr _ _ (h.rows y hy1).2.1 (hy y hy1).2,(h.rows y hy1).2.2⟩,by rw[hw.size];exact hl,hd⟩
theorem LtS.markG (h:LtS w W p n m v0 v1 pb rb ob gb fb lo k ys) {j:Nat} (hj:m≤j) (v:Value):LtS w (W.setCell ⟨gb,j,none⟩ v) p n m v0 v1 pb rb ob gb fb lo k ys:=by
 have hd:=h.d
 have hl:=h.llo
 have hw:=Only.set gb W j v
 have hk:∀j,j≠gb→(W.setCell ⟨gb,j,none⟩ v).heap[j]? =W.heap[j]? :=fun j hj=>Below.heap_setCell _ _ _ _ hj
 have hk':∀i,i≠gb→(W.setCell ⟨gb,j,none⟩ v).heap[i]? =W.heap[i]? :=fun i hi=>Below.heap_setCell _ _ _ _ hi
 obtain⟨cg,g1,g2,g3⟩:=h.hgb
 obtain⟨cf,f1,f2,f3⟩:=h.hfb
 refine⟨hw.below h.low hd.1,h.lp,(hk' _ (by omega)).trans h.hpb,(hk' _ (by omega)).trans h.hrb,(hk' _ (by omega)).trans h.hob,⟨cg.set j v,by simpa using g1, ?_, ?_⟩,⟨cf,f1,f2,(hk' _ (by omega)).trans f3⟩,h.yf,
  fun y hy=>⟨(h.rows y hy).1.keep (by simp) fun i hi _=>hk' i (by omega),(h.rows y hy).2.1.keep (by simp) fun i hi _=>hk' i (by omega),(h.rows y hy).2.2⟩,by simpa using hl,hd⟩
 ·rw[←g2,List.take_set,List.set_eq_of_length_le (by simp;omega)]
 ·have:=heap_setCell_same W gb j _ _ v g3
  simpa using this
theorem LtS.markF (h:LtS w W p n m v0 v1 pb rb ob gb fb lo 0 []) (j:Nat) (v:Value):LtS w (W.setCell ⟨fb,j,none⟩ v) p n m v0 v1 pb rb ob gb fb lo 0 []:=by
 have hd:=h.d
 have hl:=h.llo
 have hw:=Only.set fb W j v
 have hk':∀i,i≠fb→(W.setCell ⟨fb,j,none⟩ v).heap[i]? =W.heap[i]? :=fun i hi=>Below.heap_setCell _ _ _ _ hi
 obtain⟨cg,g1,g2,g3⟩:=h.hgb
 obtain⟨cf,f1,f2,f3⟩:=h.hfb
 refine⟨hw.below h.low hd.2.1,h.lp,(hk' _ (by omega)).trans h.hpb,(hk' _ (by omega)).trans h.hrb,(hk' _ (by omega)).trans h.hob,⟨cg,g1,g2,(hk' _ (by omega)).trans g3⟩,⟨cf.set j v,by simpa using f1,by simp, ?_⟩,h.yf,fun y hy=>(nomatch hy),by simpa using hl,hd⟩
 have:=heap_setCell_same W fb j _ _ v f3
 simpa using this
end
theorem take_set_end {α:Type} (L:List α) (n:Nat) (a:α) (h:n<L.length):(L.set n a).take (n+1)=L.take n++ [a]:=by
 rw[List.take_set]
 have h1:L.take (n+1)=L.take n++ [L[n]]:=by rw[List.take_succ_eq_append_getElem h]
 rw[h1,List.set_append_right _ _ (by rw[List.length_take];omega)]
 simp[Nat.min_eq_left (Nat.le_of_lt h)]
theorem take_set6 {α:Type} (L:List α) (n:Nat) (a b c d e f:α) (h:n+5<L.length):((((((L.set n a).set (n+1) b).set (n+2) c).set (n+3) d).set (n+4) e).set (n+5) f).take (n+6)=L.take n++ [a,b,c,d,e,f]:=by
 rw[take_set_end _ (n+5) _ (by simp;omega),take_set_end _ (n+4) _ (by simp;omega),take_set_end _ (n+3) _ (by simp;omega),take_set_end _ (n+2) _ (by simp;omega),take_set_end _ (n+1) _ (by simp;omega),take_set_end _ n _ (by omega)]
 simp
theorem set_heap {W:World} {b j:Nat} {cs:List Value} {t:TypeId} (h:W.heap[b]? =some (.cells cs.toArray t (0,0))) (v:Value):(W.setCell ⟨b,j,none⟩ v).heap[b]? =some (.cells (cs.set j v).toArray t (0,0)):=by
 have:=heap_setCell_same W b j _ _ v h
 simpa using this
theorem alloc3 (w:World) (A B C:Obj):∃W x t c,((w.alloc A).alloc B).alloc C=W∧w.heap.size=x∧x+1=t∧t+1=c∧W.heap[x]? =some A∧W.heap[t]? =some B∧W.heap[c]? =some C∧Below w.heap.size w W:=by
 have s1:(w.alloc A).heap.size=w.heap.size+1:=World.size_alloc _ _
 have s2:((w.alloc A).alloc B).heap.size=w.heap.size+1+1:=by rw[World.size_alloc,s1]
 have n1:=heap_alloc_new (w.alloc A) B
 have n2:=heap_alloc_new ((w.alloc A).alloc B) C
 rw[s1] at n1
 rw[s2] at n2
 exact⟨_,_,_,_,rfl,rfl,rfl,rfl,(heap_alloc_old _ _ (by omega)).trans ((heap_alloc_old _ _ (by omega)).trans (heap_alloc_new w A)),(heap_alloc_old _ _ (by omega)).trans n1,n2,(((Below.refl _ _).alloc (Nat.le_refl _) A).alloc (by omega) B).alloc (by omega) C⟩
theorem row_src {w W:World} {A:Option Addr} {cs:List Value} (h:RowIs w w.heap.size A cs) (hb:Below w.heap.size w W):cs≠ []→∃ad,A=some ad∧∀j v,cs[j]? =some v→W.cell? (ad.add j)=some v:=by
 intro hne
 obtain⟨g,o,rfl,hg,hc⟩:=h.at (List.length_pos_iff.2 hne)
 refine⟨_,rfl,fun j v hj=> ?_⟩
 rw[Addr.add_lit]
 exact(World.cell?_of_block (w:=w) (a:=⟨g,o+j,none⟩) (hb.block g hg)).trans (hc j v hj)
structure ItS (W0 W:World) (f:Cf) (c3 c5:Value) (tn cn xb tb cb:Nat):Prop where
 low:Below W0.heap.size W0 W
 hx:W.heap[xb]? =some (.cells #[.string f.name,.int .i64 f.params,.int .i64 f.slots,c3,.int .i64 f.around,c5] 33 (0,0))
 ht:∃ts:List Value,ts.length=tn+2∧ts.take tn=f.taken.map (Value.int .i64)∧W.heap[tb]? =some (.cells ts.toArray 3 (0,0))
 hc:∃cs:List Value,cs.length=(cn+2)*5∧cs.take (cn*5)=f.code.flatMap insCells∧W.heap[cb]? =some (.cells cs.toArray 36 (0,0))
 d:W0.heap.size≤xb∧W0.heap.size≤tb∧W0.heap.size≤cb∧xb≠tb∧xb≠cb∧tb≠cb
section
variable {W0 W:World} {f:Cf} {c3 c5:Value} {tn cn xb tb cb:Nat}
theorem ItS.tc (h:ItS W0 W f c3 c5 tn cn xb tb cb) {j:Nat} (hj:j<tn+2):(∃u,W.cell? ⟨tb,j,none⟩=some u)∧W.frozen? ⟨tb,j,none⟩=false:=by
 obtain⟨cs,h1,_,h2⟩:=h.ht
 have hjl:j<cs.length:=by omega
 refine⟨⟨cs[j],(cell_of_row W tb j _ _ _ h2).trans ?_⟩,frozen_of_row W tb j _ _ h2⟩
 rw[List.getElem?_toArray]
 exact List.getElem?_eq_getElem hjl
theorem ItS.cc (h:ItS W0 W f c3 c5 tn cn xb tb cb) {j:Nat} (hj:j<(cn+2)*5):(∃u,W.cell? ⟨cb,j,none⟩=some u)∧W.frozen? ⟨cb,j,none⟩=false:=by
 obtain⟨cs,h1,_,h2⟩:=h.hc
 have hjl:j<cs.length:=by omega
 refine⟨⟨cs[j],(cell_of_row W cb j _ _ _ h2).trans ?_⟩,frozen_of_row W cb j _ _ h2⟩
 rw[List.getElem?_toArray]
 exact List.getElem?_eq_getElem hjl
theorem ItS.xc (h:ItS W0 W f c3 c5 tn cn xb tb cb):W.cell? ⟨xb,0,none⟩=some (.string f.name)∧W.cell? ⟨xb,1,none⟩=some (.int .i64 f.params)∧W.cell? ⟨xb,2,none⟩=some (.int .i64 f.slots)∧W.cell? ⟨xb,3,none⟩=some c3∧W.cell? ⟨xb,4,none⟩=some (.int .i64 f.around)∧W.cell? ⟨xb,5,none⟩=some c5∧W.frozen? ⟨xb,3,none⟩=false∧W.frozen? ⟨xb,5,none⟩=false:=by
 have c:=fun k=>cell_of_row W xb k _ _ _ h.hx
 exact⟨c 0,c 1,c 2,c 3,c 4,c 5,frozen_of_row W xb 3 _ _ h.hx,frozen_of_row W xb 5 _ _ h.hx⟩
theorem ItS.markT (h:ItS W0 W f c3 c5 tn cn xb tb cb) {j:Nat} (hj:tn≤j) (v:Value):ItS W0 (W.setCell ⟨tb,j,none⟩ v) f c3 c5 tn cn xb tb cb:=by
 have hd:=h.d
 have hk:∀i,i≠tb→(W.setCell ⟨tb,j,none⟩ v).heap[i]? =W.heap[i]? :=fun i hi=>Below.heap_setCell _ _ _ _ hi
 obtain⟨ts,t1,t2,t3⟩:=h.ht
 obtain⟨cs,c1,c2,c3'⟩:=h.hc
 refine⟨h.low.setCell hd.2.1 _,(hk _ (by omega)).trans h.hx,⟨ts.set j v,by simpa using t1, ?_,set_heap t3 v⟩,⟨cs,c1,c2,(hk _ (by omega)).trans c3'⟩,hd⟩
 rw[←t2,List.take_set,List.set_eq_of_length_le (by simp;omega)]
theorem ItS.markC (h:ItS W0 W f c3 c5 tn cn xb tb cb) {j:Nat} (hj:cn*5≤j) (v:Value):ItS W0 (W.setCell ⟨cb,j,none⟩ v) f c3 c5 tn cn xb tb cb:=by
 have hd:=h.d
 have hk:∀i,i≠cb→(W.setCell ⟨cb,j,none⟩ v).heap[i]? =W.heap[i]? :=fun i hi=>Below.heap_setCell _ _ _ _ hi
 obtain⟨ts,t1,t2,t3⟩:=h.ht
 obtain⟨cs,c1,c2,c3'⟩:=h.hc
 refine⟨h.low.setCell hd.2.2.1 _,(hk _ (by omega)).trans h.hx,⟨ts,t1,t2,(hk _ (by omega)).trans t3⟩,⟨cs.set j v,by simpa using c1, ?_,set_heap c3' v⟩,hd⟩
 rw[←c2,List.take_set,List.set_eq_of_length_le (by simp;omega)]
theorem ItS.set3 (h:ItS W0 W f c3 c5 tn cn xb tb cb) (v:Value):ItS W0 (W.setCell ⟨xb,3,none⟩ v) f v c5 tn cn xb tb cb:=by
 have hd:=h.d
 have hk:∀i,i≠xb→(W.setCell ⟨xb,3,none⟩ v).heap[i]? =W.heap[i]? :=fun i hi=>Below.heap_setCell _ _ _ _ hi
 obtain⟨ts,t1,t2,t3⟩:=h.ht
 obtain⟨cs,c1,c2,c3'⟩:=h.hc
 exact⟨h.low.setCell hd.1 _,heap_setCell_same W xb 3 _ _ v h.hx,⟨ts,t1,t2,(hk _ (by omega)).trans t3⟩,⟨cs,c1,c2,(hk _ (by omega)).trans c3'⟩,hd⟩
theorem ItS.set5 (h:ItS W0 W f c3 c5 tn cn xb tb cb) (v:Value):ItS W0 (W.setCell ⟨xb,5,none⟩ v) f c3 v tn cn xb tb cb:=by
 have hd:=h.d
 have hk:∀i,i≠xb→(W.setCell ⟨xb,5,none⟩ v).heap[i]? =W.heap[i]? :=fun i hi=>Below.heap_setCell _ _ _ _ hi
 obtain⟨ts,t1,t2,t3⟩:=h.ht
 obtain⟨cs,c1,c2,c3'⟩:=h.hc
 exact⟨h.low.setCell hd.1 _,heap_setCell_same W xb 5 _ _ v h.hx,⟨ts,t1,t2,(hk _ (by omega)).trans t3⟩,⟨cs,c1,c2,(hk _ (by omega)).trans c3'⟩,hd⟩
theorem take_at {α:Type} {l xs:List α} {n:Nat} (h:l.take n=xs) {j:Nat} {v:α} (hj:xs[j]? =some v):l[j]? =some v:=by
 have hjn:j<n:=by
  have:=(List.getElem?_eq_some_iff.1 hj).1
  rw[←h,List.length_take] at this
  omega
 rw[←h,List.getElem?_take,if_pos hjn] at hj
 exact hj
theorem ItS.hi (h:ItS W0 W f c3 c5 tn cn xb tb cb) {lo:Nat} (hlo:lo≤W0.heap.size) (ht:f.taken.length=tn) (hc:f.code.length=cn):LiesHi W lo (f,⟨some ⟨tb,0,none⟩,tn+2,some ⟨cb,0,none⟩,cn+2⟩):=by
 have hd:=h.d
 obtain⟨ts,t1,t2,t3⟩:=h.ht
 obtain⟨cs,c1,c2,c3'⟩:=h.hc
 exact⟨RowHi.of_block t3 (by omega) fun j v hj=>take_at t2 hj,RowHi.of_block c3' (by omega) fun j v hj=>take_at c2 hj,by show f.taken.length≤tn+2;omega,by show f.code.length≤cn+2;omega⟩
end
section
variable {w W W':World} {p:Cp} {n m:Nat} {v0 v1:Value} {pb rb ob gb fb lo k:Nat} {ys:List (Cf×Fv)}
theorem LtS.put (h:LtS w W p n m v0 v1 pb rb ob gb fb lo k ys) {f:Cf} {fv:Fv} (hf:p.funcs[k]? =some f) (hk:k<n) (hr:LiesHi W lo (f,fv)):
  LtS w ((((((W.setCell ⟨fb,k*6,none⟩ (.string f.name)).setCell ⟨fb,k*6+1,none⟩ (.int .i64 f.params)).setCell ⟨fb,k*6+2,none⟩ (.int .i64 f.slots)).setCell ⟨fb,k*6+3,none⟩ (.slice fv.ta f.taken.length fv.tc)).setCell ⟨fb,k*6+4,none⟩ (.int .i64 f.around)).setCell ⟨fb,k*6+5,none⟩ (.slice fv.ca f.code.length fv.cc)) p n m v0 v1 pb rb ob gb fb lo (k+1) (ys++ [(f,fv)]):=by
 have hd:=h.d
 have hl:=h.llo
 obtain⟨cg,g1,g2,g3⟩:=h.hgb
 obtain⟨cf,f1,f2,f3⟩:=h.hfb
 have hw:Only fb W ((((((W.setCell ⟨fb,k*6,none⟩ (.string f.name)).setCell ⟨fb,k*6+1,none⟩ (.int .i64 f.params)).setCell ⟨fb,k*6+2,none⟩ (.int .i64 f.slots)).setCell ⟨fb,k*6+3,none⟩ (.slice fv.ta f.taken.length fv.tc)).setCell ⟨fb,k*6+4,none⟩ (.int .i64 f.around)).setCell ⟨fb,k*6+5,none⟩ (.slice fv.ca f.code.length fv.cc)):=
  (((((Only.set fb W _ _).trans (Only.set fb _ _ _)).trans (Only.set fb _ _ _)).trans (Only.set fb _ _ _)).trans (Only.set fb _ _ _)).trans (Only.set fb _ _ _)
 have hx:=set_heap (j:=k*6+5) (set_heap (j:=k*6+4) (set_heap (j:=k*6+3) (set_heap (j:=k*6+2) (set_heap (j:=k*6+1) (set_heap (j:=k*6) f3 (.string f.name)) (.int .i64 f.params)) (.int .i64 f.slots)) (.slice fv.ta f.taken.length fv.tc)) (.int .i64 f.around)) (.slice fv.ca f.code.length fv.cc)
 have hr2:∀y,LiesHi W lo y→LiesHi ((((((W.setCell ⟨fb,k*6,none⟩ (.string f.name)).setCell ⟨fb,k*6+1,none⟩ (.int .i64 f.params)).setCell ⟨fb,k*6+2,none⟩ (.int .i64 f.slots)).setCell ⟨fb,k*6+3,none⟩ (.slice fv.ta f.taken.length fv.tc)).setCell ⟨fb,k*6+4,none⟩ (.int .i64 f.around)).setCell ⟨fb,k*6+5,none⟩ (.slice fv.ca f.code.length fv.cc)) lo y:=
  fun y hy=>⟨hy.1.keep (by rw[hw.size];exact Nat.le_refl _) fun i hi _=>hw.block i (by omega),hy.2.1.keep (by rw[hw.size];exact Nat.le_refl _) fun i hi _=>hw.block i (by omega),hy.2.2⟩
 refine⟨hw.below h.low hd.2.1,h.lp,(hw.block _ (by omega)).trans h.hpb,(hw.block _ (by omega)).trans h.hrb,(hw.block _ (by omega)).trans h.hob,⟨cg,g1,g2,(hw.block _ (by omega)).trans g3⟩,⟨_, ?_, ?_,hx⟩, ?_,fun y hy=> ?_,by rw[hw.size];exact hl,hd⟩
 ·simpa using f1
 ·rw[show(k+1)*6=k*6+6 by omega,take_set6 _ _ _ _ _ _ _ _ (by omega),f2,List.flatMap_append,List.flatMap_cons,List.flatMap_nil,List.append_nil]
  rfl
 ·rw[List.map_append,h.yf]
  have hkl:=(List.getElem?_eq_some_iff.1 hf).1
  rw[List.take_succ_eq_append_getElem hkl,(List.getElem?_eq_some_iff.1 hf).2]
  rfl
 ·rcases List.mem_append.1 hy with hy|hy
  ·exact hr2 y (h.rows y hy)
  ·rw[List.mem_singleton.1 hy];exact hr2 _ hr
end
theorem headAll {w0:World} {p:Cp} {n m i:Nat} {fa ga:Option Addr} {xs:List (Cf×Fv)} (hp:PgAt w0 p n m fa ga xs) {f:Cf} (hf:p.funcs[i]? =some f):
  ∃g q fv,fa=some ⟨g,q,none⟩∧LiesF w0 w0.heap.size (f,fv)∧∀w,Below w0.heap.size w0 w→HeadAt w g q i n f.name f.params f.slots f.around fv.ta f.taken.length fv.tc fv.ca f.code.length fv.cc:=by
 obtain⟨g,q,fv,e,hl,x0,x1,x2,x3,x4,x5⟩:=hp.func hf
 have hg:g<w0.heap.size:=World.block_lt_of_cell? w0 ⟨g,q+i*6,none⟩ x0
 have hi:i<p.funcs.length:=(List.getElem?_eq_some_iff.1 hf).1
 refine⟨g,q,fv,e,hl,fun w hb0=> ?_⟩
 have hc:∀o v,w0.cell? ⟨g,o,none⟩=some v→w.cell? ⟨g,o,none⟩=some v:=fun o v h=>(hb0.cell (p:=⟨g,o,none⟩) hg).trans h
 exact⟨Nat.lt_of_lt_of_le hg hb0.size,by rw[←hp.fn];exact hi,hc _ _ x0,hc _ _ x1,hc _ _ x2,hc _ _ x3,hc _ _ x4,hc _ _ x5⟩
def toN (k:Nat) (xa:Int) (jj:Nat):Int:=if jj=0 then(k:Int)+1 else xa
def withN (q:Option (List UInt8)×Option (List UInt8)) (jj:Nat):Option (List UInt8):=if jj=0 then q.1 else q.2
def wvN (x1 x2:Int) (jj:Nat):Int:=if jj=0 then x1 else x2
def handsS (k:Nat) (xa:Int) (q:Option (List UInt8)×Option (List UInt8)) (jj:Nat) (a:List (Option (List UInt8))):Option Int×List (Option (List UInt8)):=
 if jj=0 then(if(handO a (k+1) q.1).2=false then(some ((k:Int)+1),(handO a (k+1) q.1).1) else
  if(handO (handO a (k+1) q.1).1 xa.toNat q.2).2=false then(some xa,(handO (handO a (k+1) q.1).1 xa.toNat q.2).1) else(none,(handO (handO a (k+1) q.1).1 xa.toNat q.2).1))
 else if jj=1 then(if(handO a xa.toNat q.2).2=false then(some xa,(handO a xa.toNat q.2).1) else(none,(handO a xa.toNat q.2).1))
 else(none,a)
def badB (o:Option (List UInt8)) (t:List UInt8):Bool:=match o with
 |none=>false
 |some u=> !(u==t)
theorem badB_false {o:Option (List UInt8)} {t:List UInt8} (h:badB o t=false):o=none∨o=some t:=by
 cases o with
 |none=>exact .inl rfl
 |some u=>
  unfold badB at h
  simp at h
  exact .inr (congrArg some h)
theorem badB_true {o:Option (List UInt8)} {t:List UInt8} (h:badB o t=true):∃u,o=some u∧u≠t:=by
 cases o with
 |none=>cases h
 |some u=>
  unfold badB at h
  simp at h
  exact⟨u,rfl,h⟩
section
variable {k jj:Nat} {xa:Int} {q:Option (List UInt8)×Option (List UInt8)} {a:List (Option (List UInt8))}
theorem hands_step (h:jj<2):handsS k xa q jj a=if(handO a (toN k xa jj).toNat (withN q jj)).2=false then(some (toN k xa jj),(handO a (toN k xa jj).toNat (withN q jj)).1) else handsS k xa q (jj+1) (handO a (toN k xa jj).toNat (withN q jj)).1:=by
 have h2:jj=0∨jj=1:=by omega
 rcases h2 with rfl|rfl
 ·rfl
 ·rfl
theorem hands_done:handsS k xa q 2 a=(none,a):=rfl
theorem hands_none (h:jj<2) (hw:withN q jj=none):handsS k xa q jj a=handsS k xa q (jj+1) a:=by
 rw[hands_step h,hw]
 rfl
theorem hands_set (h:jj<2) {t:List UInt8} (hw:withN q jj=some t) {tn:Nat} (ht:toN k xa jj=tn) (ha:a.getD tn none=none∨a.getD tn none=some t):handsS k xa q jj a=handsS k xa q (jj+1) (a.set tn (some t)):=by
 rw[hands_step h,hw,ht,Int.toNat_natCast]
 unfold handO handB
 rcases ha with e|e
 ·rw[e];rfl
 ·rw[e]
  dsimp only
  rw[if_neg (by simp)]
  congr 1
  apply List.ext_getElem?
  intro i
  rw[List.getElem?_set]
  split
  ·rename_i hi
   subst hi
   rw[List.getD_eq_getElem?_getD] at e
   split
   ·cases hx:a[tn]? with
    |none=>rw[hx] at e;cases e
    |some y=>rw[hx] at e;exact congrArg some e
   ·rename_i hlt
    rw[List.getElem?_eq_none (by omega)] at e
    cases e
  ·rfl
theorem hands_bad (h:jj<2) {t u:List UInt8} (hw:withN q jj=some t) {tn:Nat} (ht:toN k xa jj=tn) (ha:a.getD tn none=some u) (hne:u≠t):handsS k xa q jj a=(some (tn:Int),a):=by
 rw[hands_step h,hw,ht,Int.toNat_natCast]
 unfold handO handB
 rw[ha]
 dsimp only
 rw[if_pos (beq_eq_false_iff_ne.2 hne)]
theorem round_hands {code:List Ci} {x:Ci} {s:List UInt8} (hx:code[k]? =some x) (hs:a.getD k none=some s) (h:stepR x s=some q):roundS code a k=handsS k x.a q 0 a:=by
 unfold roundS
 rw[hx,hs]
 dsimp only
 rw[h]
 rfl
theorem round_none {code:List Ci} {x:Ci} {s:List UInt8} (hx:code[k]? =some x) (hs:a.getD k none=some s) (h:stepR x s=none):roundS code a k=(some (k:Int),a):=by
 unfold roundS
 rw[hx,hs]
 dsimp only
 rw[h]
theorem to_in {n:Nat} {x:Ci} {s:List UInt8} (hi:InOk n k x) (hd:doesR x s=some q) {t:List UInt8} (hw:withN q jj=some t):∃tn:Nat,toN k x.a jj=tn∧tn<n:=by
 unfold withN at hw
 unfold toN
 by_cases h0:jj=0
 ·rw[if_pos h0] at hw⊢
  rcases hi.last with e|e
  ·exact⟨k+1,rfl,e⟩
  ·rw[does_last hd e] at hw;cases hw
 ·rw[if_neg h0] at hw⊢
  obtain⟨h1,h2⟩:=hi.go (does_goes hd (by rw[hw];simp))
  exact⟨x.a.toNat,by omega,by omega⟩
theorem goes_with {n:Nat} {x:Ci} {s:List UInt8} (hi:InOk n k x) (hl:s.length≤30000) (h63:63 ∉ s) (hst:stepR x s=some q) (hg:goesB x.op=true):q.2≠none:=by
 rw[step_leaf x hi.op s hl h63 (counted_va hi.va) hi.va.2] at hst
 unfold leafR at hst
 cases hlv:leavesP x s with
 |none=>rw[hlv] at hst;cases hst
 |some p=>
  rw[hlv] at hst
  obtain rfl:=Option.some.inj hst
  dsimp only
  rw[if_pos hg]
  simp
end
theorem jumps_goes {op:Int} (h:op=34∨op=35∨op=36∨op=37∨op=52):goesB op=true:=by
 rcases h with rfl|rfl|rfl|rfl|rfl<;>rfl
theorem fine_va {p:Cp} {f:Nat} {o:Cf} {k:Nat} {x:Ci} (ho:p.funcs[f]? =some o) (h:fineB p f o.code k x=true) (hop:x.op=27∨x.op=28∨x.op=29∨x.op=46∨x.op=47∨x.op=48∨x.op=49∨x.op=53):0≤x.a∧x.a≤20000:=by
 unfold fineB at h
 simp only[Bool.and_eq_true,Bool.or_eq_true,decide_eq_true_eq,beq_iff_eq,Bool.not_eq_true'] at h
 obtain⟨_,_,_,hn,_,_,_,_⟩:=h
 unfold numberedB at hn
 rw[ho] at hn
 simp only at hn
 have hc:∀op:Int,x.op=op→(formOf op).a=7→0≤x.a∧x.a<20001:=fun op e1 e=>by rw[e1,e] at hn;simpa using hn
 have h9:x.op=29→0≤x.a∧x.a<31:=fun e=>by rw[e,show(formOf 29).a=8 from rfl] at hn;simpa using hn
 rcases hop with e|e|e|e|e|e|e|e
 ·have:=hc _ e rfl;omega
 ·have:=hc _ e rfl;omega
 ·have:=h9 e;omega
 ·have:=hc _ e rfl;omega
 ·have:=hc _ e rfl;omega
 ·have:=hc _ e rfl;omega
 ·have:=hc _ e rfl;omega
 ·have:=hc _ e rfl;omega
theorem codes_in {p:Cp} (h:codesFrom p 0 p.funcs=none) {f:Nat} {o:Cf} (hf:p.funcs[f]? =some o) (k:Nat) (x:Ci) (hx:o.code[k]? =some x):InOk o.code.length k x:=by
 obtain⟨h1,h2⟩:=codes_at p.funcs 0 h f o hf
 have h3:=fine_at o.code 0 h2 k x hx
 rw[Nat.zero_add,Nat.zero_add] at h3
 have hF:=fine_fit hf h3
 refine⟨hF.op,⟨fun e=>fine_va hf h3 e,hF.slice⟩,fun e=>hF.goes (jumps_goes e), ?_⟩
 by_cases h34:x.op=34
 ·exact .inr (.inr h34)
 ·by_cases h50:x.op=50
  ·exact .inr (.inl h50)
  ·exact .inl (hF.last h34 h50)
theorem noWrongC (w:World):Sem.run Tryz.prog (Instr.typeAssert .nilIface 38 42 true) w= .ok (.tuple #[.pointer none,.bool false]) w:=by kernel_rfl
theorem told_right {w:World} (a':Int) (s':ByteArray):
  Calls Tryz.prog 17 #[.nilIface,.agg #[.int .i64 0,.int .i64 a',.string s']] w fun e w'=>e= .returned (.bool true)∧Below w.heap.size w w':=by
 have hB:Below w.heap.size w (w.alloc (.cells #[.int .i64 0,.int .i64 a',.string s'] 46 (0,0))):=(Below.refl _ _).alloc (Nat.le_refl _) _
 go_enter Tryz.func17,Tryz.ntmps17
 go_wp2_with fail
 go_ret
 exact⟨rfl,hB⟩
theorem fresh_none {w:World}:
  Calls Tryz.prog 18 #[.nilIface,.nilIface] w fun e w'=>e= .returned (.bool true)∧Below w.heap.size w w':=by
 have hn:=noWrongC
 go_enter Tryz.func18,Tryz.ntmps18
 go_wp2_with fail
 go_ret
 exact⟨rfl,Below.refl _ _⟩
theorem run_neq_ptr_otherR {P:Program} (w:World) {tp te:TypeId} {j:TypeInfo} {a b:Addr} {ca cb:Array Value} {ta tb:TypeId} (hp:P.underlying tp=some (.pointer te)) (hte:P.info? te=some j) (hsz:j.size≠0)
  (hne:a≠b) (ha:w.heap[a.block]? =some (.cells ca ta (0,0))) (hb:w.heap[b.block]? =some (.cells cb tb (0,0))):
  (binOp .neq tp (.pointer (some a)) (.pointer (some b))).run P w= .ok (.bool true) w:=by
 have h:∀d:Nat,(Op.equalIn (d+1) tp (.pointer (some a)) (.pointer (some b))).run P w= .ok false w:=fun d=>by
  simp[Op.equalIn,run_underlying hp,sizeOf,typeInfo,hte,hsz,run_sameAddr_other w hne ha hb]
 simp only[binOp]
 simp[Op.equal,Op.maxDepth,h 9999]
theorem wrSize:(Tryz.prog.info? 46).map (fun j=>j.size)=some 3:=by kernel_rfl
theorem wrInfo:∃j,Tryz.prog.info? 46=some j∧j.size≠0:=by
 have e:=wrSize
 cases h:Tryz.prog.info? 46 with
 |none=>rw[h] at e;cases e
 |some j=>
  rw[h] at e
  have e2:j.size=3:=Option.some.inj e
  exact⟨j,rfl,by omega⟩
theorem fresh_some {w:World} {b c:Nat} {k a k' a':Int} {i i':Option Int} (h:b≠c) (hb:WrAt w b k a i) (hc:WrAt w c k' a' i'):
  Calls Tryz.prog 18 #[.iface 42 (.pointer (some ⟨b,0,none⟩)),.iface 42 (.pointer (some ⟨c,0,none⟩))] w fun e w'=>e= .returned (.bool true)∧Below w.heap.size w w':=by
 have hn:=isWrongC
 obtain⟨j,hj,hs⟩:=wrInfo
 have hq:∀n,(binOp .neq 42 (.pointer (some ⟨b,0,none⟩)) (.pointer (some ⟨c,0,none⟩))).run Tryz.prog (w.drewN n)= .ok (.bool true) (w.drewN n):=fun n=>run_neq_ptr_otherR (w.drewN n) Tryz.underlying42 hj hs (by intro e;injection e with e1;exact h e1) hb hc
 have hq0:(binOp .neq 42 (.pointer (some ⟨b,0,none⟩)) (.pointer (some ⟨c,0,none⟩))).run Tryz.prog w= .ok (.bool true) w:=hq 0
 clear hj hs h hb hc
 go_enter Tryz.func18,Tryz.ntmps18
 go_wp2_with fail
 go_ret
 exact⟨rfl,Below.refl _ _⟩
end Go.Proofs.YtagnicbknbmccaaGreatDoor
