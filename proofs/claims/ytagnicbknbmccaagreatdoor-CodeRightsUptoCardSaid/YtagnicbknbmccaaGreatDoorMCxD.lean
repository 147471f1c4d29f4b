/- code.text; the bytes that Encode lays down, with the boxes beside them. (*reader).function. code.Right of a program of one function, all of whose instructions are plain. (*strings.Builder).WriteString as this cut has it. code.headed of any function of any program. -/
import Derived.Laws.IdiomStrings
import Derived.Deep.AppendLies
import Derived.Lib.Builder
import Derived.Test.YtagnicbknbmccaaGreatDoorMCxA
import Derived.Test.YtagnicbknbmccaaGreatDoorMCwR
import Derived.Test.YtagnicbknbmccaaGreatDoorMCwP
import Derived.Test.YtagnicbknbmccaaGreatDoorMCwF
import Derived.Test.YtagnicbknbmccaaGreatDoorSqC
import Derived.Test.YtagnicbknbmccaaGreatDoorMCwX
import Derived.Test.YtagnicbknbmccaaGreatDoorMCwQ
import Derived.Test.YtagnicbknbmccaaGreatDoorMScanA
set_option maxRecDepth 100000
set_option maxHeartbeats 4000000
namespace Go.Proofs.YtagnicbknbmccaaGreatDoor
open Go.RowKit
theorem own_foot {w w2:World} {v:Value} (hg:w.grownBy w2 v.ownBlock):
  Foot w.heap.size (fun k=>v.ownBlock=some k) w w2:=
 ⟨hg.os,hg.tape,hg.output,hg.size,fun k hk hn=>hg.block k hk (fun e=>hn e.symm)⟩
theorem numbers_lit {w:World} {lo:Nat} {v:Value} {bs:List UInt8} (h:w.ownsRow lo 5 1 v bs.length (Lib.byteCells bs)) (hlo:lo≤w.heap.size) (l:List Int) {cs:List Value} (hcs:cs=l.map (Value.int .i64)) {n:Nat} (hn:n=l.length) (hok:∀n∈l,okI n) (hlen:bs.length+11*n≤100000000):
  Calls Tryz.prog 39 #[v,.slice (some ⟨w.heap.size,0,none⟩) n n] (w.alloc (.cells cs.toArray 3 (0,0))) (BytesPost w lo v (bs++l.flatMap numB)):=by
 subst hn
 have hlt:=h.lt
 refine(numbers_any (w:=w.alloc (.cells cs.toArray 3 (0,0))) (l:=l) (A:=some ⟨w.heap.size,0,none⟩) (cap:=l.length) (h.alloc _) (by simp;omega) (fun g hg=>by have:=(hlt g hg).2;simp;omega)
   (by
    refine .inr ⟨w.heap.size,0,rfl,by simp,fun j v hj=> ?_⟩
    have e:=cell_of_row (w.alloc (.cells cs.toArray 3 (0,0))) w.heap.size j _ _ _ (heap_alloc_new w _)
    rw[Nat.zero_add,e,List.getElem?_toArray,hcs,hj])
   (fun a ha=>by
    obtain rfl:=Option.some.inj ha
    intro e
    have:=(hlt _ e).2
    simp at this) hok (by omega)).mono ?_
 rintro e w1 ⟨v1,he,ho1,hf1,hb1⟩
 refine⟨v1,he,ho1, ?_,fun b hb=> ?_⟩
 ·exact⟨hf1.os,hf1.tape,hf1.output,by have:=hf1.size;rw[World.size_alloc] at this;omega,fun k hk hn=>(hf1.block k (by rw[World.size_alloc];omega) hn).trans (heap_alloc_old _ _ hk)⟩
 ·rcases hb1 b hb with h|h
  ·exact .inl h
  ·rw[World.size_alloc] at h;exact .inr (by omega)
section
variable {P:Program} (w:World)
theorem run_append_str_at (base:Nat) (t u ty e:TypeId) (i:TypeInfo) (ht:P.underlying t=some (.slice e)) (hu:P.underlying u=some .string) (hi:P.info? e=some i) (hz:i.zero=some (.int .u8 0))
  (hsize:i.size=1) (hby:i.bytes=1) (v:Value) (n:Nat) (xs:List Value) (hown:w.ownsRow base e 1 v n xs) (s:ByteArray)
  (h63:n+s.size≤maxLen) (hbytes:n+s.size≤140737488355328):∃v' w',(Builtin.append_ #[t,u] ty #[v,.string s]).run P w= .ok v' w'∧∀b,v'.ownBlock=some b→v.ownBlock=some b∨w.heap.size≤b:=by
 have hsmall:n+s.size≤9223372036854775807:=by simp only[maxLen] at h63;omega
 have hxl:xs.length=n:=by simpa using hown.1
 rcases hown.2 with⟨rfl,rfl⟩|⟨g,cap,cur,rfl,hbg,hg,hnc,hcm,hcs,htake⟩
 ·have hx:xs=[]:=List.eq_nil_of_length_eq_zero hxl
  subst hx
  by_cases hm:s.size=0
  ·have hn:Lib.strCells s=[]:=List.eq_nil_of_length_eq_zero (by rw[Lib.strCells_length];exact hm)
   have hf:=Lib.run_firstCells_string (P:=P) w 1 s
   rw[hm] at hf
   exact⟨.slice none 0 0,w,by simp[Builtin.append_,run_underlying ht,run_underlying hu,sizeOf,typeInfo,hi,hsize,Builtin.lenOf,hm,hf],fun b hb=>by simp[Value.ownBlock] at hb⟩
  ·refine⟨_,_,run_append_nil_string (P:=P) w t u ty e i (.int .u8 0) ht hu hi hz s (by omega) (by omega) (by rw[hby];omega),fun b hb=> ?_⟩
   simp only[Value.ownBlock,Option.some.injEq] at hb
   exact .inr (by omega)
 ·by_cases hroom:n+s.size≤cap
  ·have hcs':cur.size=cap:=by simpa using hcs
   exact⟨_,_,Lib.run_append_room_string (P:=P) w t u ty e i ht hu hi hsize g n cap cur hg s hroom (by omega),fun b hb=> .inl hb⟩
  ·have holds:∀j u,xs[j]? =some u→w.cell? ((⟨g,0,none⟩:Addr).add j)=some u:=hown.cells (g:=g) rfl
   refine⟨_,_,Lib.run_append_grow_string (P:=P) w t u ty e i (.int .u8 0) ht hu hi hz ⟨g,0,none⟩ n cap xs (by rw[hsize];simpa using hxl) holds s (by omega) (by omega) (by rw[hby];exact growslice_fits (by omega) (by omega)),fun b hb=> ?_⟩
   simp only[Value.ownBlock,Option.some.injEq] at hb
   exact .inr (by omega)
theorem wpList_append_str {ops:Array Oper} {rest:List Oper} {o:Oper} {a:Act} {Q:Exit→Act→World→Prop} (hgd:o.guard=none) (sl x:Operand) (t u:TypeId)
  (ho:o.op= .call {callee:= .builtin .append,args:= #[sl,x],argTypes:= #[t,u]})
  (base:Nat) (e:TypeId) (i:TypeInfo) (ht:P.underlying t=some (.slice e)) (hu:P.underlying u=some .string) (hi:P.info? e=some i) (hz:i.zero=some (.int .u8 0))
  (hsize:i.size=1) (hby:i.bytes=1)
  (v:Value) (n:Nat) (xs:List Value) (hs:a.eval sl=v) (hown:w.ownsRow base e 1 v n xs) (s:ByteArray) (hx:a.eval x= .string s)
  (h63:n+s.size≤maxLen) (hbytes:n+s.size≤140737488355328) (hbase:base≤w.heap.size)
  (h:∀v' w',w'.ownsRow base e 1 v' (n+s.size) (xs++Lib.strCells s)→w.grownBy w' v.ownBlock→(∀b,v'.ownBlock=some b→v.ownBlock=some b∨w.heap.size≤b)→wpList P ops Q rest (a.put o.dst v') w'):wpList P ops Q (o::rest) a w:=by
 refine wpList_plain hgd fun K hK=> ?_
 obtain⟨v',w',hr,h2,h3,h4⟩:=Lib.run_append_own_string (P:=P) w base t u o.type e i ht hu hi hz hsize hby v n xs hown s h63 hbytes hbase
 obtain⟨v2,w2,hr2,h5⟩:=run_append_str_at (P:=P) w base t u o.type e i ht hu hi hz hsize hby v n xs hown s h63 hbytes
 have e1:=hr.symm.trans hr2
 injection e1 with e1 e2
 subst e1
 unfold Oper.wp execOp
 simp only[ho,resolve,invoke,builtin,Sem.run_bind,Sem.run_pure,Result.andThen_ok,List.map_toArray,List.map_cons,List.map_nil,hs,hx,hr]
 exact hK _ _ (h v' w' h2 h3 h5)
end
theorem text_any {w:World} {lo:Nat} {v:Value} {bs:List UInt8} (h:w.ownsRow lo 5 1 v bs.length (Lib.byteCells bs)) (hlo:lo≤w.heap.size) (s:ByteArray) (hlen:bs.length+s.size≤90000000):
  Calls Tryz.prog 40 #[v,.string s] w (BytesPost w lo v (bs++textB s.data.toList)):=by
 obtain⟨i0,hi,hz0,hz1,hz2⟩:=info_parts byteInfo
 obtain⟨A0,c0,rfl,hc1,hc2⟩:=row_form h
 have hsz:s.data.toList.length=s.size:=by rw[Array.length_toList];rfl
 have hnl:(numB (s.size:Int)).length≤11:=by unfold numB;exact numU_len 10 _
 have HSZ:=Lib.hid hsz
 have HN:=Lib.hid (numbers_lit h hlo [(s.size:Int)] rfl rfl (fun n hn=>by rw[List.mem_singleton.1 hn];exact⟨by omega,by omega⟩) (by simp;omega))
 clear h hsz
 go_enter Tryz.func40,Tryz.ntmps40
 go_wp2_with (first
  |(go_at_call 39;refine HN.out.mono ?_;rintro e w1 ⟨v1,rfl,ho1,hf1,hb1⟩;have HO1:=Lib.hid ho1;clear ho1;have hl1:(bs++ [(s.size:Int)].flatMap numB).length≤bs.length+11:=by simp;exact hnl)
  |(at_builtin;refine wpList_append_str _ rfl _ _ 75 9 rfl lo 5 i0 Tryz.underlying75 Tryz.underlying9 hi hz0 hz1 hz2 _ _ _ rfl HO1.out s rfl (by unfold maxLen;omega) (by omega) (by have:=hf1.size;omega) ?_;intro v2 w2 ho2 hg2 hn2))
 go_ret
 refine⟨v2,rfl, ?_,bytes_step hf1 hb1 (own_foot hg2),bytes_far hf1.size hb1 hn2⟩
 have hlen2:(bs++textB s.data.toList).length=(bs++ [(s.size:Int)].flatMap numB).length+s.size:=by
  simp[textB,HSZ.out];omega
 rw[hlen2,show bs++textB s.data.toList=(bs++ [(s.size:Int)].flatMap numB)++s.data.toList by simp[textB,HSZ.out],Lib.byteCells,List.map_append]
 exact ho2
structure EncAt (w0 W:World) (v:Value) (bs:List UInt8):Prop where
 own:W.ownsRow w0.heap.size 5 1 v bs.length (Lib.byteCells bs)
 low:Below w0.heap.size w0 W
def Box (W:World) (v:Value) (b:Nat) (o:Obj):Prop:=W.heap[b]? =some o∧v.ownBlock≠some b
theorem Box.lt {W:World} {v:Value} {b:Nat} {o:Obj} (h:Box W v b o):b<W.heap.size:=(Array.getElem?_eq_some_iff.1 h.1).1
theorem EncAt.post {w0 W W':World} {v:Value} {bs bs':List UInt8} {e:Ending} (h:EncAt w0 W v bs) (hp:BytesPost W w0.heap.size v bs' e W'):
  ∃v',e= .returned v'∧EncAt w0 W' v' bs'∧∀b o,Box W v b o→Box W' v' b o:=by
 obtain⟨v',he,ho,hf,hb⟩:=hp
 refine⟨v',he,⟨ho,⟨hf.os.trans h.low.os,hf.tape.trans h.low.tape,hf.output.trans h.low.output,Nat.le_trans h.low.size hf.size,fun k hk=>(hf.block k (Nat.lt_of_lt_of_le hk h.low.size) fun e=> ?_).trans (h.low.block k hk)⟩⟩,fun b o hx=>⟨(hf.block b hx.lt hx.2).trans hx.1,fun e=> ?_⟩⟩
 ·have:=(h.own.lt _ e).1;omega
 ·rcases hb b e with h1|h1
  ·exact hx.2 h1
  ·have:=hx.lt;omega
theorem EncAt.alloc {w0 W:World} {v:Value} {bs:List UInt8} (h:EncAt w0 W v bs) (o:Obj):EncAt w0 (W.alloc o) v bs:=⟨h.own.alloc _,h.low.alloc h.low.size _⟩
theorem EncAt.drew {w0 W:World} {v:Value} {bs:List UInt8} (h:EncAt w0 W v bs):EncAt w0 W.drew v bs:=⟨h.own,⟨h.low.os,h.low.tape,h.low.output,h.low.size,h.low.block⟩⟩
theorem Box.drew {W:World} {v:Value} {b:Nat} {o:Obj} (h:Box W v b o):Box W.drew v b o:=h
theorem Box.alloc {W:World} {v:Value} {b:Nat} {o:Obj} (h:Box W v b o) (x:Obj):Box (W.alloc x) v b o:=⟨(heap_alloc_old _ _ h.lt).trans h.1,h.2⟩
theorem EncAt.box {w0 W:World} {v:Value} {bs:List UInt8} (h:EncAt w0 W v bs) (o:Obj):Box (W.alloc o) v W.heap.size o:=⟨heap_alloc_new _ _,fun e=>by have:=(h.own.lt _ e).2;omega⟩
structure RdAt (w0:World) (rb:Nat) (b:List UInt8) (r:Drd) (W:World):Prop where
 at_:BrAt rb b r W
 foot:Foot w0.heap.size (fun k=>k=rb) w0 W
 old:rb<w0.heap.size
def RBox (w0 W:World) (x:Nat) (o:Obj):Prop:=W.heap[x]? =some o∧w0.heap.size≤x
section
variable {w0 W W':World} {rb x:Nat} {b:List UInt8} {r r':Drd} {o:Obj}
theorem RdAt.post (h:RdAt w0 rb b r W) (hb:BrAt rb b r' W') (hf:RF rb W W'):RdAt w0 rb b r' W':=
 ⟨hb,h.foot.trans (hf.mono h.foot.size fun _ _ e=>e),h.old⟩
theorem RBox.lt (h:RBox w0 W x o):x<W.heap.size:=(Array.getElem?_eq_some_iff.1 h.1).1
theorem RBox.post (h:RBox w0 W x o) (hr:rb<w0.heap.size) (hf:RF rb W W'):RBox w0 W' x o:=⟨(hf.block x h.lt (fun e=>by have:=h.2;omega)).trans h.1,h.2⟩
theorem RBox.alloc (h:RBox w0 W x o) (p:Obj):RBox w0 (W.alloc p) x o:=⟨(heap_alloc_old _ _ h.lt).trans h.1,h.2⟩
theorem RdAt.alloc (h:RdAt w0 rb b r W) (p:Obj):RdAt w0 rb b r (W.alloc p):=⟨h.at_.keep (heap_alloc_old _ _ h.at_.lt),⟨h.foot.os,h.foot.tape,h.foot.output,by have:=h.foot.size;rw[World.size_alloc];omega,fun k hk hn=>(heap_alloc_old _ _ (Nat.lt_of_lt_of_le hk h.foot.size)).trans (h.foot.block k hk hn)⟩,h.old⟩
theorem RdAt.box (h:RdAt w0 rb b r W) (p:Obj):RBox w0 (W.alloc p) W.heap.size p:=⟨heap_alloc_new _ _,h.foot.size⟩
theorem RdAt.drew (h:RdAt w0 rb b r W):RdAt w0 rb b r W.drew:=⟨⟨h.at_.box,h.at_.le⟩,⟨h.foot.os,h.foot.tape,h.foot.output,h.foot.size,h.foot.block⟩,h.old⟩
theorem RdAt.set (h:RdAt w0 rb b r W) (hx:w0.heap.size≤x) (i:Nat) (v:Value):RdAt w0 rb b r (W.setCell ⟨x,i,none⟩ v):=by
 have hb:∀k,k≠x→(W.setCell ⟨x,i,none⟩ v).heap[k]? =W.heap[k]? :=fun k hk=>Below.heap_setCell W _ _ _ hk
 exact⟨h.at_.keep (hb rb (by have:=h.old;omega)),⟨h.foot.os,h.foot.tape,h.foot.output,by have:=h.foot.size;simpa using this,fun k hk hn=>(hb k (by omega)).trans (h.foot.block k hk hn)⟩,h.old⟩
end
theorem own_keep {W W':World} {lo:Nat} {e:TypeId} {s n:Nat} {v:Value} {xs:List Value} (h:W.ownsRow lo e s v n xs) (hk:∀g,v.ownBlock=some g→W'.heap[g]? =W.heap[g]?):W'.ownsRow lo e s v n xs:=by
 refine⟨h.1, ?_⟩
 rcases h.2 with h|⟨g,cap,cur,rfl,hlo,hg,h1,h2,h3,h4⟩
 ·exact .inl h
 ·exact .inr ⟨g,cap,cur,rfl,hlo,(hk g rfl).trans hg,h1,h2,h3,h4⟩
structure FnSt (w0:World) (rb:Nat) (b:List UInt8) (fb:Nat) (c0 c1 c2 vt c4 vc:Value) (ts:List Int) (xs:List Ci) (r:Drd) (W:World):Prop where
 rd:RdAt w0 rb b r W
 box:RBox w0 W fb (.cells #[c0,c1,c2,vt,c4,vc] 33 (0,0))
 res:RBox w0 W w0.heap.size (.cells #[.string ⟨#[]⟩,.int .i64 0,.int .i64 0,.slice none 0 0,.int .i64 0,.slice none 0 0] 33 (0,0))
 own1:W.ownsRow w0.heap.size 3 1 vt ts.length (ts.map (Value.int .i64))
 own2:W.ownsRow w0.heap.size 36 5 vc xs.length (xs.flatMap insCells)
 n1:∀g,vt.ownBlock=some g→g≠fb∧g≠w0.heap.size∧vc.ownBlock≠some g
 n2:∀g,vc.ownBlock=some g→g≠fb∧g≠w0.heap.size
 nf:fb≠w0.heap.size
section
variable {w0 W W' W2:World} {rb fb g2 cap2:Nat} {b:List UInt8} {c0 c1 c2 vt c4 vc:Value} {ts:List Int} {xs:List Ci} {r r':Drd} {o:Obj}
theorem FnSt.post (h:FnSt w0 rb b fb c0 c1 c2 vt c4 vc ts xs r W) (hb:BrAt rb b r' W') (hf:RF rb W W'):FnSt w0 rb b fb c0 c1 c2 vt c4 vc ts xs r' W':=by
 have ho:=h.rd.old
 refine⟨h.rd.post hb hf,h.box.post ho hf,h.res.post ho hf,own_keep h.own1 fun g hg=> ?_,own_keep h.own2 fun g hg=> ?_,h.n1,h.n2,h.nf⟩
 ·have:=h.own1.lt g hg;exact hf.block g this.2 (by omega)
 ·have:=h.own2.lt g hg;exact hf.block g this.2 (by omega)
theorem FnSt.drew (h:FnSt w0 rb b fb c0 c1 c2 vt c4 vc ts xs r W):FnSt w0 rb b fb c0 c1 c2 vt c4 vc ts xs r W.drew:=⟨h.rd.drew,h.box,h.res,h.own1,h.own2,h.n1,h.n2,h.nf⟩
theorem grown_keep {W W2:World} {o:Obj} {row:Option Nat} (hg:(W.alloc o).grownBy W2 row) {k:Nat} (hk:k<W.heap.size) (hn:row≠some k):W2.heap[k]? =W.heap[k]? :=
 (hg.block k (by rw[World.size_alloc];omega) (fun e=>hn e.symm)).trans (heap_alloc_old _ _ hk)
theorem RdAt.grown {row:Option Nat} (h:RdAt w0 rb b r W) (hg:(W.alloc o).grownBy W2 row) (hr:∀k,row=some k→w0.heap.size≤k):RdAt w0 rb b r W2:=by
 have ho:=h.old
 have hs:=h.foot.size
 refine⟨h.at_.keep (grown_keep hg h.at_.lt fun e=> ?_),⟨hg.os.trans h.foot.os,hg.tape.trans h.foot.tape,hg.output.trans h.foot.output,by have:=hg.size;rw[World.size_alloc] at this;omega,fun k hk hn=> ?_⟩,ho⟩
 ·have:=hr _ e;omega
 ·exact(grown_keep hg (by omega) fun e=>by have:=hr _ e;omega).trans (h.foot.block k hk hn)
theorem FnSt.push1 (h:FnSt w0 rb b fb c0 c1 c2 vt c4 vc ts xs r W) {x:Int} (ho:W2.ownsRow w0.heap.size 3 1 (.slice (some ⟨g2,0,none⟩) (ts.length+1) cap2) (ts.length+1) (ts.map (Value.int .i64)++ [.int .i64 x])) (hg:(W.alloc o).grownBy W2 vt.ownBlock) (hb:vt.ownBlock=some g2∨g2=(W.alloc o).heap.size):
  W2.heap[fb]? =some (.cells #[c0,c1,c2,vt,c4,vc] 33 (0,0))∧FnSt w0 rb b fb c0 c1 c2 (.slice (some ⟨g2,0,none⟩) (ts.length+1) cap2) c4 vc (ts++ [x]) xs r (W2.setCell ⟨fb,3,none⟩ (.slice (some ⟨g2,0,none⟩) (ts.length+1) cap2)):=by
 have hvt:∀k,vt.ownBlock=some k→w0.heap.size≤k:=fun k hk=>(h.own1.lt k hk).1
 have hfb:=h.box.lt
 have hs:=h.rd.foot.size
 have hbox:W2.heap[fb]? =some (.cells #[c0,c1,c2,vt,c4,vc] 33 (0,0)):=(grown_keep hg hfb fun e=>(h.n1 _ e).1 rfl).trans h.box.1
 have hg2:g2≠fb∧g2≠w0.heap.size∧vc.ownBlock≠some g2:=by
  rcases hb with e|e
  ·exact h.n1 g2 e
  ·rw[World.size_alloc] at e
   refine⟨by omega,by omega,fun e2=> ?_⟩
   have:=(h.own2.lt _ e2).2
   omega
 have hset:∀k,k≠fb→(W2.setCell ⟨fb,3,none⟩ (.slice (some ⟨g2,0,none⟩) (ts.length+1) cap2)).heap[k]? =W2.heap[k]? :=fun k hk=>Below.heap_setCell W2 _ _ _ hk
 refine⟨hbox,(h.rd.grown hg hvt).set h.box.2 3 _,⟨heap_setCell_same _ _ 3 _ _ _ hbox,h.box.2⟩,⟨(hset _ (fun e=>h.nf e.symm)).trans ((grown_keep hg h.res.lt fun e=>(h.n1 _ e).2.1 rfl).trans h.res.1),Nat.le_refl _⟩, ?_, ?_, ?_,h.n2,h.nf⟩
 ·rw[List.length_append,List.map_append]
  refine own_keep ho fun g hg=> ?_
  simp only[Value.ownBlock,Option.some.injEq] at hg
  subst hg
  exact hset _ hg2.1
 ·refine own_keep h.own2 fun g hgo=>(hset g (h.n2 g hgo).1).trans (grown_keep hg (h.own2.lt g hgo).2 fun e=>(h.n1 _ e).2.2 hgo)
 ·intro g hg
  simp only[Value.ownBlock,Option.some.injEq] at hg
  subst hg
  exact hg2
theorem FnSt.push2 (h:FnSt w0 rb b fb c0 c1 c2 vt c4 vc ts xs r W) {x:Ci} (ho:W2.ownsRow w0.heap.size 36 5 (.slice (some ⟨g2,0,none⟩) (xs.length+1) cap2) (xs.length+1) (xs.flatMap insCells++insCells x)) (hg:(W.alloc o).grownBy W2 vc.ownBlock) (hb:vc.ownBlock=some g2∨g2=(W.alloc o).heap.size):
  W2.heap[fb]? =some (.cells #[c0,c1,c2,vt,c4,vc] 33 (0,0))∧FnSt w0 rb b fb c0 c1 c2 vt c4 (.slice (some ⟨g2,0,none⟩) (xs.length+1) cap2) ts (xs++ [x]) r (W2.setCell ⟨fb,5,none⟩ (.slice (some ⟨g2,0,none⟩) (xs.length+1) cap2)):=by
 have hvt:∀k,vc.ownBlock=some k→w0.heap.size≤k:=fun k hk=>(h.own2.lt k hk).1
 have hfb:=h.box.lt
 have hs:=h.rd.foot.size
 have hbox:W2.heap[fb]? =some (.cells #[c0,c1,c2,vt,c4,vc] 33 (0,0)):=(grown_keep hg hfb fun e=>(h.n2 _ e).1 rfl).trans h.box.1
 have hg2:g2≠fb∧g2≠w0.heap.size∧vt.ownBlock≠some g2:=by
  rcases hb with e|e
  ·exact⟨(h.n2 g2 e).1,(h.n2 g2 e).2,fun e2=>(h.n1 _ e2).2.2 e⟩
  ·rw[World.size_alloc] at e
   refine⟨by omega,by omega,fun e2=> ?_⟩
   have:=(h.own1.lt _ e2).2
   omega
 have hset:∀k,k≠fb→(W2.setCell ⟨fb,5,none⟩ (.slice (some ⟨g2,0,none⟩) (xs.length+1) cap2)).heap[k]? =W2.heap[k]? :=fun k hk=>Below.heap_setCell W2 _ _ _ hk
 refine⟨hbox,(h.rd.grown hg hvt).set h.box.2 5 _,⟨heap_setCell_same _ _ 5 _ _ _ hbox,h.box.2⟩,⟨(hset _ (fun e=>h.nf e.symm)).trans ((grown_keep hg h.res.lt fun e=>(h.n2 _ e).2 rfl).trans h.res.1),Nat.le_refl _⟩, ?_, ?_, ?_, ?_,h.nf⟩
 ·refine own_keep h.own1 fun g hgo=>(hset g (h.n1 g hgo).1).trans (grown_keep hg (h.own1.lt g hgo).2 fun e=>(h.n1 _ hgo).2.2 e)
 ·rw[List.length_append,List.flatMap_append]
  simp only[List.flatMap_cons,List.flatMap_nil,List.append_nil]
  refine own_keep ho fun g hg=> ?_
  simp only[Value.ownBlock,Option.some.injEq] at hg
  subst hg
  exact hset _ hg2.1
 ·intro g hgo
  refine⟨(h.n1 g hgo).1,(h.n1 g hgo).2.1,fun e=> ?_⟩
  simp only[Value.ownBlock,Option.some.injEq] at e
  subst e
  exact hg2.2.2 hgo
 ·intro g hg
  simp only[Value.ownBlock,Option.some.injEq] at hg
  subst hg
  exact⟨hg2.1,hg2.2.1⟩
theorem FnSt.set4 (h:FnSt w0 rb b fb c0 c1 c2 vt c4 vc ts xs r W) (v:Value):FnSt w0 rb b fb c0 c1 c2 vt v vc ts xs r (W.setCell ⟨fb,4,none⟩ v):=by
 have hset:∀k,k≠fb→(W.setCell ⟨fb,4,none⟩ v).heap[k]? =W.heap[k]? :=fun k hk=>Below.heap_setCell W _ _ _ hk
 exact⟨h.rd.set h.box.2 4 _,⟨heap_setCell_same _ _ 4 _ _ _ h.box.1,h.box.2⟩,⟨(hset _ (fun e=>h.nf e.symm)).trans h.res.1,Nat.le_refl _⟩,own_keep h.own1 fun g hg=>hset g (h.n1 g hg).1,own_keep h.own2 fun g hg=>hset g (h.n2 g hg).1,h.n1,h.n2,h.nf⟩
end
def RightPost (w:World) (o:Option Cwr) (e:Ending) (w':World):Prop:=Below w.heap.size w w'∧match o with
 |none=>e= .returned .nilIface
 |some c=>∃b,e= .returned (.iface 42 (.pointer (some ⟨b,0,none⟩)))∧w.heap.size≤b∧WrAt w' b c.code c.at_ c.ins
structure Plain (p:Cp) (f:Cf):Prop where
 one:One p f
 head:headedB p.funcs 0 f []=true
 ne:0<f.code.length
 pl:∀(k:Nat) (x:Ci),f.code[k]? =some x→PlainI p 0 x∧(k+1<f.code.length∨x.op=50∨x.op=34)∧FitI f.code k x
 cnt:∀x∈f.code,CountedOk x
def rightR:Option Int→Option Cwr
 |some k=>some ⟨130,0,some k⟩
 |none=>none
theorem right_plain {p:Cp} {f:Cf} (hp:Plain p f) {v:Value} {w:World} (hG:Gc w) (hv:LiesC w w.heap.size p v) {R:Option Int} (hr:fitsP f.code=R) (hrb:∀k,R=some k→0≤k∧k≤60000):
  Calls Tryz.prog 11 #[v] w (RightPost w (rightR R)):=by
 have ho:=hp.one
 have HR:=Lib.hid hr
 have HRB:=Lib.hid hrb
 obtain⟨g,off,fc,ga,gc,fv,rfl,hfc,hA⟩:=hv.one ho
 have HV:=Lib.hid hv
 have HO:=Lib.hid ho
 have HK:=Lib.hid hp
 have HGc:=Lib.hid hG
 have HA:=Lib.hid hA
 obtain⟨n,hn⟩:∃n,f.code.length=n:=⟨_,rfl⟩
 have HN:=Lib.hid hn
 have hg:=hA.lt
 have h1:=ho.code
 have h2:=hp.ne
 rw[hn] at h1 h2
 have HLV:=Lib.hid (fun(W:World) (hb:Below w.heap.size w W)=>(HV.out.keep hb.block).more hb.size)
 have HCS:=Lib.hid (fun(W:World) (hb:Below w.heap.size w W)=>(hA.keep hb.block).cs)
 rw[hn] at HCS
 have HFI:Hid (∀(W:World),Below w.heap.size w W→Calls Tryz.prog 38 #[.agg #[.string f.name,.int .i64 f.params,.int .i64 f.slots,.slice fv.ta f.taken.length fv.tc,.int .i64 f.around,.slice fv.ca n fv.cc]] W fun e w'=>e= .returned (.int .i64 (fitsR R))∧Below W.heap.size W w'):=Lib.hid fun W hb=>by
  have:=fits_any (f:=f) (v:=fv) ((hA.keep hb.block).own.2.1.more hb.size) hp.ne ho.code (fun k x h=>(hp.pl k x h).2.2) hp.cnt
  rw[HR.out] at this
  simpa only[fnV,hn] using this
 have hm:=mapNew
 clear hv ho hp hG hA hn hr hrb
 have HB0:Hid (Below w.heap.size w (w.alloc (.cells #[.slice (some ⟨g,off,none⟩) 1 fc,.slice ga 0 gc] 27 (0,0)))):=Lib.hid ((Below.refl _ _).alloc (Nat.le_refl _) _)
 have HP0:=Lib.hid (heap_alloc_new w (.cells #[.slice (some ⟨g,off,none⟩) 1 fc,.slice ga 0 gc] 27 (0,0)))
 go_enter Tryz.func11,Tryz.ntmps11
 go_wp2_with (first
  |(go_at_call 33;refine(many_one HO.out (HLV.out _ HB0.out)).mono ?_;rintro e w1 ⟨rfl,hb1⟩;have hB1:=HB0.out.trans (hb1.mono HB0.out.size);have hP1:=(hb1.block _ (Array.getElem?_eq_some_iff.1 HP0.out).1).trans HP0.out;have p1:=cell_of_row w1 _ 1 _ _ _ hP1;simp only[gq] at p1;have HB1:=Lib.hid hB1;have HP1:=Lib.hid hP1;clear hB1 hP1 hb1)
  |(go_at_call 34;refine(globals_none _ _ _).mono ?_;rintro e w2 ⟨rfl,hb2⟩;have hB2:=HB1.out.trans (hb2.mono HB1.out.size);have hP2:=(hb2.block _ (Array.getElem?_eq_some_iff.1 HP1.out).1).trans HP1.out;have hP3:=(heap_alloc_old w2 (.map #[] 0) (Array.getElem?_eq_some_iff.1 hP2).1).trans hP2;have q0:=cell_of_row _ _ 0 _ _ _ hP3;simp only[gq] at q0;have HB2:=Lib.hid hB2;have HP2:=Lib.hid hP2;clear hB2 hP2 hb2))
 have HB3:Hid (Below w.heap.size w (w2.alloc (.map #[] 0))):=Lib.hid (HB2.out.alloc HB2.out.size _)
 have HP3:Hid ((w2.alloc (.map #[] 0)).heap[w.heap.size]? =some (.cells #[.slice (some ⟨g,off,none⟩) 1 fc,.slice ga 0 gc] 27 (0,0))):=Lib.hid ((heap_alloc_old _ _ (Array.getElem?_eq_some_iff.1 HP2.out).1).trans HP2.out)
 go_loopw [28] (fun i wr=>Hid (Below w.heap.size w wr)∧Hid (wr.heap[w.heap.size]? =some (.cells #[.slice (some ⟨g,off,none⟩) 1 fc,.slice ga 0 gc] 27 (0,0)))∧(i= .int .i64 0∨i= .int .i64 1)) (fun i _=>1-(intOf i).toNat)
 case atStart=>exact⟨HB3,HP3,.inl rfl⟩
 case round=>
  obtain⟨HB,HP,h⟩:=hrel
  obtain⟨q0,q1⟩:=cr2 wr _ HP.out
  simp only[gq] at q0 q1
  rcases h with rfl|rfl
  ·go_wp2_with (go_at_call 36;refine(headed_one HO.out (HLV.out _ HB.out) _).mono ?_;rintro e w4 ⟨rfl,hb4⟩;rw[HK.out.head];have HB4:=Lib.hid (HB.out.trans (hb4.mono HB.out.size));have HP4:=Lib.hid ((hb4.block _ (Array.getElem?_eq_some_iff.1 HP.out).1).trans HP.out);clear hb4)
   go_roundw
   case rel=>exact⟨HB4,HP4,.inr rfl⟩
   case measure=>simp[intOf]
  ·go_wp2_with fail
   clear q0 q1
   go_loopw [43] (fun i wr=>Hid (Below w.heap.size w wr)∧Hid (wr.heap[w.heap.size]? =some (.cells #[.slice (some ⟨g,off,none⟩) 1 fc,.slice ga 0 gc] 27 (0,0)))∧(i= .int .i64 0∨i= .int .i64 1)) (fun i _=>1-(intOf i).toNat)
   case atStart=>exact⟨HB,HP,.inl rfl⟩
   case round=>
    clear HB HP
    obtain⟨HB,HP,h⟩:=hrel
    obtain⟨q0,q1⟩:=cr2 wr _ HP.out
    simp only[gq] at q0 q1
    rcases h with rfl|rfl
    ·obtain⟨x0,x1,x2,x3,x4,x5⟩:=HCS.out _ HB.out
     have dn:((n:Int)==0)=false:=by simp;omega
     go_wp2_with fail
     have HB5:Hid (Below w.heap.size w (wr.alloc (.cells #[.string f.name,.int .i64 f.params,.int .i64 f.slots,.slice fv.ta f.taken.length fv.tc,.int .i64 f.around,.slice fv.ca n fv.cc] 33 (0,0)))):=Lib.hid (HB.out.alloc HB.out.size _)
     have HP5:Hid ((wr.alloc (.cells #[.string f.name,.int .i64 f.params,.int .i64 f.slots,.slice fv.ta f.taken.length fv.tc,.int .i64 f.around,.slice fv.ca n fv.cc] 33 (0,0))).heap[w.heap.size]? =some (.cells #[.slice (some ⟨g,off,none⟩) 1 fc,.slice ga 0 gc] 27 (0,0))):=Lib.hid ((heap_alloc_old _ _ (Array.getElem?_eq_some_iff.1 HP.out).1).trans HP.out)
     go_loopw [58] (fun i wr=>Hid (Below w.heap.size w wr)∧Hid (wr.heap[w.heap.size]? =some (.cells #[.slice (some ⟨g,off,none⟩) 1 fc,.slice ga 0 gc] 27 (0,0)))∧∃k:Nat,i= .int .i64 k∧k≤n) (fun i _=>n-(intOf i).toNat)
     case atStart=>exact⟨HB5,HP5,0,rfl,Nat.zero_le _⟩
     case round=>
      clear HB HP HB5 HP5 q0 q1 x0 x1 x2 x3 x4 x5 dn
      obtain⟨HB,HP,k,rfl,hk⟩:=hrel
      obtain⟨q0,q1⟩:=cr2 wr _ HP.out
      simp only[gq] at q0 q1
      by_cases hlt:k<n
      ·obtain⟨x,hx⟩:∃x,f.code[k]? =some x:=⟨_,List.getElem?_eq_getElem (by rw[HN.out];exact hlt)⟩
       have hpx:=HK.out.pl k x hx
       have HX:=Lib.hid hx
       have HPX:=Lib.hid hpx
       clear hx hpx
       go_wp2_with (go_at_call 37;refine(fine_plain (HGc.out.up HB.out) (HLV.out _ HB.out) (show p.funcs[0]? =some f by rw[HO.out.fs];rfl) HX.out HO.out.code HPX.out.1).mono ?_;rintro e w4 ⟨rfl,hb4⟩;rw[show(decide (k+1<f.code.length)||(x.op==50||x.op==34))=true by rcases HPX.out.2.1 with h|h|h<;>simp[h]];have HB4:=Lib.hid (HB.out.trans (hb4.mono HB.out.size));have HP4:=Lib.hid ((hb4.block _ (Array.getElem?_eq_some_iff.1 HP.out).1).trans HP.out);clear hb4)
       go_roundw
       case rel=>exact⟨HB4,HP4,k+1,by simp,by omega⟩
       case measure=>simp[intOf];omega
      ·obtain rfl:k=n:=by omega
       go_wp2_with fail
       go_roundw
       case rel=>exact⟨HB,HP,.inr rfl⟩
       case measure=>simp[intOf]
    ·go_wp2_with fail
     clear q0 q1
     go_loopw [75] (fun i wr=>Hid (Below w.heap.size w wr)∧(i= .int .i64 0∨(i= .int .i64 1∧R=none))) (fun i _=>1-(intOf i).toNat)
     case atStart=>exact⟨HB,.inl rfl⟩
     case round=>
      clear HB HP
      obtain⟨HB,h⟩:=hrel
      rcases h with rfl|⟨rfl,rfl⟩
      ·obtain⟨x0,x1,x2,x3,x4,x5⟩:=HCS.out _ HB.out
       cases R with
       |none=>
        have d:decide ((0:Int)≤-1)=false:=rfl
        go_wp2_with (go_at_call 38;refine(HFI.out _ (HB.out.alloc HB.out.size _)).mono ?_;rintro e w4 ⟨rfl,hb4⟩;have hw4:Below w.heap.size w w4:=(HB.out.alloc HB.out.size _).trans (hb4.mono (by rw[World.size_alloc];exact Nat.le_succ_of_le HB.out.size));have HB4:=Lib.hid hw4;clear hw4 hb4;simp only[fitsR])
        go_roundw
        case rel=>exact⟨HB4,.inr (by simp)⟩
        case measure=>simp[intOf]
       |some z=>
        obtain⟨hz0,hz1⟩:=HRB.out z rfl
        obtain⟨j,rfl⟩:=Int.eq_ofNat_of_zero_le hz0
        have d:decide ((0:Int)≤(j:Int))=true:=by simp
        clear HR
        go_wp2_with (first
         |(go_at_call 38;refine(HFI.out _ (HB.out.alloc HB.out.size _)).mono ?_;rintro e w4 ⟨rfl,hb4⟩;have hw4:Below w.heap.size w w4:=(HB.out.alloc HB.out.size _).trans (hb4.mono (by rw[World.size_alloc];exact Nat.le_succ_of_le HB.out.size));have HB4:=Lib.hid hw4;clear hw4 hb4;simp only[fitsR])
         |(go_at_call 35;refine(wrong_some 130 0 j (by omega) _ (HGc.out.up HB4.out)).mono ?_;rintro e w5 ⟨hb5,b5,rfl,hl5,hw5⟩))
        go_ret
        exact⟨HB4.out.trans (hb5.mono HB4.out.size),b5,rfl,Nat.le_trans HB4.out.size hl5,hw5⟩
      ·go_wp2_with fail
       go_ret
       exact⟨HB.out,rfl⟩
theorem bldInfo:(Tryz.prog.info? 80).map (·.size)=some 2:=by kernel_rfl
theorem bldLies:liesAt Tryz.prog Tryz.prog.depth 80 (2/Tryz.prog.cellsOf 80) 0 80 1=true:=by kernel_rfl
theorem own_keep' {W W':World} {lo:Nat} {e:TypeId} {s n:Nat} {v:Value} {xs:List Value} (h:W.ownsRow lo e s v n xs) (hk:∀g,v.ownBlock=some g→W'.heap[g]? =W.heap[g]?):W'.ownsRow lo e s v n xs:=by
 refine⟨h.1, ?_⟩
 rcases h.2 with h|⟨g,cap,cur,rfl,hlo,hg,h1,h2,h3,h4⟩
 ·exact .inl h
 ·exact .inr ⟨g,cap,cur,rfl,hlo,(hk g rfl).trans hg,h1,h2,h3,h4⟩
structure BdAt (w0 W:World) (b:Nat) (v:Value) (bs:List UInt8):Prop where
 box:∃p,(p= .pointer none∨p= .pointer (some ⟨b,0,none⟩))∧W.heap[b]? =some (.cells #[p,v] 80 (0,0))
 own:W.ownsRow w0.heap.size 5 1 v bs.length (Lib.byteCells bs)
 ne:v.ownBlock≠some b
 low:Below w0.heap.size w0 W
 lo:w0.heap.size≤b
def BxAt (W:World) (b:Nat) (v:Value) (k:Nat) (o:Obj):Prop:=W.heap[k]? =some o∧k≠b∧v.ownBlock≠some k
theorem copyCheck_any {w:World} {b:Nat} {p v:Value} (hp:p= .pointer none∨p= .pointer (some ⟨b,0,none⟩)) (hb:w.heap[b]? =some (.cells #[p,v] 80 (0,0))):
  Calls Tryz.prog 88 #[.pointer (some ⟨b,0,none⟩)] w fun e w'=>e= .returned (.tuple #[])∧w'.heap[b]? =some (.cells #[.pointer (some ⟨b,0,none⟩),v] 80 (0,0))∧Foot w.heap.size (fun k=>k=b) w w':=by
 have c0:=cell_of_row w b 0 _ _ _ hb
 have f0:=frozen_of_row w b 0 _ _ hb
 simp only[List.getElem?_toArray,List.getElem?_cons_zero] at c0
 have hsh:w.shape? b=some (80,2):=by unfold World.shape?;rw[hb];rfl
 obtain⟨j,hj,hjs⟩:=Option.map_eq_some_iff.1 bldInfo
 have HB:=Lib.hid hb
 clear hb
 rcases hp with rfl|rfl
 ·have k1:(convert 78 152 (.pointer (some ⟨b,0,none⟩))).run Tryz.prog w= .ok (.pointer (some ⟨b,0,none⟩)) w:=Lib.run_to_unsafe w ⟨b,0,none⟩ Tryz.underlying78 Tryz.underlying152 hj (by rw[hjs];decide) hsh (Nat.zero_lt_succ 1)
  have k3:(convert 152 78 (.pointer (some ⟨b,0,none⟩))).run Tryz.prog w= .ok (.pointer (some ⟨b,0,none⟩)) w:=Lib.run_from_unsafe w ⟨b,0,none⟩ Tryz.underlying152 Tryz.underlying78 hj hsh bldLies
  go_enter Tryz.func88,Tryz.ntmps88
  have k2:(callFunc 130 #[.pointer (some ⟨b,0,none⟩)]).run Tryz.prog w= .ok (.value (.pointer (some ⟨b,0,none⟩))) w:=by
   rw[run_callFunc_extern Tryz.func130 (by kernel_rfl) (by kernel_rfl) (by kernel_rfl) (e:=Extern.AbiNoEscape.same) (by kernel_rfl),Lib.run_noEscape]
   rfl
  go_wp2_with fail
  go_end0
  exact⟨rfl,heap_setCell_same _ _ 0 _ _ _ HB.out,Foot.set (g:=fun k=>k=b) (p:=⟨b,0,none⟩) (Foot.refl _ _ _) (.inr rfl) _⟩
 ·have k4:=Lib.run_neq_ptr_same (P:=Tryz.prog) w ⟨b,0,none⟩ Tryz.underlying78 hj
  go_enter Tryz.func88,Tryz.ntmps88
  go_wp2_with fail
  go_end0
  exact⟨rfl,HB.out,Foot.refl _ _ _⟩
theorem writeString_any {w0 w:World} {b:Nat} {v:Value} {bs:List UInt8} (h:BdAt w0 w b v bs) (s:ByteArray) (hlen:bs.length+s.size≤100000000):
  Calls Tryz.prog 41 #[.pointer (some ⟨b,0,none⟩),.string s] w fun e w'=>e= .returned (.tuple #[.int .i64 s.size,.nilIface])∧∃v',BdAt w0 w' b v' (bs++s.data.toList)∧∀k o,BxAt w b v k o→BxAt w' b v' k o:=by
 obtain⟨i0,hi,hz0,hz1,hz2⟩:=info_parts byteInfo
 obtain⟨p,hp,hb⟩:=h.box
 have hblt:b<w.heap.size:=(Array.getElem?_eq_some_iff.1 hb).1
 have HC:=Lib.hid (copyCheck_any hp hb)
 have H:=Lib.hid h
 have hsz:s.data.toList.length=s.size:=by rw[Array.length_toList];rfl
 have HSZ:=Lib.hid hsz
 clear hb hp h hsz
 go_enter Tryz.func41,Tryz.ntmps41
 go_wp2_with (first
  |(go_at_call 88;refine HC.out.mono ?_;rintro e w1 ⟨rfl,hb1,hf1⟩;have c1:=cell_of_row w1 b 1 _ _ _ hb1;simp only[gq] at c1;have HO1:=Lib.hid (own_keep' H.out.own (fun g hg=>hf1.block g (H.out.own.lt g hg).2 (fun e=>H.out.ne (by rw[hg,e]))));have HB1:=Lib.hid hb1;have hs1:=hf1.size;have hlow:=H.out.low.size;have HF1:=Lib.hid hf1;clear hb1 hf1)
  |(at_builtin;refine wpList_append_str _ rfl _ _ 75 9 rfl w0.heap.size 5 i0 Tryz.underlying75 Tryz.underlying9 hi hz0 hz1 hz2 v bs.length (Lib.byteCells bs) rfl HO1.out s rfl (by unfold maxLen;omega) (by omega) (by omega) ?_;intro v2 w2 ho2 hg2 hn2;obtain⟨A2,k2,rfl,_,_⟩:=row_form ho2;have hb2:=(hg2.block b (by omega) (fun e=>H.out.ne e.symm)).trans HB1.out;have d1:=cell_of_row w2 b 1 _ _ _ hb2;have f1:=frozen_of_row w2 b 1 _ _ hb2;simp only[gq] at d1))
 go_ret2
 have hset:∀k,k≠b→(w2.setCell ⟨b,1,none⟩ (.slice A2 (bs.length+s.size) k2)).heap[k]? =w2.heap[k]? :=fun k hk=>Below.heap_setCell w2 _ _ _ hk
 have hne2:∀g,(Value.slice A2 (bs.length+s.size) k2).ownBlock=some g→g≠b:=fun g hg e=>by
  rcases hn2 g hg with h|h
  ·exact H.out.ne (by rw[h,e])
  ·omega
 refine⟨rfl,.slice A2 (bs.length+s.size) k2,⟨⟨_,.inr rfl,heap_setCell_same _ _ 1 _ _ _ hb2⟩, ?_,fun e=>hne2 b e rfl, ?_,H.out.lo⟩,fun k o hx=> ?_⟩
 ·have e1:(bs++s.data.toList).length=bs.length+s.size:=by rw[List.length_append,HSZ.out]
  have e2:Lib.byteCells (bs++s.data.toList)=Lib.byteCells bs++Lib.strCells s:=by simp[Lib.byteCells,Lib.strCells]
  rw[e1,e2]
  exact own_keep' ho2 fun g hg=>hset g (hne2 g hg)
 ·have hf:=HF1.out
  refine⟨hg2.os.trans (hf.os.trans H.out.low.os),hg2.tape.trans (hf.tape.trans H.out.low.tape),hg2.output.trans (hf.output.trans H.out.low.output),by have:=hg2.size;rw[World.size_setCell];omega,fun k hk=> ?_⟩
  have hlo:=H.out.lo
  refine(hset k (by omega)).trans ((hg2.block k (by omega) (fun e=> ?_)).trans ((hf.block k (by omega) (by omega)).trans (H.out.low.block k hk)))
  have:=(H.out.own.lt k e.symm).1
  omega
 ·have hkl:=(Array.getElem?_eq_some_iff.1 hx.1).1
  refine⟨(hset k hx.2.1).trans ((hg2.block k (by omega) (fun e=>hx.2.2 e.symm)).trans ((HF1.out.block k hkl hx.2.1).trans hx.1)),hx.2.1,fun e=> ?_⟩
  rcases hn2 k e with h|h
  ·exact hx.2.2 h
  ·omega
theorem headAt_of {w0 w:World} {p:Cp} {n m i:Nat} {fa ga:Option Addr} {xs:List (Cf×Fv)} (hp:PgAt w0 p n m fa ga xs) (hb0:Below w0.heap.size w0 w) {f:Cf} (hf:p.funcs[i]? =some f):
  ∃g q fv,fa=some ⟨g,q,none⟩∧LiesF w0 w0.heap.size (f,fv)∧HeadAt w g q i n f.name f.params f.slots f.around fv.ta f.taken.length fv.tc fv.ca f.code.length fv.cc:=by
 obtain⟨g,q,fv,e,hl,x0,x1,x2,x3,x4,x5⟩:=hp.func hf
 have hg:g<w0.heap.size:=World.block_lt_of_cell? w0 ⟨g,q+i*6,none⟩ x0
 have hc:∀o v,w0.cell? ⟨g,o,none⟩=some v→w.cell? ⟨g,o,none⟩=some v:=fun o v h=>(hb0.cell (p:=⟨g,o,none⟩) hg).trans h
 have hi:i<p.funcs.length:=(List.getElem?_eq_some_iff.1 hf).1
 exact⟨g,q,fv,e,hl,Nat.lt_of_lt_of_le hg hb0.size,by rw[←hp.fn];exact hi,hc _ _ x0,hc _ _ x1,hc _ _ x2,hc _ _ x3,hc _ _ x4,hc _ _ x5⟩
def nextOld (i:Nat) (f:Cf) (old:List (List UInt8)):List (List UInt8):=if i≠0∧f.around= -1 then f.name.data.toList::old else old
theorem CntAt.more {w:World} {b k k':Nat} {l:List (List UInt8)} (h:CntAt w b k l) (hk:k≤k'):CntAt w b k' l:=by
 obtain⟨D,h1,h2⟩:=h
 exact⟨D,h1.mono hk,h2⟩
theorem any_out (sl:Int) (n:Nat):∀l:List Int,(!l.any (outB sl n))=l.all fun t=>decide (t<sl)&&decide (-(n:Int)≤t)
 | []=>rfl
 |t::r=>by
  have h:(decide (t<sl)&&decide (-(n:Int)≤t))= !outB sl n t:=by
   unfold outB
   rw[Bool.eq_iff_iff]
   simp
  rw[List.any_cons,List.all_cons,←any_out sl n r,h]
  cases outB sl n t<;>rfl
def HeadPost (w0 w:World) (b k:Nat) (R:Bool) (new:List (List UInt8)) (e:Ending) (w':World):Prop:=
 e= .returned (.bool R)∧Below w0.heap.size w0 w'∧(R=true→CntAt w' b (k+1) new)∧∀j,j<w.heap.size→j≠b→w'.heap[j]? =w.heap[j]?
theorem headed_any {w0 w:World} {p:Cp} {n m fc gc i b k:Nat} {fa ga:Option Addr} {xs:List (Cf×Fv)} {old:List (List UInt8)} {f:Cf} (hp:PgAt w0 p n m fa ga xs) (hok:CpOk p) (hs:f.name.size≤4000000000) (hb0:Below w0.heap.size w0 w)
  (hG:Gc w) (h13:13≤w0.heap.size) (hbb:w0.heap.size≤b) (hc:CntAt w b k old) (hk:k≤100000000000000) (ho:old.length≤100000000000000) (hf:p.funcs[i]? =some f):
  Calls Tryz.prog 36 #[.agg #[.slice fa n fc,.slice ga m gc],.int .i64 i,.map (some b)] w (HeadPost w0 w b k (headedB p.funcs i f old) (nextOld i f old)):=by
 obtain⟨g,q,fv,rfl,hl,hA⟩:=headAt_of hp hb0 hf
 have hn:n≤140737488351232:=hp.fn▸hok.1
 have hfo:=hok.2.2.1 f (List.mem_of_getElem? hf)
 have ht:f.taken.length≤140737488351232:=hfo.2.2.2.2.1
 have up:∀w',Below w.heap.size w w'→Below w0.heap.size w0 w':=fun w' h=>hb0.trans (h.mono hb0.size)
 have tl:((f.taken.length:Int)==0)=(f.taken.length==0):=by rw[Bool.eq_iff_iff];simp
 unfold headedB
 by_cases h1:f.params<0∨13<f.params∨f.slots<f.params
 ·rw[if_pos h1]
  refine(headed_bad hA hn ht _ h1).mono ?_
  rintro e w' ⟨rfl,hb⟩
  exact⟨rfl,up _ hb,(fun h=>by cases h),fun j hj _=>hb.block j hj⟩
 ·rw[if_neg h1]
  by_cases hi:i=0
  ·rw[if_pos hi]
   refine(headed_zero hA hn ht h1 _ hi).mono ?_
   rintro e w' ⟨rfl,hb⟩
   rw[tl]
   refine⟨rfl,up _ hb,fun _=> ?_,fun j hj _=>hb.block j hj⟩
   rw[nextOld,if_neg (by simp[hi])]
   exact(hc.keep hb).more (Nat.le_succ _)
  ·rw[if_neg hi]
   by_cases hr:f.around= -1
   ·rw[if_pos hr]
    refine(headed_decl hA hn ht h1 hi hr hG (Nat.le_trans h13 hbb) hc hk ho hs).mono ?_
    rintro e w' ⟨rfl,hg,hc'⟩
    rw[tl]
    refine⟨rfl,⟨hg.os.trans hb0.os,hg.tape.trans hb0.tape,hg.output.trans hb0.output,Nat.le_trans hb0.size hg.size,fun j hj=>(hg.block j (Nat.lt_of_lt_of_le hj hb0.size) (by intro e;injection e with e;omega)).trans (hb0.block j hj)⟩,fun _=> ?_,fun j hj hne=>hg.block j hj (by intro e;injection e with e;exact hne e)⟩
    rw[nextOld,if_pos ⟨hi,hr⟩]
    exact hc'
   ·rw[if_neg hr]
    have hno:nextOld i f old=old:=by rw[nextOld,if_neg (by simp[hr])]
    rw[hno]
    by_cases hw:f.name.data.toList≠ [102,117,110,99]∨f.around<0∨(i:Int)≤f.around
    ·rw[if_pos hw]
     refine(headed_odd hA hn ht h1 _ hi hr hw).mono ?_
     rintro e w' ⟨rfl,hb⟩
     exact⟨rfl,up _ hb,(fun h=>by cases h),fun j hj _=>hb.block j hj⟩
    ·rw[if_neg hw]
     obtain⟨w1,w2⟩:=not_or.1 hw
     obtain⟨w3,w4⟩:=not_or.1 w2
     obtain⟨j,hj⟩:∃j:Nat,f.around=(j:Int):=⟨f.around.toNat,by omega⟩
     have hji:j<i:=by omega
     have hin:=hA.le
     obtain⟨f2,hf2⟩:∃f2,p.funcs[j]? =some f2:=⟨_,List.getElem?_eq_getElem (by rw[hp.fn];omega)⟩
     obtain⟨g',q',fv2,e2,hl2,hA2⟩:=headAt_of hp hb0 hf2
     injection e2 with e2
     injection e2 with e2 e3
     subst e2 e3
     have ht2:f2.taken.length≤140737488351232:=(hok.2.2.1 f2 (List.mem_of_getElem? hf2)).2.2.2.2.1
     refine(headed_inner hA hn ht h1 _ hi hr (by simpa using w1) hj hji hA2 ht2 rfl ((hl.1.keep hb0.block).more hb0.size)).mono ?_
     rintro e w' ⟨rfl,hb⟩
     have hjj:f.around.toNat=j:=by omega
     rw[hjj,hf2]
     refine⟨?_,up _ hb,fun _=>(hc.keep hb).more (Nat.le_succ _),fun j hj _=>hb.block j hj⟩
     rw[any_out]
end Go.Proofs.YtagnicbknbmccaaGreatDoor
