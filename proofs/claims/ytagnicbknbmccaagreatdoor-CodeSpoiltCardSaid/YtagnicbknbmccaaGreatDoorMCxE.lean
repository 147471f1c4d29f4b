/- code.Encode of a plain program of one function. code.Encode of a plain program of one function. -/
import Derived.Lib.SlBytesConst
import Derived.Test.YtagnicbknbmccaaGreatDoorMCwV
import Derived.Test.YtagnicbknbmccaaGreatDoorMCwF
import Derived.Test.YtagnicbknbmccaaGreatDoorSqC
set_option maxRecDepth 100000
set_option maxHeartbeats 4000000
namespace Go.Proofs.YtagnicbknbmccaaGreatDoor
open Go.RowKit
section
variable {P:Program} (w:World)
theorem wpList_append_full {ops:Array Oper} {rest:List Oper} {o:Oper} {a:Act} {Q:Exit→Act→World→Prop} (hgd:o.guard=none) (s x:Operand) (t:TypeId)
  (ho:o.op= .call {callee:= .builtin .append,args:= #[s,x],argTypes:= #[t,t]})
  (base:Nat) (e:TypeId) (i:TypeInfo) (z:Value) (ht:P.underlying t=some (.slice e)) (hi:P.info? e=some i) (hz:i.zero=some z)
  (hsize:i.size=1) (hby:i.bytes=1) (hzs:z.cells.size=1)
  (b:Addr) (n:Nat) (xs:List Value) (hs:a.eval s= .slice (some b) n n) (hxl:xs.length=n) (hold:∀j v,xs[j]? =some v→w.cell? (b.add j)=some v)
  (ad:Addr) (u:Value) (hx:a.eval x= .slice (some ad) 1 1) (hnews:w.cell? (ad.add 0)=some u) (hn:n≤1000) (hbase:base≤w.heap.size)
  (h:∀cap w',w'.ownsRow base e 1 (.slice (some ⟨w.heap.size,0,none⟩) (n+1) cap) (n+1) (xs++ [u])→Below w.heap.size w w'→wpList P ops Q rest (a.put o.dst (.slice (some ⟨w.heap.size,0,none⟩) (n+1) cap)) w'):wpList P ops Q (o::rest) a w:=by
 refine wpList_plain hgd fun K hK=> ?_
 have hr:=run_append_grow (P:=P) w t o.type e i z ht hi hz b n n xs (by rw[hsize];omega) hold ad 1 1 [u] (by simp[hsize]) (fun j v hj=>by
  match j,hj with
  |0,hj=>rw[←hj];exact hnews) (by omega) (by omega) (growslice_fits (by omega) (by rw[hby];omega))
 unfold Oper.wp execOp
 simp only[ho,resolve,invoke,builtin,Sem.run_bind,Sem.run_pure,Result.andThen_ok,List.map_toArray,List.map_cons,List.map_nil,hs,hx,hr]
 have hge:=grownCap_ge w (n+1) n e
 refine hK _ _ (h _ _ ⟨by simp[hxl],.inr ⟨w.heap.size,_,_,rfl,hbase,heap_alloc_new w.drew _,hge,grownCap_le_maxLen w (n+1) n e (by unfold maxLen;omega), ?_, ?_⟩⟩ ⟨rfl,rfl,rfl,by simp,fun k hk=>heap_alloc_old w.drew _ hk⟩)
 ·simp only[Array.size_append,List.size_toArray,size_zeroCells,hzs,hxl,List.length_cons,List.length_nil]
  omega
 ·simp only[Array.toList_append,List.append_assoc]
  rw[←List.append_assoc,Nat.mul_one,show n+1=(xs++ [u]).length by simp[hxl]]
  exact List.take_left
end
theorem EncAt.built {w0 W:World} {v:Value} {bs:List UInt8} (h:EncAt w0 W v bs) (o:Obj):∃Wn rn,W.alloc o=Wn∧W.heap.size=rn∧EncAt w0 Wn v bs∧Box Wn v rn o∧∀b p,Box W v b p→Box Wn v b p:=
 ⟨_,_,rfl,rfl,h.alloc o,h.box o,fun _ _ hx=>hx.alloc o⟩
theorem numbers_box {w0 W:World} {v:Value} {bs:List UInt8} (hE:EncAt w0 W v bs) {rb:Nat} {cs:List Value} {fr:Nat×Nat} (hx:Box W v rb (.cells cs.toArray 3 fr)) (l:List Int) (hcs:cs=l.map (Value.int .i64)) {n:Nat} (hn:n=l.length) (hok:∀n∈l,okI n) (hlen:bs.length+11*n≤100000000):
  Calls Tryz.prog 39 #[v,.slice (some ⟨rb,0,none⟩) n n] W (BytesPost W w0.heap.size v (bs++l.flatMap numB)):=by
 subst hn
 refine numbers_any (l:=l) (A:=some ⟨rb,0,none⟩) (cap:=l.length) hE.own hE.low.size (fun g hg=>(hE.own.lt g hg).2) (.inr ⟨rb,0,rfl,hx.lt,fun j v hj=> ?_⟩) (fun a ha=>by obtain rfl:=Option.some.inj ha;exact hx.2) hok (by omega)
 have e:=cell_of_row W rb j _ _ _ hx.1
 rw[Nat.zero_add,e,List.getElem?_toArray,hcs,hj]
theorem numbers_none (v:Value) (A:Option Addr) (cap:Nat) (w:World):Calls Tryz.prog 39 #[v,.slice A 0 cap] w fun e w'=>e= .returned v∧w'=w:=by
 go_enter Tryz.func39,Tryz.ntmps39
 go_wp2_with fail
 go_loopw [0,10] (fun v1 i wr=>v1=v∧i= .int .i64 0∧wr=w) (fun _ _ _=>0)
 case atStart=>exact⟨rfl,rfl,rfl⟩
 case round=>
  obtain⟨rfl,rfl,rfl⟩:=hrel
  go_wp2_with fail
  go_ret
  exact⟨rfl,rfl⟩
theorem numbers_arg {w0 W:World} {v:Value} {bs:List UInt8} (hE:EncAt w0 W v bs) {A:Option Addr} {l:List Int} {cap:Nat} (hr:RowIs w0 w0.heap.size A (l.map (Value.int .i64))) (hok:∀n∈l,okI n) {n:Nat} (hn:l.length=n) (hlen:bs.length+11*n≤100000000):
  Calls Tryz.prog 39 #[v,.slice A n cap] W (BytesPost W w0.heap.size v (bs++l.flatMap numB)):=by
 subst hn
 by_cases h0:l=[]
 ·subst h0
  refine(numbers_none v A cap W).mono ?_
  rintro e w' ⟨rfl,rfl⟩
  exact⟨v,rfl,by simpa using hE.own,Foot.refl _ _ _,fun b h=> .inl h⟩
 ·obtain⟨g,o,rfl,hg,hc⟩:=hr.at (by rw[List.length_map];exact List.length_pos_iff.2 h0)
  refine numbers_any hE.own hE.low.size (fun g hg=>(hE.own.lt g hg).2) ((hr.keep hE.low.block).more hE.low.size) (fun a ha e=> ?_) hok hlen
  obtain rfl:=Option.some.inj ha
  have:=(hE.own.lt _ e).1
  dsimp only at this
  omega
theorem instB_eq (x:Ci) (b:List UInt8) (r:List UInt8):b++(instB x++r)=(((b++ [x.op,x.a,x.b].flatMap numB)++textB x.text.data.toList)++ [x.at_].flatMap numB)++r:=by simp[instB]
end Go.Proofs.YtagnicbknbmccaaGreatDoor
