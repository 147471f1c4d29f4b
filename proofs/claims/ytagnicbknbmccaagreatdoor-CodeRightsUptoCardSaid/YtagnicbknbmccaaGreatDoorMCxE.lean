/- code.Encode of a plain program of one function. code.Encode of a plain program of one function. -/
import Derived.Lib.SlBytesConst
import Derived.Test.YtagnicbknbmccaaGreatDoorMCxD
import Derived.Test.YtagnicbknbmccaaGreatDoorMCwF
import Derived.Test.YtagnicbknbmccaaGreatDoorSqC
set_option maxRecDepth 100000
set_option maxHeartbeats 30000000
namespace Go.Proofs.YtagnicbknbmccaaGreatDoor
open Go.RowKit
section
variable {P:Program} (w:World)
theorem wpList_append_full {ops:Array Oper} {rest:List Oper} {o:Oper} {a:Act} {Q:Exit→Act→World→Prop} (hgd:o.guard=none) (s x:Operand) (t:TypeId)
  (ho:o.op= .call {callee:= .builtin .append,args:= #[s,x],argTypes:= #[t,t]})
  (base:Nat) (e:TypeId) (i:TypeInfo) (z:Value) (ht:P.underlying t=some (.slice e)) (hi:P.info? e=some i) (hz:i.zero=some z)
  (hsize:i.size=1) (hby:i.bytes=1) (hzs:z.cells.size=1)
  (b:Addr) (n:Nat) (xs:List Value) (hs:a.eval s= .slice (some b) n n) (hxl:xs.length=n) (hold:∀j v,xs[j]? =some v→w.cell? (b.add j)=some v)
  (ad:Addr) (u:Value) (hx:a.eval x= .slice (some ad) 1 1) (hnews:w.cell? (ad.add 0)=some u) (hn:n≤1000) (hbase:base≤w.heap.size)
  (h:∀cap w',w'.ownsRow base e 1 (.slice (some ⟨w.heap.size,0,none⟩) (n+1) cap) (n+1) (xs++ [u])→Below w.heap.size w w'→wpList P ops Q rest (a.put o.dst (.slice (some ⟨w.heap.size,0,none⟩) (n+1) cap)) w'):wpList P ops Q (o::rest) a w:=by
 refine wpList_plain hgd fun K hK=> ?_
 have hr:=run_append_grow (P:=P) w t o.type e i z ht hi hz b n n xs (by rw[hsize];omega) hold ad 1 1 [u] (by simp[hsize]) (fun j v hj=>by
  match j,hj with
  |0,hj=>rw[←hj];exact hnews) (by omega) (by omega) (growslice_fits (by omega) (by rw[hby];omega))
 unfold Oper.wp execOp
 simp only[ho,resolve,invoke,builtin,Sem.run_bind,Sem.run_pure,Result.andThen_ok,List.map_toArray,List.map_cons,List.map_nil,hs,hx,hr]
 have hge:=grownCap_ge w (n+1) n e
 refine hK _ _ (h _ _ ⟨by simp[hxl],.inr ⟨w.heap.size,_,_,rfl,hbase,heap_alloc_new w.drew _,hge,grownCap_le_maxLen w (n+1) n e (by unfold maxLen;omega), ?_, ?_⟩⟩ ⟨rfl,rfl,rfl,by simp,fun k hk=>heap_alloc_old w.drew _ hk⟩)
 ·simp only[Array.size_append,List.size_toArray,size_zeroCells,hzs,hxl,List.length_cons,List.length_nil]
  omega
 ·simp only[Array.toList_append,List.append_assoc]
  rw[←List.append_assoc,Nat.mul_one,show n+1=(xs++ [u]).length by simp[hxl]]
  exact List.take_left
end
theorem numbers_first {w:World} (lo:Nat) (hlo:lo≤w.heap.size) {g rb:Nat} (bs:List UInt8) (hbs:bs.length≤1000) (hc:∀j v,(Lib.byteCells bs)[j]? =some v→w.cell? ⟨g,j,none⟩=some v) (c:UInt8) (hcl:c.toNat≤127) (x:Int) (hx:okI x) (hf:foldN x=c.toNat) (hrb:w.cell? ⟨rb,0,none⟩=some (.int .i64 x)) (hrl:rb<w.heap.size) (hgl:g<w.heap.size):
  Calls Tryz.prog 39 #[.slice (some ⟨g,0,none⟩) bs.length bs.length,.slice (some ⟨rb,0,none⟩) 1 1] w fun e w'=>∃v',e= .returned v'∧w'.ownsRow lo 5 1 v' (bs.length+1) (Lib.byteCells (bs++ [c]))∧Below w.heap.size w w'∧∀b,v'.ownBlock=some b→w.heap.size≤b:=by
 obtain⟨i0,hi,hz0,hz1,hz2⟩:=info_parts byteInfo
 obtain⟨n,hn⟩:∃n,bs.length=n:=⟨_,rfl⟩
 have HBL:Hid ((Lib.byteCells bs).length=n):=Lib.hid (by simp[Lib.byteCells,hn])
 have HC:=Lib.hid hc
 rw[hn] at hbs⊢
 clear hc hn
 go_enter Tryz.func39,Tryz.ntmps39
 go_wp2_with fail
 go_loopw [0,10] (fun v1 i wr=>(i= .int .i64 0∧v1= .slice (some ⟨g,0,none⟩) n n∧wr=w)∨(i= .int .i64 1∧Hid (wr.ownsRow lo 5 1 v1 (n+1) (Lib.byteCells (bs++ [c])))∧Hid (Below w.heap.size w wr)∧Hid (∀b,v1.ownBlock=some b→w.heap.size≤b))) (fun _ i _=>1-(intOf i).toNat)
 case atStart=>exact .inl ⟨rfl,rfl,rfl⟩
 case round=>
  rcases hrel with⟨rfl,rfl,rfl⟩|⟨rfl,HO,HB,HG⟩
  ·go_wp2_with (go_at_call 87;refine(folded_any x hx _).mono ?_;rintro e w1 ⟨rfl,rfl⟩;rw[hf])
   go_loopw [0,7] (fun v2 uv wy=>v2= .slice (some ⟨g,0,none⟩) n n∧uv= .int .u64 c.toNat∧wy=w1) (fun _ _ _=>0)
   case atStart=>exact⟨rfl,rfl,rfl⟩
   case round=>
    obtain⟨rfl,rfl,rfl⟩:=hrel
    have d:decide (127<c.toNat)=false:=decide_eq_false (by omega)
    go_wp2_with (at_builtin;refine wpList_append_full _ rfl _ _ 75 rfl lo 5 i0 _ Tryz.underlying75 hi hz0 hz1 hz2 rfl ⟨g,0,none⟩ n (Lib.byteCells bs) rfl HBL.out (fun j v hj=>by rw[Addr.add_lit,Nat.zero_add];exact(World.cell?_of_block (w:=wr) (a:=⟨g,j,none⟩) (heap_alloc_old _ _ hgl)).trans (HC.out j v hj)) _ (.int .u8 c.toNat) rfl (by rw[Addr.add_lit];exact(cell_of_row _ _ 0 _ _ _ (heap_alloc_new _ _)).trans rfl) hbs (by simp;omega) ?_;intro cap2 w2 ho2 hb2)
    refine⟨.inr ⟨rfl,Lib.hid ?_,Lib.hid ?_,Lib.hid fun b hb=> ?_⟩,by simp[intOf]⟩
    ·simpa[Lib.byteCells] using ho2
    ·exact((Below.refl _ _).alloc (Nat.le_refl _) _).trans (hb2.mono (by simp))
    ·simp only[Value.ownBlock,Option.some.injEq] at hb;omega
  ·go_wp2_with fail
   go_ret
   exact⟨_,rfl,HO.out,HB.out,HG.out⟩
theorem enc_first {w w1:World} (hb:Below w.heap.size w w1) {o:Obj} (hp:w1.heap[w.heap.size]? =some o):
  Calls Tryz.prog 39 #[.slice (some ⟨w1.heap.size,0,none⟩) 4 4,.slice (some ⟨w1.heap.size+1,0,none⟩) 1 1] ((w1.alloc (.cells #[.int .u8 71,.int .u8 67,.int .u8 48,.int .u8 49] 5 (4,5))).alloc (.cells #[.int .i64 0] 3 (0,0)))
   fun e w'=>∃v',e= .returned v'∧EncAt w w' v' [71,67,48,49,0]∧Box w' v' w.heap.size o:=by
 have hs1:(w1.alloc (.cells #[.int .u8 71,.int .u8 67,.int .u8 48,.int .u8 49] 5 (4,5))).heap.size=w1.heap.size+1:=World.size_alloc _ _
 have hs2:((w1.alloc (.cells #[.int .u8 71,.int .u8 67,.int .u8 48,.int .u8 49] 5 (4,5))).alloc (.cells #[.int .i64 0] 3 (0,0))).heap.size=w1.heap.size+2:=by rw[World.size_alloc,hs1]
 have hlt:=(Array.getElem?_eq_some_iff.1 hp).1
 have hB2:Below w.heap.size w ((w1.alloc (.cells #[.int .u8 71,.int .u8 67,.int .u8 48,.int .u8 49] 5 (4,5))).alloc (.cells #[.int .i64 0] 3 (0,0))):=(hb.alloc hb.size _).alloc (by rw[hs1];have:=hb.size;omega) _
 have hn1:=heap_alloc_new (w1.alloc (.cells #[.int .u8 71,.int .u8 67,.int .u8 48,.int .u8 49] 5 (4,5))) (.cells #[.int .i64 0] 3 (0,0))
 rw[hs1] at hn1
 refine(numbers_first w.heap.size (by rw[hs2];have:=hb.size;omega) [71,67,48,49] (by decide) (fun j u hj=> ?_) 0 (by decide) 0 ⟨by decide,by decide⟩ rfl (cell_of_row _ _ 0 _ _ _ hn1) (by rw[hs2];omega) (by rw[hs2];omega)).mono ?_
 ·have e:=cell_of_row ((w1.alloc (.cells #[.int .u8 71,.int .u8 67,.int .u8 48,.int .u8 49] 5 (4,5))).alloc (.cells #[.int .i64 0] 3 (0,0))) w1.heap.size j _ _ _ ((heap_alloc_old _ _ (by rw[hs1];omega)).trans (heap_alloc_new w1 _))
  rw[e,List.getElem?_toArray]
  exact hj
 ·rintro e w2 ⟨v2,rfl,ho2,hb2,hv2⟩
  rw[hs2] at hb2 hv2
  refine⟨v2,rfl,⟨ho2,hB2.trans (hb2.mono (by have:=hb.size;omega))⟩, ?_,fun e=> ?_⟩
  ·exact(hb2.block _ (by omega)).trans ((heap_alloc_old _ _ (by rw[hs1];omega)).trans ((heap_alloc_old _ _ hlt).trans hp))
  ·have:=hv2 _ e;omega
theorem EncAt.built {w0 W:World} {v:Value} {bs:List UInt8} (h:EncAt w0 W v bs) (o:Obj):∃Wn rn,W.alloc o=Wn∧W.heap.size=rn∧EncAt w0 Wn v bs∧Box Wn v rn o∧∀b p,Box W v b p→Box Wn v b p:=
 ⟨_,_,rfl,rfl,h.alloc o,h.box o,fun _ _ hx=>hx.alloc o⟩
theorem numbers_box {w0 W:World} {v:Value} {bs:List UInt8} (hE:EncAt w0 W v bs) {rb:Nat} {cs:List Value} {fr:Nat×Nat} (hx:Box W v rb (.cells cs.toArray 3 fr)) (l:List Int) (hcs:cs=l.map (Value.int .i64)) {n:Nat} (hn:n=l.length) (hok:∀n∈l,okI n) (hlen:bs.length+11*n≤100000000):
  Calls Tryz.prog 39 #[v,.slice (some ⟨rb,0,none⟩) n n] W (BytesPost W w0.heap.size v (bs++l.flatMap numB)):=by
 subst hn
 refine numbers_any (l:=l) (A:=some ⟨rb,0,none⟩) (cap:=l.length) hE.own hE.low.size (fun g hg=>(hE.own.lt g hg).2) (.inr ⟨rb,0,rfl,hx.lt,fun j v hj=> ?_⟩) (fun a ha=>by obtain rfl:=Option.some.inj ha;exact hx.2) hok (by omega)
 have e:=cell_of_row W rb j _ _ _ hx.1
 rw[Nat.zero_add,e,List.getElem?_toArray,hcs,hj]
theorem numbers_none (v:Value) (A:Option Addr) (cap:Nat) (w:World):Calls Tryz.prog 39 #[v,.slice A 0 cap] w fun e w'=>e= .returned v∧w'=w:=by
 go_enter Tryz.func39,Tryz.ntmps39
 go_wp2_with fail
 go_loopw [0,10] (fun v1 i wr=>v1=v∧i= .int .i64 0∧wr=w) (fun _ _ _=>0)
 case atStart=>exact⟨rfl,rfl,rfl⟩
 case round=>
  obtain⟨rfl,rfl,rfl⟩:=hrel
  go_wp2_with fail
  go_ret
  exact⟨rfl,rfl⟩
theorem numbers_arg {w0 W:World} {v:Value} {bs:List UInt8} (hE:EncAt w0 W v bs) {A:Option Addr} {l:List Int} {cap:Nat} (hr:RowIs w0 w0.heap.size A (l.map (Value.int .i64))) (hok:∀n∈l,okI n) {n:Nat} (hn:l.length=n) (hlen:bs.length+11*n≤100000000):
  Calls Tryz.prog 39 #[v,.slice A n cap] W (BytesPost W w0.heap.size v (bs++l.flatMap numB)):=by
 subst hn
 by_cases h0:l=[]
 ·subst h0
  refine(numbers_none v A cap W).mono ?_
  rintro e w' ⟨rfl,rfl⟩
  exact⟨v,rfl,by simpa using hE.own,Foot.refl _ _ _,fun b h=> .inl h⟩
 ·obtain⟨g,o,rfl,hg,hc⟩:=hr.at (by rw[List.length_map];exact List.length_pos_iff.2 h0)
  refine numbers_any hE.own hE.low.size (fun g hg=>(hE.own.lt g hg).2) ((hr.keep hE.low.block).more hE.low.size) (fun a ha e=> ?_) hok hlen
  obtain rfl:=Option.some.inj ha
  have:=(hE.own.lt _ e).1
  dsimp only at this
  omega
theorem instB_eq (x:Ci) (b:List UInt8) (r:List UInt8):b++(instB x++r)=(((b++ [x.op,x.a,x.b].flatMap numB)++textB x.text.data.toList)++ [x.at_].flatMap numB)++r:=by simp[instB]
theorem funcB_eq (f:Cf) (b:List UInt8):b++funcB f=(((((b++textB f.name.data.toList)++ [f.params,f.slots,(f.taken.length:Int)].flatMap numB)++f.taken.flatMap numB)++ [f.around,(f.code.length:Int)].flatMap numB)++f.code.flatMap instB):=by simp[funcB]
theorem numU_pos1:∀f u,1≤(numU f u).length
 |0,u=>by simp[numU]
 |f+1,u=>by rw[numU];split<;>simp
theorem numB_pos1 (n:Int):1≤(numB n).length:=numU_pos1 _ _
theorem taken_le (l:List Int):l.length≤(l.flatMap numB).length:=by
 induction l with
 |nil=>simp
 |cons a l ih=>simp only[List.length_cons,List.flatMap_cons,List.length_append];have:=numB_pos1 a;omega
theorem encode_plain {p:Cp} {f:Cf} (hp:Plain p f) {v:Value} {w:World} (hG:Gc w) (hv:LiesC w w.heap.size p v) (hr:fitsP f.code=none) (hok:CfOk f) (hlen:(encodeB p).length≤80000000):
  Calls Tryz.prog 12 #[v] w fun e w'=>e= .returned (.tuple #[.string ⟨(encodeB p).toArray⟩,.nilIface])∧Below w.heap.size w w':=by
 have ho:=hp.one
 obtain⟨T,hT⟩:∃T,encodeB p=T:=⟨_,rfl⟩
 have he: [71,67,48,49]++(numB 0++(numB 1++funcB f))=T:=by
  rw[←hT];unfold encodeB;rw[ho.fs,ho.gs];simp
 rw[hT] at hlen⊢
 obtain⟨g,off,fc,ga,gc,fv,rfl,hfc,hA⟩:=hv.one ho
 have HV:=Lib.hid hv
 have HO:=Lib.hid ho
 have HK:=Lib.hid hp
 have HGc:=Lib.hid hG
 have HA:=Lib.hid hA
 have HT:Hid (([71,67,48,49,0]++ [(1:Int)].flatMap numB)++funcB f=T):=Lib.hid (by rw[←he];simp[show numB 0=[0] from rfl])
 have HOK:=Lib.hid hok
 have HR:=Lib.hid hr
 obtain⟨n,hn⟩:∃n,f.code.length=n:=⟨_,rfl⟩
 obtain⟨t,ht⟩:∃t,f.taken.length=t:=⟨_,rfl⟩
 have HN:=Lib.hid hn
 have HTL:=Lib.hid ht
 have hg:=hA.lt
 have h1:=ho.code
 rw[hn] at h1
 have HLV:=Lib.hid (fun(W:World) (hb:Below w.heap.size w W)=>(HV.out.keep hb.block).more hb.size)
 have HCS:=Lib.hid (fun(W:World) (hb:Below w.heap.size w W)=>(hA.keep hb.block).cs)
 rw[hn,ht] at HCS
 clear hv ho hp hG hA hn ht he hT hok hr
 have HB0:Hid (Below w.heap.size w (w.alloc (.cells #[.slice (some ⟨g,off,none⟩) 1 fc,.slice ga 0 gc] 27 (0,0)))):=Lib.hid ((Below.refl _ _).alloc (Nat.le_refl _) _)
 have HP0:=Lib.hid (heap_alloc_new w (.cells #[.slice (some ⟨g,off,none⟩) 1 fc,.slice ga 0 gc] 27 (0,0)))
 have kc:=fun(w:World) (C:Array Value) (n c:Nat)=>Lib.run_convert_bytes_const (P:=Tryz.prog) w 75 5 C n c Tryz.underlying75 Tryz.underlying5
 go_enter Tryz.func12,Tryz.ntmps12
 go_wp2_with (first
  |(go_at_call 11;refine(right_plain HK.out (HGc.out.up HB0.out) (HLV.out _ HB0.out) HR.out (by simp)).mono ?_;rintro e w1 ⟨hb1,rfl⟩;have hB1:=HB0.out.trans (hb1.mono HB0.out.size);have hP1:=(hb1.block _ (Array.getElem?_eq_some_iff.1 HP0.out).1).trans HP0.out;have hP2:=(heap_alloc_old w1 (.cells #[.int .u8 71,.int .u8 67,.int .u8 48,.int .u8 49] 5 (4,5)) (Array.getElem?_eq_some_iff.1 hP1).1).trans hP1;have p1:=cell_of_row _ _ 1 _ _ _ hP2;simp only[gq] at p1;have HB1:=Lib.hid hB1;have HP1:=Lib.hid hP1;clear hB1 hP1 hP2 hb1)
  |(go_at_call 39;refine(enc_first HB1.out HP1.out).mono ?_;rintro e w2 ⟨v2,rfl,hE2,hbx2⟩;have p3:=cell_of_row _ _ 1 _ _ _ hbx2.1;have p4:=cell_of_row _ _ 0 _ _ _ hbx2.1;simp only[gq] at p3 p4;have HE2:=Lib.hid hE2;have HX2:=Lib.hid hbx2;clear hE2 hbx2))
 go_loopw [5,27] (fun v1 i wr=>i= .int .i64 0∧Hid (EncAt w wr v1 [71,67,48,49,0])∧Hid (Box wr v1 w.heap.size (.cells #[.slice (some ⟨g,off,none⟩) 1 fc,.slice ga 0 gc] 27 (0,0)))) (fun _ _ _=>0)
 case atStart=>exact⟨rfl,HE2,HX2⟩
 case round=>
  clear HE2 HX2 p3 p4 p1
  obtain⟨rfl,HE3,HX3⟩:=hrel
  have p0:=cell_of_row wr _ 0 _ _ _ HX3.out.1
  simp only[List.getElem?_toArray,List.getElem?_cons_zero] at p0
  go_wp2_with (go_at_call 39;refine(numbers_box (HE3.out.alloc _) (HE3.out.box _) [1] rfl rfl (fun n hn=>by rw[List.mem_singleton.1 hn];exact⟨by decide,by decide⟩) (by decide)).mono ?_;rintro e w4 hq;obtain⟨v4,rfl,hE4,hbx4⟩:=(HE3.out.alloc _).post hq;have HE4:=Lib.hid hE4;have HX4:=Lib.hid (hbx4 _ _ (HX3.out.alloc _));clear hq hE4 hbx4;have p2:=cell_of_row w4 _ 0 _ _ _ HX4.out.1;simp only[List.getElem?_toArray,List.getElem?_cons_zero] at p2)
  clear p0
  go_loopw [5,44] (fun v1 i wr=>(i= .int .i64 0∧Hid (EncAt w wr v1 ([71,67,48,49,0]++ [(1:Int)].flatMap numB))∧Hid (Box wr v1 w.heap.size (.cells #[.slice (some ⟨g,off,none⟩) 1 fc,.slice ga 0 gc] 27 (0,0))))∨(i= .int .i64 1∧Hid (EncAt w wr v1 T))) (fun _ i _=>1-(intOf i).toNat)
  case atStart=>exact .inl ⟨rfl,HE4,HX4⟩
  case round=>
   clear HE4 HX4 p2 HE3 HX3
   rcases hrel with⟨rfl,HE5,HX5⟩|⟨rfl,HE5⟩
   ·obtain⟨x0,x1,x2,x3,x4,x5⟩:=HCS.out _ HE5.out.low
    go_upto_region 14 with fail
    have HE:=Lib.hid (HE5.out.alloc (.cells #[.string f.name,.int .i64 f.params,.int .i64 f.slots,.slice fv.ta t fv.tc,.int .i64 f.around,.slice fv.ca n fv.cc] 33 (0,0)))
    have HXpb:=Lib.hid (HX5.out.alloc (.cells #[.string f.name,.int .i64 f.params,.int .i64 f.slots,.slice fv.ta t fv.tc,.int .i64 f.around,.slice fv.ca n fv.cc] 33 (0,0)))
    have HXfb:=Lib.hid (HE5.out.box (.cells #[.string f.name,.int .i64 f.params,.int .i64 f.slots,.slice fv.ta t fv.tc,.int .i64 f.around,.slice fv.ca n fv.cc] 33 (0,0)))
    obtain⟨fb,hfb⟩:∃fb,wr.heap.size=fb:=⟨_,rfl⟩
    obtain⟨W0,hW0⟩:∃W0,wr.alloc (.cells #[.string f.name,.int .i64 f.params,.int .i64 f.slots,.slice fv.ta t fv.tc,.int .i64 f.around,.slice fv.ca n fv.cc] 33 (0,0))=W0:=⟨_,rfl⟩
    simp only[hW0,hfb] at HE HXpb HXfb⊢
    clear hW0 hfb x0 x1 x2 x3 x4 x5 HE5 HX5
    have hk1:∀z∈ [f.params,f.slots,(t:Int)],okI z:=by
     intro z hz
     have h3:=HOK.out
     rcases List.mem_cons.1 hz with rfl|hz
     ·exact h3.2.1
     rcases List.mem_cons.1 hz with rfl|hz
     ·exact h3.2.2.1
     rw[List.mem_singleton.1 hz]
     have:=h3.2.2.2.2.1
     rw[HTL.out] at this
     exact⟨by omega,by omega⟩
    have hk3:∀z∈ [f.around,(n:Int)],okI z:=by
     intro z hz
     rcases List.mem_cons.1 hz with rfl|hz
     ·exact HOK.out.2.2.2.1
     rw[List.mem_singleton.1 hz]
     exact⟨by omega,by omega⟩
    have HK1:=Lib.hid hk1
    have HK3:=Lib.hid hk3
    have HK2:Hid (∀z∈f.taken,okI z):=Lib.hid HOK.out.2.2.2.2.2.2.1
    have HTK:Hid (RowIs w w.heap.size fv.ta (f.taken.map (Value.int .i64))):=Lib.hid HA.out.own.1
    have hq:=HT.out
    rw[funcB_eq,HTL.out,HN.out] at hq
    have HQ:=Lib.hid hq
    have hlq:=congrArg List.length hq
    have htl:=taken_le f.taken
    rw[HTL.out] at htl
    simp only[List.length_append] at hlq
    have hns:f.name.size≤(textB f.name.data.toList).length:=by
     have h1:f.name.data.toList.length=f.name.size:=by rw[Array.length_toList];rfl
     unfold textB
     simp only[List.length_append]
     omega
    have HL1:Hid (([71,67,48,49,0]++ [(1:Int)].flatMap numB).length+(textB f.name.data.toList).length≤80000000∧f.name.size≤(textB f.name.data.toList).length):=Lib.hid ⟨by simp only[List.length_append];omega,hns⟩
    have HL2:Hid (((([71,67,48,49,0]++ [(1:Int)].flatMap numB)++textB f.name.data.toList)++ [f.params,f.slots,(t:Int)].flatMap numB).length+(f.taken.flatMap numB).length≤80000000∧11*t≤11*20000):=Lib.hid ⟨by simp only[List.length_append];omega,by have:=HO.out.taken;rw[HTL.out] at this;omega⟩
    clear hq hlq hk1 hk3 htl hns
    go_cut [5] (fun s5 wx=>Hid (EncAt w wx s5 ((([71,67,48,49,0]++ [(1:Int)].flatMap numB)++textB f.name.data.toList)++ [f.params,f.slots,(t:Int)].flatMap numB))∧Hid (Box wx s5 w.heap.size (.cells #[.slice (some ⟨g,off,none⟩) 1 fc,.slice ga 0 gc] 27 (0,0)))∧Hid (Box wx s5 fb (.cells #[.string f.name,.int .i64 f.params,.int .i64 f.slots,.slice fv.ta t fv.tc,.int .i64 f.around,.slice fv.ca n fv.cc] 33 (0,0))))
    case first=>
     have HE:=Lib.hid HE.out.drew
     have HXpb:=Lib.hid HXpb.out.drew
     have HXfb:=Lib.hid HXfb.out.drew
     obtain⟨y0,y1,y2,y3⟩:W0.drew.cell? ⟨fb,0,none⟩=some (.string f.name)∧W0.drew.cell? ⟨fb,1,none⟩=some (.int .i64 f.params)∧W0.drew.cell? ⟨fb,2,none⟩=some (.int .i64 f.slots)∧W0.drew.cell? ⟨fb,3,none⟩=some (.slice fv.ta t fv.tc):=⟨cell_of_row _ fb 0 _ _ _ HXfb.out.1,cell_of_row _ fb 1 _ _ _ HXfb.out.1,cell_of_row _ fb 2 _ _ _ HXfb.out.1,cell_of_row _ fb 3 _ _ _ HXfb.out.1⟩
     refine wp_region_G [] (fun y=>y.cell? ⟨fb,0,none⟩=some (.string f.name)∧y.cell? ⟨fb,1,none⟩=some (.int .i64 f.params)∧y.cell? ⟨fb,2,none⟩=some (.int .i64 f.slots)∧y.cell? ⟨fb,3,none⟩=some (.slice fv.ta t fv.tc)) (by rfl) ?_ (fun hHeld=> ?_)
     ·exact⟨y0,y1,y2,y3⟩
     generalize hwd:World.drew W0=wd at HE HXpb HXfb y0 y1 y2 y3 hHeld⊢
     refine tk 0 (h:=tk 1 (h:=tk 2 (h:=tk 4 (h:=tk 5 (h:=tk 6 (h:= ?_))))))
     try simp only[nmC]
     refine tk 7 (h:=tk 8 (h:=tk 9 (h:=tk 10 (h:= ?_))))
     try simp only[nmC]
     refine rd2 3 11 (fun KK hKK=> ?_) fun KK hKK=> ?_
     ·go_simp
      go_at_call 40
      refine(text_any HE.out.own HE.out.low.size _ (by have:=HL1.out;omega)).mono ?_
      rintro e wz hq
      obtain⟨vz,rfl,hE,hbx⟩:=HE.out.post hq
      have HXpb:=Lib.hid (hbx _ _ HXpb.out)
      have HXfb:=Lib.hid (hbx _ _ HXfb.out)
      have HE:=Lib.hid hE
      clear hE hbx hq
      try dsimp only
      obtain⟨y0,y1,y2,y3⟩:=cr4 _ fb HXfb.out.1
      simp only[gq] at y0 y1 y2 y3
      refine hKK.out _ _ (⟨y0,y1,y2,y3⟩) (fun hHeld=> ?_)
      clear hKK KK
      try simp only[nmC]
      refine rd1 11 fun KK hKK=> ?_
      go_simp
      obtain⟨wb,ab,eW,eA,hE,hX,hbx⟩:=HE.out.built (.cells #[.int .i64 f.params,.int .i64 f.slots,.int .i64 t] 3 (0,0))
      simp only[eW,eA]
      clear eW eA
      have HXr1:=Lib.hid hX
      have HXpb:=Lib.hid (hbx _ _ HXpb.out)
      have HXfb:=Lib.hid (hbx _ _ HXfb.out)
      have HE:=Lib.hid hE
      clear hE hX hbx
      obtain⟨y0,y1,y2,y3⟩:=cr4 _ fb HXfb.out.1
      simp only[gq] at y0 y1 y2 y3
      refine hKK.out _ _ (⟨y0,y1,y2,y3⟩) (fun hHeld=> ?_)
      clear hKK KK
      try simp only[nmC]
      refine rd1 12 fun KK hKK=> ?_
      go_simp
      go_at_call 39
      refine(numbers_box HE.out HXr1.out [f.params,f.slots,(t:Int)] rfl rfl HK1.out (by have:=HL1.out;simp only[List.length_append,List.length_cons,List.length_nil] at this⊢;omega)).mono ?_
      rintro e wz hq
      obtain⟨vz,rfl,hE,hbx⟩:=HE.out.post hq
      have HXpb:=Lib.hid (hbx _ _ HXpb.out)
      have HXfb:=Lib.hid (hbx _ _ HXfb.out)
      have HXr1:=Lib.hid (hbx _ _ HXr1.out)
      have HE:=Lib.hid hE
      clear hE hbx hq
      try dsimp only
      obtain⟨y0,y1,y2,y3⟩:=cr4 _ fb HXfb.out.1
      simp only[gq] at y0 y1 y2 y3
      refine hKK.out _ _ (⟨y0,y1,y2,y3⟩) (fun hHeld=> ?_)
      clear hKK KK
      try simp only[nmC]
      refine tk 13 (h:= ?_)
      try simp only[nmC]
      refine wpAnyG_done (by kernel_rfl) ?_ _
      try go_wp2_with fail
      go_meet
      exact⟨HE,HXpb,HXfb⟩
     ·go_simp
      obtain⟨wb,ab,eW,eA,hE,hX,hbx⟩:=HE.out.built (.cells #[.int .i64 f.params,.int .i64 f.slots,.int .i64 t] 3 (0,0))
      simp only[eW,eA]
      clear eW eA
      have HXr1:=Lib.hid hX
      have HXpb:=Lib.hid (hbx _ _ HXpb.out)
      have HXfb:=Lib.hid (hbx _ _ HXfb.out)
      have HE:=Lib.hid hE
      clear hE hX hbx
      obtain⟨y0,y1,y2,y3⟩:=cr4 _ fb HXfb.out.1
      simp only[gq] at y0 y1 y2 y3
      refine hKK.out _ _ (⟨y0,y1,y2,y3⟩) (fun hHeld=> ?_)
      clear hKK KK
      try simp only[nmC]
      refine rd1 3 fun KK hKK=> ?_
      go_simp
      go_at_call 40
      refine(text_any HE.out.own HE.out.low.size _ (by have:=HL1.out;omega)).mono ?_
      rintro e wz hq
      obtain⟨vz,rfl,hE,hbx⟩:=HE.out.post hq
      have HXpb:=Lib.hid (hbx _ _ HXpb.out)
      have HXfb:=Lib.hid (hbx _ _ HXfb.out)
      have HXr1:=Lib.hid (hbx _ _ HXr1.out)
      have HE:=Lib.hid hE
      clear hE hbx hq
      try dsimp only
      obtain⟨y0,y1,y2,y3⟩:=cr4 _ fb HXfb.out.1
      simp only[gq] at y0 y1 y2 y3
      refine hKK.out _ _ (⟨y0,y1,y2,y3⟩) (fun hHeld=> ?_)
      clear hKK KK
      try simp only[nmC]
      refine rd1 12 fun KK hKK=> ?_
      go_simp
      go_at_call 39
      refine(numbers_box HE.out HXr1.out [f.params,f.slots,(t:Int)] rfl rfl HK1.out (by have:=HL1.out;simp only[List.length_append,List.length_cons,List.length_nil] at this⊢;omega)).mono ?_
      rintro e wz hq
      obtain⟨vz,rfl,hE,hbx⟩:=HE.out.post hq
      have HXpb:=Lib.hid (hbx _ _ HXpb.out)
      have HXfb:=Lib.hid (hbx _ _ HXfb.out)
      have HXr1:=Lib.hid (hbx _ _ HXr1.out)
      have HE:=Lib.hid hE
      clear hE hbx hq
      try dsimp only
      obtain⟨y0,y1,y2,y3⟩:=cr4 _ fb HXfb.out.1
      simp only[gq] at y0 y1 y2 y3
      refine hKK.out _ _ (⟨y0,y1,y2,y3⟩) (fun hHeld=> ?_)
      clear hKK KK
      try simp only[nmC]
      refine tk 13 (h:= ?_)
      try simp only[nmC]
      refine wpAnyG_done (by kernel_rfl) ?_ _
      try go_wp2_with fail
      go_meet
      exact⟨HE,HXpb,HXfb⟩
    case rest=>
     obtain⟨HE,HXpb,HXfb⟩:=hcut
     go_upto_region 15 with fail
     go_cut [5] (fun s5 wx=>Hid (EncAt w wx s5 (((((([71,67,48,49,0]++ [(1:Int)].flatMap numB)++textB f.name.data.toList)++ [f.params,f.slots,(t:Int)].flatMap numB))++f.taken.flatMap numB)++ [f.around,(n:Int)].flatMap numB))∧Hid (Box wx s5 w.heap.size (.cells #[.slice (some ⟨g,off,none⟩) 1 fc,.slice ga 0 gc] 27 (0,0)))∧Hid (Box wx s5 fb (.cells #[.string f.name,.int .i64 f.params,.int .i64 f.slots,.slice fv.ta t fv.tc,.int .i64 f.around,.slice fv.ca n fv.cc] 33 (0,0))))
     case first=>
      have HE:=Lib.hid HE.out.drew
      have HXpb:=Lib.hid HXpb.out.drew
      have HXfb:=Lib.hid HXfb.out.drew
      obtain⟨y3,y4,y5⟩:wc.drew.cell? ⟨fb,3,none⟩=some (.slice fv.ta t fv.tc)∧wc.drew.cell? ⟨fb,4,none⟩=some (.int .i64 f.around)∧wc.drew.cell? ⟨fb,5,none⟩=some (.slice fv.ca n fv.cc):=⟨cell_of_row _ fb 3 _ _ _ HXfb.out.1,cell_of_row _ fb 4 _ _ _ HXfb.out.1,cell_of_row _ fb 5 _ _ _ HXfb.out.1⟩
      refine wp_region_G [] (fun y=>y.cell? ⟨fb,3,none⟩=some (.slice fv.ta t fv.tc)∧y.cell? ⟨fb,4,none⟩=some (.int .i64 f.around)∧y.cell? ⟨fb,5,none⟩=some (.slice fv.ca n fv.cc)) (by rfl) ?_ (fun hHeld=> ?_)
      ·exact⟨y3,y4,y5⟩
      generalize hwd:World.drew wc=wd at HE HXpb HXfb y3 y4 y5 hHeld⊢
      refine tk 0 (h:=tk 1 (h:=tk 2 (h:=tk 4 (h:=tk 5 (h:=tk 6 (h:= ?_))))))
      try simp only[nmC]
      refine tk 7 (h:=tk 8 (h:= ?_))
      try simp only[nmC]
      refine rd2 3 9 (fun KK hKK=> ?_) fun KK hKK=> ?_
      ·go_simp
       go_at_call 39
       refine(numbers_arg HE.out HTK.out HK2.out HTL.out (by have:=HL2.out;omega)).mono ?_
       rintro e wz hq
       obtain⟨vz,rfl,hE,hbx⟩:=HE.out.post hq
       have HXpb:=Lib.hid (hbx _ _ HXpb.out)
       have HXfb:=Lib.hid (hbx _ _ HXfb.out)
       have HE:=Lib.hid hE
       clear hE hbx hq
       try dsimp only
       have y3:=cell_of_row _ fb 3 _ _ _ HXfb.out.1
       have y4:=cell_of_row _ fb 4 _ _ _ HXfb.out.1
       have y5:=cell_of_row _ fb 5 _ _ _ HXfb.out.1
       simp only[gq] at y3 y4 y5
       refine hKK.out _ _ (⟨y3,y4,y5⟩) (fun hHeld=> ?_)
       clear hKK KK
       try simp only[nmC]
       refine rd1 9 fun KK hKK=> ?_
       go_simp
       obtain⟨wb,ab,eW,eA,hE,hX,hbx⟩:=HE.out.built (.cells #[.int .i64 f.around,.int .i64 n] 3 (0,0))
       simp only[eW,eA]
       clear eW eA
       have HXr2:=Lib.hid hX
       have HXpb:=Lib.hid (hbx _ _ HXpb.out)
       have HXfb:=Lib.hid (hbx _ _ HXfb.out)
       have HE:=Lib.hid hE
       clear hE hX hbx
       have y3:=cell_of_row _ fb 3 _ _ _ HXfb.out.1
       have y4:=cell_of_row _ fb 4 _ _ _ HXfb.out.1
       have y5:=cell_of_row _ fb 5 _ _ _ HXfb.out.1
       simp only[gq] at y3 y4 y5
       refine hKK.out _ _ (⟨y3,y4,y5⟩) (fun hHeld=> ?_)
       clear hKK KK
       try simp only[nmC]
       refine rd1 10 fun KK hKK=> ?_
       go_simp
       go_at_call 39
       refine(numbers_box HE.out HXr2.out [f.around,(n:Int)] rfl rfl HK3.out (by have:=HL2.out;simp only[List.length_append,List.length_cons,List.length_nil] at this⊢;omega)).mono ?_
       rintro e wz hq
       obtain⟨vz,rfl,hE,hbx⟩:=HE.out.post hq
       have HXpb:=Lib.hid (hbx _ _ HXpb.out)
       have HXfb:=Lib.hid (hbx _ _ HXfb.out)
       have HXr2:=Lib.hid (hbx _ _ HXr2.out)
       have HE:=Lib.hid hE
       clear hE hbx hq
       try dsimp only
       have y3:=cell_of_row _ fb 3 _ _ _ HXfb.out.1
       have y4:=cell_of_row _ fb 4 _ _ _ HXfb.out.1
       have y5:=cell_of_row _ fb 5 _ _ _ HXfb.out.1
       simp only[gq] at y3 y4 y5
       refine hKK.out _ _ (⟨y3,y4,y5⟩) (fun hHeld=> ?_)
       clear hKK KK
       try simp only[nmC]
       refine tk 11 (h:= ?_)
       try simp only[nmC]
       refine wpAnyG_done (by kernel_rfl) ?_ _
       try go_wp2_with fail
       go_meet
       exact⟨HE,HXpb,HXfb⟩
      ·go_simp
       obtain⟨wb,ab,eW,eA,hE,hX,hbx⟩:=HE.out.built (.cells #[.int .i64 f.around,.int .i64 n] 3 (0,0))
       simp only[eW,eA]
       clear eW eA
       have HXr2:=Lib.hid hX
       have HXpb:=Lib.hid (hbx _ _ HXpb.out)
       have HXfb:=Lib.hid (hbx _ _ HXfb.out)
       have HE:=Lib.hid hE
       clear hE hX hbx
       have y3:=cell_of_row _ fb 3 _ _ _ HXfb.out.1
       have y4:=cell_of_row _ fb 4 _ _ _ HXfb.out.1
       have y5:=cell_of_row _ fb 5 _ _ _ HXfb.out.1
       simp only[gq] at y3 y4 y5
       refine hKK.out _ _ (⟨y3,y4,y5⟩) (fun hHeld=> ?_)
       clear hKK KK
       try simp only[nmC]
       refine rd1 3 fun KK hKK=> ?_
       go_simp
       go_at_call 39
       refine(numbers_arg HE.out HTK.out HK2.out HTL.out (by have:=HL2.out;omega)).mono ?_
       rintro e wz hq
       obtain⟨vz,rfl,hE,hbx⟩:=HE.out.post hq
       have HXpb:=Lib.hid (hbx _ _ HXpb.out)
       have HXfb:=Lib.hid (hbx _ _ HXfb.out)
       have HXr2:=Lib.hid (hbx _ _ HXr2.out)
       have HE:=Lib.hid hE
       clear hE hbx hq
       try dsimp only
       have y3:=cell_of_row _ fb 3 _ _ _ HXfb.out.1
       have y4:=cell_of_row _ fb 4 _ _ _ HXfb.out.1
       have y5:=cell_of_row _ fb 5 _ _ _ HXfb.out.1
       simp only[gq] at y3 y4 y5
       refine hKK.out _ _ (⟨y3,y4,y5⟩) (fun hHeld=> ?_)
       clear hKK KK
       try simp only[nmC]
       refine rd1 10 fun KK hKK=> ?_
       go_simp
       go_at_call 39
       refine(numbers_box HE.out HXr2.out [f.around,(n:Int)] rfl rfl HK3.out (by have:=HL2.out;simp only[List.length_append,List.length_cons,List.length_nil] at this⊢;omega)).mono ?_
       rintro e wz hq
       obtain⟨vz,rfl,hE,hbx⟩:=HE.out.post hq
       have HXpb:=Lib.hid (hbx _ _ HXpb.out)
       have HXfb:=Lib.hid (hbx _ _ HXfb.out)
       have HXr2:=Lib.hid (hbx _ _ HXr2.out)
       have HE:=Lib.hid hE
       clear hE hbx hq
       try dsimp only
       have y3:=cell_of_row _ fb 3 _ _ _ HXfb.out.1
       have y4:=cell_of_row _ fb 4 _ _ _ HXfb.out.1
       have y5:=cell_of_row _ fb 5 _ _ _ HXfb.out.1
       simp only[gq] at y3 y4 y5
       refine hKK.out _ _ (⟨y3,y4,y5⟩) (fun hHeld=> ?_)
       clear hKK KK
       try simp only[nmC]
       refine tk 11 (h:= ?_)
       try simp only[nmC]
       refine wpAnyG_done (by kernel_rfl) ?_ _
       try go_wp2_with fail
       go_meet
       exact⟨HE,HXpb,HXfb⟩
     case rest=>
      clear HE HXpb HXfb
      obtain⟨HE,HXpb,HXfb⟩:=hcut
      have y5:=cell_of_row wc fb 5 _ _ _ HXfb.out.1
      simp only[gq] at y5
      go_wp2_with fail
      go_loopw [5,75] (fun v1 i wr=>∃(k:Nat) (b1:List UInt8),i= .int .i64 k∧k≤n∧Hid (EncAt w wr v1 b1)∧Hid (Box wr v1 w.heap.size (.cells #[.slice (some ⟨g,off,none⟩) 1 fc,.slice ga 0 gc] 27 (0,0)))∧Hid (Box wr v1 fb (.cells #[.string f.name,.int .i64 f.params,.int .i64 f.slots,.slice fv.ta t fv.tc,.int .i64 f.around,.slice fv.ca n fv.cc] 33 (0,0)))∧Hid (b1++(f.code.drop k).flatMap instB=T)) (fun _ i _=>n-(intOf i).toNat)
      case atStart=>exact⟨0,_,rfl,Nat.zero_le _,HE,HXpb,HXfb,HQ⟩
      case round=>
       clear HE HXpb HXfb y5 HQ HL1 HL2 HK1 HK2 HK3 HTK
       obtain⟨k,b1,rfl,hk,HE,HXpb,HXfb,HQ⟩:=hrel
       by_cases hlt:k<n
       ·obtain⟨x,hx⟩:∃x,f.code[k]? =some x:=⟨_,List.getElem?_eq_getElem (by rw[HN.out];exact hlt)⟩
        have hq:=HQ.out
        rw[drop_cons hx,List.flatMap_cons,instB_eq] at hq
        have HQ2:=Lib.hid hq
        have hxo:=HOK.out.2.2.2.2.2.2.2 x (List.mem_of_getElem? hx)
        obtain⟨_,hcr,_,_⟩:=HA.out.own
        obtain⟨ca,co,hca,hcb,hcc⟩:=hcr.at (by rw[flat_len ins_len];have:=HN.out;show 0<f.code.length*5;omega)
        dsimp only at hca
        obtain⟨x0,x1,x2,x3,x4⟩:=ins_at hcc hx
        have hkb:∀o,wr.cell? ⟨ca,o,none⟩=w.cell? ⟨ca,o,none⟩:=fun o=>World.cell?_of_block (w:=w) (a:=⟨ca,o,none⟩) (HE.out.low.block ca hcb)
        rw[←hkb] at x0 x1 x2 x3 x4
        have hk4:∀z∈ [x.op,x.a,x.b],okI z:=by
         intro z hz
         rcases List.mem_cons.1 hz with rfl|hz
         ·exact hxo.1
         rcases List.mem_cons.1 hz with rfl|hz
         ·exact hxo.2.1
         rw[List.mem_singleton.1 hz]
         exact hxo.2.2.1
        have hk5:∀z∈ [x.at_],okI z:=by
         intro z hz
         rw[List.mem_singleton.1 hz]
         exact hxo.2.2.2.1
        have HK4:=Lib.hid hk4
        have HK5:=Lib.hid hk5
        have hlq:=congrArg List.length hq
        simp only[List.length_append] at hlq
        have hns:x.text.size≤(textB x.text.data.toList).length:=by
         have h1:x.text.data.toList.length=x.text.size:=by rw[Array.length_toList];rfl
         unfold textB
         simp only[List.length_append]
         omega
        have HL3:Hid (b1.length+([x.op,x.a,x.b].flatMap numB).length+(textB x.text.data.toList).length≤80000000∧x.text.size≤(textB x.text.data.toList).length):=Lib.hid ⟨by omega,hns⟩
        clear hx hq hxo hcr hcc hkb hk4 hk5 hlq hns
        go_upto_region 19 with fail
        have HXpb:=Lib.hid (HXpb.out.alloc (.cells #[.int .i64 x.op,.int .i64 x.a,.int .i64 x.b,.string x.text,.int .i64 x.at_] 36 (0,0)))
        have HXfb:=Lib.hid (HXfb.out.alloc (.cells #[.int .i64 x.op,.int .i64 x.a,.int .i64 x.b,.string x.text,.int .i64 x.at_] 36 (0,0)))
        have HXxb:=Lib.hid (HE.out.box (.cells #[.int .i64 x.op,.int .i64 x.a,.int .i64 x.b,.string x.text,.int .i64 x.at_] 36 (0,0)))
        have HE:=Lib.hid (HE.out.alloc (.cells #[.int .i64 x.op,.int .i64 x.a,.int .i64 x.b,.string x.text,.int .i64 x.at_] 36 (0,0)))
        obtain⟨xb,hxb⟩:∃xb,wr.heap.size=xb:=⟨_,rfl⟩
        obtain⟨W1,hW1⟩:∃W1,wr.alloc (.cells #[.int .i64 x.op,.int .i64 x.a,.int .i64 x.b,.string x.text,.int .i64 x.at_] 36 (0,0))=W1:=⟨_,rfl⟩
        simp only[hW1,hxb] at HE HXpb HXfb HXxb⊢
        clear hW1 hxb x0 x1 x2 x3 x4
        clear HV HO HK HGc HA HLV HCS HB0 HP0 HR HOK HT HN HTL kc hca hlen hfc hg
        have HE:=Lib.hid HE.out.drew
        have HXpb:=Lib.hid HXpb.out.drew
        have HXfb:=Lib.hid HXfb.out.drew
        have HXxb:=Lib.hid HXxb.out.drew
        obtain⟨y0,y1,y2,y3,y4⟩:W1.drew.cell? ⟨xb,0,none⟩=some (.int .i64 x.op)∧W1.drew.cell? ⟨xb,1,none⟩=some (.int .i64 x.a)∧W1.drew.cell? ⟨xb,2,none⟩=some (.int .i64 x.b)∧W1.drew.cell? ⟨xb,3,none⟩=some (.string x.text)∧W1.drew.cell? ⟨xb,4,none⟩=some (.int .i64 x.at_):=⟨cell_of_row _ xb 0 _ _ _ HXxb.out.1,cell_of_row _ xb 1 _ _ _ HXxb.out.1,cell_of_row _ xb 2 _ _ _ HXxb.out.1,cell_of_row _ xb 3 _ _ _ HXxb.out.1,cell_of_row _ xb 4 _ _ _ HXxb.out.1⟩
        refine wp_region_G [] (fun y=>y.cell? ⟨xb,0,none⟩=some (.int .i64 x.op)∧y.cell? ⟨xb,1,none⟩=some (.int .i64 x.a)∧y.cell? ⟨xb,2,none⟩=some (.int .i64 x.b)∧y.cell? ⟨xb,3,none⟩=some (.string x.text)∧y.cell? ⟨xb,4,none⟩=some (.int .i64 x.at_)) (by rfl) ?_ (fun hHeld=> ?_)
        ·exact⟨y0,y1,y2,y3,y4⟩
        generalize hwd:World.drew W1=wd at HE HXpb HXfb HXxb y0 y1 y2 y3 y4 hHeld⊢
        refine tk 0 (h:=tk 1 (h:=tk 2 (h:=tk 3 (h:=tk 4 (h:=tk 5 (h:= ?_))))))
        try simp only[nmC]
        refine tk 6 (h:=tk 9 (h:=tk 10 (h:=tk 12 (h:=tk 13 (h:= ?_)))))
        try simp only[nmC]
        refine rd2 7 14 (fun KK hKK=> ?_) fun KK hKK=> ?_
        ·go_simp
         obtain⟨wb,ab,eW,eA,hE,hX,hbx⟩:=HE.out.built (.cells #[.int .i64 x.op,.int .i64 x.a,.int .i64 x.b] 3 (0,0))
         simp only[eW,eA]
         clear eW eA
         have HXr3:=Lib.hid hX
         have HXpb:=Lib.hid (hbx _ _ HXpb.out)
         have HXfb:=Lib.hid (hbx _ _ HXfb.out)
         have HXxb:=Lib.hid (hbx _ _ HXxb.out)
         have HE:=Lib.hid hE
         clear hE hX hbx
         obtain⟨y0,y1,y2,y3,y4⟩:=cr5 _ xb HXxb.out.1
         simp only[gq] at y0 y1 y2 y3 y4
         refine hKK.out _ _ (⟨y0,y1,y2,y3,y4⟩) (fun hHeld=> ?_)
         clear hKK KK
         try simp only[nmC]
         refine rd2 8 14 (fun KK hKK=> ?_) fun KK hKK=> ?_
         ·go_simp
          go_at_call 39
          refine(numbers_box HE.out HXr3.out [x.op,x.a,x.b] rfl rfl HK4.out (by have:=HL3.out;simp only[List.length_cons,List.length_nil] at⊢;omega)).mono ?_
          rintro e wz hq
          obtain⟨vz,rfl,hE,hbx⟩:=HE.out.post hq
          have HXpb:=Lib.hid (hbx _ _ HXpb.out)
          have HXfb:=Lib.hid (hbx _ _ HXfb.out)
          have HXxb:=Lib.hid (hbx _ _ HXxb.out)
          have HXr3:=Lib.hid (hbx _ _ HXr3.out)
          have HE:=Lib.hid hE
          clear hE hbx hq
          try dsimp only
          obtain⟨y0,y1,y2,y3,y4⟩:=cr5 _ xb HXxb.out.1
          simp only[gq] at y0 y1 y2 y3 y4
          refine hKK.out _ _ (⟨y0,y1,y2,y3,y4⟩) (fun hHeld=> ?_)
          clear hKK KK
          try simp only[nmC]
          refine rd2 11 14 (fun KK hKK=> ?_) fun KK hKK=> ?_
          ·go_simp
           go_at_call 40
           refine(text_any HE.out.own HE.out.low.size _ (by have:=HL3.out;simp only[List.length_append] at this⊢;omega)).mono ?_
           rintro e wz hq
           obtain⟨vz,rfl,hE,hbx⟩:=HE.out.post hq
           have HXpb:=Lib.hid (hbx _ _ HXpb.out)
           have HXfb:=Lib.hid (hbx _ _ HXfb.out)
           have HXxb:=Lib.hid (hbx _ _ HXxb.out)
           have HXr3:=Lib.hid (hbx _ _ HXr3.out)
           have HE:=Lib.hid hE
           clear hE hbx hq
           try dsimp only
           obtain⟨y0,y1,y2,y3,y4⟩:=cr5 _ xb HXxb.out.1
           simp only[gq] at y0 y1 y2 y3 y4
           refine hKK.out _ _ (⟨y0,y1,y2,y3,y4⟩) (fun hHeld=> ?_)
           clear hKK KK
           try simp only[nmC]
           refine rd1 14 fun KK hKK=> ?_
           go_simp
           obtain⟨wb,ab,eW,eA,hE,hX,hbx⟩:=HE.out.built (.cells #[.int .i64 x.at_] 3 (0,0))
           simp only[eW,eA]
           clear eW eA
           have HXr4:=Lib.hid hX
           have HXpb:=Lib.hid (hbx _ _ HXpb.out)
           have HXfb:=Lib.hid (hbx _ _ HXfb.out)
           have HXxb:=Lib.hid (hbx _ _ HXxb.out)
           have HXr3:=Lib.hid (hbx _ _ HXr3.out)
           have HE:=Lib.hid hE
           clear hE hX hbx
           obtain⟨y0,y1,y2,y3,y4⟩:=cr5 _ xb HXxb.out.1
           simp only[gq] at y0 y1 y2 y3 y4
           refine hKK.out _ _ (⟨y0,y1,y2,y3,y4⟩) (fun hHeld=> ?_)
           clear hKK KK
           try simp only[nmC]
           refine rd1 15 fun KK hKK=> ?_
           go_simp
           go_at_call 39
           refine(numbers_box HE.out HXr4.out [x.at_] rfl rfl HK5.out (by have:=HL3.out;simp only[List.length_append,List.length_cons,List.length_nil] at this⊢;omega)).mono ?_
           rintro e wz hq
           obtain⟨vz,rfl,hE,hbx⟩:=HE.out.post hq
           have HXpb:=Lib.hid (hbx _ _ HXpb.out)
           have HXfb:=Lib.hid (hbx _ _ HXfb.out)
           have HXxb:=Lib.hid (hbx _ _ HXxb.out)
           have HXr3:=Lib.hid (hbx _ _ HXr3.out)
           have HXr4:=Lib.hid (hbx _ _ HXr4.out)
           have HE:=Lib.hid hE
           clear hE hbx hq
           try dsimp only
           obtain⟨y0,y1,y2,y3,y4⟩:=cr5 _ xb HXxb.out.1
           simp only[gq] at y0 y1 y2 y3 y4
           refine hKK.out _ _ (⟨y0,y1,y2,y3,y4⟩) (fun hHeld=> ?_)
           clear hKK KK
           try simp only[nmC]
           refine tk 16 (h:= ?_)
           try simp only[nmC]
           refine wpAnyG_done (by kernel_rfl) ?_ _
           go_wp2_with fail
           go_roundw
           case rel=>exact⟨k+1,_,by simp,by omega,HE,HXpb,HXfb,HQ2⟩
           case measure=>simp[intOf];omega
          ·go_simp
           obtain⟨wb,ab,eW,eA,hE,hX,hbx⟩:=HE.out.built (.cells #[.int .i64 x.at_] 3 (0,0))
           simp only[eW,eA]
           clear eW eA
           have HXr4:=Lib.hid hX
           have HXpb:=Lib.hid (hbx _ _ HXpb.out)
           have HXfb:=Lib.hid (hbx _ _ HXfb.out)
           have HXxb:=Lib.hid (hbx _ _ HXxb.out)
           have HXr3:=Lib.hid (hbx _ _ HXr3.out)
           have HE:=Lib.hid hE
           clear hE hX hbx
           obtain⟨y0,y1,y2,y3,y4⟩:=cr5 _ xb HXxb.out.1
           simp only[gq] at y0 y1 y2 y3 y4
           refine hKK.out _ _ (⟨y0,y1,y2,y3,y4⟩) (fun hHeld=> ?_)
           clear hKK KK
           try simp only[nmC]
           refine rd1 11 fun KK hKK=> ?_
           go_simp
           go_at_call 40
           refine(text_any HE.out.own HE.out.low.size _ (by have:=HL3.out;simp only[List.length_append] at this⊢;omega)).mono ?_
           rintro e wz hq
           obtain⟨vz,rfl,hE,hbx⟩:=HE.out.post hq
           have HXpb:=Lib.hid (hbx _ _ HXpb.out)
           have HXfb:=Lib.hid (hbx _ _ HXfb.out)
           have HXxb:=Lib.hid (hbx _ _ HXxb.out)
           have HXr3:=Lib.hid (hbx _ _ HXr3.out)
           have HXr4:=Lib.hid (hbx _ _ HXr4.out)
           have HE:=Lib.hid hE
           clear hE hbx hq
           try dsimp only
           obtain⟨y0,y1,y2,y3,y4⟩:=cr5 _ xb HXxb.out.1
           simp only[gq] at y0 y1 y2 y3 y4
           refine hKK.out _ _ (⟨y0,y1,y2,y3,y4⟩) (fun hHeld=> ?_)
           clear hKK KK
           try simp only[nmC]
           refine rd1 15 fun KK hKK=> ?_
           go_simp
           go_at_call 39
           refine(numbers_box HE.out HXr4.out [x.at_] rfl rfl HK5.out (by have:=HL3.out;simp only[List.length_append,List.length_cons,List.length_nil] at this⊢;omega)).mono ?_
           rintro e wz hq
           obtain⟨vz,rfl,hE,hbx⟩:=HE.out.post hq
           have HXpb:=Lib.hid (hbx _ _ HXpb.out)
           have HXfb:=Lib.hid (hbx _ _ HXfb.out)
           have HXxb:=Lib.hid (hbx _ _ HXxb.out)
           have HXr3:=Lib.hid (hbx _ _ HXr3.out)
           have HXr4:=Lib.hid (hbx _ _ HXr4.out)
           have HE:=Lib.hid hE
           clear hE hbx hq
           try dsimp only
           obtain⟨y0,y1,y2,y3,y4⟩:=cr5 _ xb HXxb.out.1
           simp only[gq] at y0 y1 y2 y3 y4
           refine hKK.out _ _ (⟨y0,y1,y2,y3,y4⟩) (fun hHeld=> ?_)
           clear hKK KK
           try simp only[nmC]
           refine tk 16 (h:= ?_)
           try simp only[nmC]
           refine wpAnyG_done (by kernel_rfl) ?_ _
           go_wp2_with fail
           go_roundw
           case rel=>exact⟨k+1,_,by simp,by omega,HE,HXpb,HXfb,HQ2⟩
           case measure=>simp[intOf];omega
         ·go_simp
          obtain⟨wb,ab,eW,eA,hE,hX,hbx⟩:=HE.out.built (.cells #[.int .i64 x.at_] 3 (0,0))
          simp only[eW,eA]
          clear eW eA
          have HXr4:=Lib.hid hX
          have HXpb:=Lib.hid (hbx _ _ HXpb.out)
          have HXfb:=Lib.hid (hbx _ _ HXfb.out)
          have HXxb:=Lib.hid (hbx _ _ HXxb.out)
          have HXr3:=Lib.hid (hbx _ _ HXr3.out)
          have HE:=Lib.hid hE
          clear hE hX hbx
          obtain⟨y0,y1,y2,y3,y4⟩:=cr5 _ xb HXxb.out.1
          simp only[gq] at y0 y1 y2 y3 y4
          refine hKK.out _ _ (⟨y0,y1,y2,y3,y4⟩) (fun hHeld=> ?_)
          clear hKK KK
          try simp only[nmC]
          refine rd1 8 fun KK hKK=> ?_
          go_simp
          go_at_call 39
          refine(numbers_box HE.out HXr3.out [x.op,x.a,x.b] rfl rfl HK4.out (by have:=HL3.out;simp only[List.length_cons,List.length_nil] at⊢;omega)).mono ?_
          rintro e wz hq
          obtain⟨vz,rfl,hE,hbx⟩:=HE.out.post hq
          have HXpb:=Lib.hid (hbx _ _ HXpb.out)
          have HXfb:=Lib.hid (hbx _ _ HXfb.out)
          have HXxb:=Lib.hid (hbx _ _ HXxb.out)
          have HXr3:=Lib.hid (hbx _ _ HXr3.out)
          have HXr4:=Lib.hid (hbx _ _ HXr4.out)
          have HE:=Lib.hid hE
          clear hE hbx hq
          try dsimp only
          obtain⟨y0,y1,y2,y3,y4⟩:=cr5 _ xb HXxb.out.1
          simp only[gq] at y0 y1 y2 y3 y4
          refine hKK.out _ _ (⟨y0,y1,y2,y3,y4⟩) (fun hHeld=> ?_)
          clear hKK KK
          try simp only[nmC]
          refine rd1 11 fun KK hKK=> ?_
          go_simp
          go_at_call 40
          refine(text_any HE.out.own HE.out.low.size _ (by have:=HL3.out;simp only[List.length_append] at this⊢;omega)).mono ?_
          rintro e wz hq
          obtain⟨vz,rfl,hE,hbx⟩:=HE.out.post hq
          have HXpb:=Lib.hid (hbx _ _ HXpb.out)
          have HXfb:=Lib.hid (hbx _ _ HXfb.out)
          have HXxb:=Lib.hid (hbx _ _ HXxb.out)
          have HXr3:=Lib.hid (hbx _ _ HXr3.out)
          have HXr4:=Lib.hid (hbx _ _ HXr4.out)
          have HE:=Lib.hid hE
          clear hE hbx hq
          try dsimp only
          obtain⟨y0,y1,y2,y3,y4⟩:=cr5 _ xb HXxb.out.1
          simp only[gq] at y0 y1 y2 y3 y4
          refine hKK.out _ _ (⟨y0,y1,y2,y3,y4⟩) (fun hHeld=> ?_)
          clear hKK KK
          try simp only[nmC]
          refine rd1 15 fun KK hKK=> ?_
          go_simp
          go_at_call 39
          refine(numbers_box HE.out HXr4.out [x.at_] rfl rfl HK5.out (by have:=HL3.out;simp only[List.length_append,List.length_cons,List.length_nil] at this⊢;omega)).mono ?_
          rintro e wz hq
          obtain⟨vz,rfl,hE,hbx⟩:=HE.out.post hq
          have HXpb:=Lib.hid (hbx _ _ HXpb.out)
          have HXfb:=Lib.hid (hbx _ _ HXfb.out)
          have HXxb:=Lib.hid (hbx _ _ HXxb.out)
          have HXr3:=Lib.hid (hbx _ _ HXr3.out)
          have HXr4:=Lib.hid (hbx _ _ HXr4.out)
          have HE:=Lib.hid hE
          clear hE hbx hq
          try dsimp only
          obtain⟨y0,y1,y2,y3,y4⟩:=cr5 _ xb HXxb.out.1
          simp only[gq] at y0 y1 y2 y3 y4
          refine hKK.out _ _ (⟨y0,y1,y2,y3,y4⟩) (fun hHeld=> ?_)
          clear hKK KK
          try simp only[nmC]
          refine tk 16 (h:= ?_)
          try simp only[nmC]
          refine wpAnyG_done (by kernel_rfl) ?_ _
          go_wp2_with fail
          go_roundw
          case rel=>exact⟨k+1,_,by simp,by omega,HE,HXpb,HXfb,HQ2⟩
          case measure=>simp[intOf];omega
        ·go_simp
         obtain⟨wb,ab,eW,eA,hE,hX,hbx⟩:=HE.out.built (.cells #[.int .i64 x.at_] 3 (0,0))
         simp only[eW,eA]
         clear eW eA
         have HXr4:=Lib.hid hX
         have HXpb:=Lib.hid (hbx _ _ HXpb.out)
         have HXfb:=Lib.hid (hbx _ _ HXfb.out)
         have HXxb:=Lib.hid (hbx _ _ HXxb.out)
         have HE:=Lib.hid hE
         clear hE hX hbx
         obtain⟨y0,y1,y2,y3,y4⟩:=cr5 _ xb HXxb.out.1
         simp only[gq] at y0 y1 y2 y3 y4
         refine hKK.out _ _ (⟨y0,y1,y2,y3,y4⟩) (fun hHeld=> ?_)
         clear hKK KK
         try simp only[nmC]
         refine rd1 7 fun KK hKK=> ?_
         go_simp
         obtain⟨wb,ab,eW,eA,hE,hX,hbx⟩:=HE.out.built (.cells #[.int .i64 x.op,.int .i64 x.a,.int .i64 x.b] 3 (0,0))
         simp only[eW,eA]
         clear eW eA
         have HXr3:=Lib.hid hX
         have HXpb:=Lib.hid (hbx _ _ HXpb.out)
         have HXfb:=Lib.hid (hbx _ _ HXfb.out)
         have HXxb:=Lib.hid (hbx _ _ HXxb.out)
         have HXr4:=Lib.hid (hbx _ _ HXr4.out)
         have HE:=Lib.hid hE
         clear hE hX hbx
         obtain⟨y0,y1,y2,y3,y4⟩:=cr5 _ xb HXxb.out.1
         simp only[gq] at y0 y1 y2 y3 y4
         refine hKK.out _ _ (⟨y0,y1,y2,y3,y4⟩) (fun hHeld=> ?_)
         clear hKK KK
         try simp only[nmC]
         refine rd1 8 fun KK hKK=> ?_
         go_simp
         go_at_call 39
         refine(numbers_box HE.out HXr3.out [x.op,x.a,x.b] rfl rfl HK4.out (by have:=HL3.out;simp only[List.length_cons,List.length_nil] at⊢;omega)).mono ?_
         rintro e wz hq
         obtain⟨vz,rfl,hE,hbx⟩:=HE.out.post hq
         have HXpb:=Lib.hid (hbx _ _ HXpb.out)
         have HXfb:=Lib.hid (hbx _ _ HXfb.out)
         have HXxb:=Lib.hid (hbx _ _ HXxb.out)
         have HXr3:=Lib.hid (hbx _ _ HXr3.out)
         have HXr4:=Lib.hid (hbx _ _ HXr4.out)
         have HE:=Lib.hid hE
         clear hE hbx hq
         try dsimp only
         obtain⟨y0,y1,y2,y3,y4⟩:=cr5 _ xb HXxb.out.1
         simp only[gq] at y0 y1 y2 y3 y4
         refine hKK.out _ _ (⟨y0,y1,y2,y3,y4⟩) (fun hHeld=> ?_)
         clear hKK KK
         try simp only[nmC]
         refine rd1 11 fun KK hKK=> ?_
         go_simp
         go_at_call 40
         refine(text_any HE.out.own HE.out.low.size _ (by have:=HL3.out;simp only[List.length_append] at this⊢;omega)).mono ?_
         rintro e wz hq
         obtain⟨vz,rfl,hE,hbx⟩:=HE.out.post hq
         have HXpb:=Lib.hid (hbx _ _ HXpb.out)
         have HXfb:=Lib.hid (hbx _ _ HXfb.out)
         have HXxb:=Lib.hid (hbx _ _ HXxb.out)
         have HXr3:=Lib.hid (hbx _ _ HXr3.out)
         have HXr4:=Lib.hid (hbx _ _ HXr4.out)
         have HE:=Lib.hid hE
         clear hE hbx hq
         try dsimp only
         obtain⟨y0,y1,y2,y3,y4⟩:=cr5 _ xb HXxb.out.1
         simp only[gq] at y0 y1 y2 y3 y4
         refine hKK.out _ _ (⟨y0,y1,y2,y3,y4⟩) (fun hHeld=> ?_)
         clear hKK KK
         try simp only[nmC]
         refine rd1 15 fun KK hKK=> ?_
         go_simp
         go_at_call 39
         refine(numbers_box HE.out HXr4.out [x.at_] rfl rfl HK5.out (by have:=HL3.out;simp only[List.length_append,List.length_cons,List.length_nil] at this⊢;omega)).mono ?_
         rintro e wz hq
         obtain⟨vz,rfl,hE,hbx⟩:=HE.out.post hq
         have HXpb:=Lib.hid (hbx _ _ HXpb.out)
         have HXfb:=Lib.hid (hbx _ _ HXfb.out)
         have HXxb:=Lib.hid (hbx _ _ HXxb.out)
         have HXr3:=Lib.hid (hbx _ _ HXr3.out)
         have HXr4:=Lib.hid (hbx _ _ HXr4.out)
         have HE:=Lib.hid hE
         clear hE hbx hq
         try dsimp only
         obtain⟨y0,y1,y2,y3,y4⟩:=cr5 _ xb HXxb.out.1
         simp only[gq] at y0 y1 y2 y3 y4
         refine hKK.out _ _ (⟨y0,y1,y2,y3,y4⟩) (fun hHeld=> ?_)
         clear hKK KK
         try simp only[nmC]
         refine tk 16 (h:= ?_)
         try simp only[nmC]
         refine wpAnyG_done (by kernel_rfl) ?_ _
         go_wp2_with fail
         go_roundw
         case rel=>exact⟨k+1,_,by simp,by omega,HE,HXpb,HXfb,HQ2⟩
         case measure=>simp[intOf];omega
       ·obtain rfl:k=n:=by omega
        have he:=HQ.out
        rw[List.drop_of_length_le (by rw[HN.out];exact Nat.le_refl _)] at he
        simp only[List.flatMap_nil,List.append_nil] at he
        subst he
        go_wp2_with fail
        go_roundw
        case rel=>exact .inr ⟨rfl,HE⟩
        case measure=>simp[intOf]
   ·obtain⟨gz,cz,rfl,_⟩:=HE5.out.own.form (by have:=congrArg List.length HT.out;simp at this;omega)
    have hcv:(convert 75 9 (.slice (some ⟨gz,0,none⟩) T.length cz)).run Tryz.prog wr= .ok (.string ⟨T.toArray⟩) wr:=by
     refine run_convert_bytes_back wr _ _ 5 ⟨gz,0,none⟩ cz T Tryz.underlying75 Tryz.underlying5 Tryz.underlying9 fun j hj=> ?_
     refine HE5.out.own.cells (g:=gz) rfl j _ ?_
     simp[Lib.byteCells,hj]
    go_wp2_with fail
    go_ret2
    exact⟨rfl,HE5.out.low⟩
end Go.Proofs.YtagnicbknbmccaaGreatDoor
