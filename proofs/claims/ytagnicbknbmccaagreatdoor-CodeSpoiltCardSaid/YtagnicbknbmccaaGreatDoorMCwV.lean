/- code.says where nothing may stand, code.fine. code.fine of an instruction as the plain ones are. code.numbers, code.text: what is laid behind a list of bytes. code.text; the bytes that Encode lays down, with the boxes beside them. code.many, code.globals, code.headed of a program of one function. A map of texts and how often each came (map[string]int, as globals, headed and names use it); code.globals. code.Right of a program of one function, all of whose instructions are plain. -/
import Derived.Lib.AppendStr
import Derived.Lib.Varint
import Derived.Deep.AppendLies
import Derived.Laws.IdiomStrings
import Derived.Laws.OwnMore
import Derived.Maps.OwnOps
import Derived.Maps.Views
import Derived.Test.YtagnicbknbmccaaGreatDoorSqC
import Derived.Test.YtagnicbknbmccaaGreatDoorMCwU
import Derived.Test.YtagnicbknbmccaaGreatDoorMCwG
import Derived.Test.YtagnicbknbmccaaGreatDoorMCwB
import Derived.Test.YtagnicbknbmccaaGreatDoorMCwH
import Derived.Test.YtagnicbknbmccaaGreatDoorMScanA
import Derived.Test.YtagnicbknbmccaaGreatDoorMCwO
import Derived.Test.YtagnicbknbmccaaGreatDoorMCwF
import Derived.Test.YtagnicbknbmccaaGreatDoorMCtL
set_option maxRecDepth 100000
set_option maxHeartbeats 4000000
namespace Go.Proofs.YtagnicbknbmccaaGreatDoor
open Go.RowKit
def SaysOk (x:Ci):Prop:=∀w,Gc w→Calls Tryz.prog 82 #[insV x] w fun e w'=>e= .returned (.bool (saysB x))∧Below w.heap.size w w'
attribute [local go_sem] fieldFm2
theorem LiesC.more {w:World} {B B':Nat} {p:Cp} {v:Value} (h:LiesC w B p v) (hB:B≤B'):LiesC w B' p v:=by
 obtain⟨fa,fc,ga,gc,xs,h1,h2,h3,h4,h5,h6,h7⟩:=h
 exact⟨fa,fc,ga,gc,xs,h1,h2,h3.more hB,h4.more hB,h5,h6,fun x hx=>⟨(h7 x hx).1.more hB,(h7 x hx).2.1.more hB,(h7 x hx).2.2⟩⟩
structure FnAt (w:World) (v:Value) (cs:Array Value) (F:Cform) (pb xb fb:Nat) (W:World):Prop where
 low:Below w.heap.size w W
 pr:∃ps,v= .agg ps∧W.heap[pb]? =some (.cells ps 27 (0,0))
 xr:W.heap[xb]? =some (.cells cs 36 (0,0))
 fr:W.heap[fb]? =some (.cells #[.string ⟨⟨F.word⟩⟩,.int .i64 F.a,.int .i64 F.text,.string ⟨⟨F.takes⟩⟩,.string ⟨⟨F.lays⟩⟩] 86 (0,0))
theorem FnAt.under {w W W':World} {v:Value} {cs:Array Value} {F:Cform} {pb xb fb:Nat} (h:FnAt w v cs F pb xb fb W) (hb:Below W.heap.size W W'):FnAt w v cs F pb xb fb W':=by
 obtain⟨ps,h1,h2⟩:=h.pr
 exact⟨h.low.trans (hb.mono h.low.size),⟨ps,h1,(hb.block _ (Array.getElem?_eq_some_iff.1 h2).1).trans h2⟩,(hb.block _ (Array.getElem?_eq_some_iff.1 h.xr).1).trans h.xr,(hb.block _ (Array.getElem?_eq_some_iff.1 h.fr).1).trans h.fr⟩
theorem FnAt.xc {w W:World} {v:Value} {a b c d e:Value} {F:Cform} {pb xb fb:Nat} (h:FnAt w v #[a,b,c,d,e] F pb xb fb W):W.cell? ⟨xb,0,none⟩=some a∧W.cell? ⟨xb,1,none⟩=some b∧W.cell? ⟨xb,2,none⟩=some c∧W.cell? ⟨xb,3,none⟩=some d∧W.cell? ⟨xb,4,none⟩=some e:=
 ⟨cell_of_row W xb 0 _ _ _ h.xr,cell_of_row W xb 1 _ _ _ h.xr,cell_of_row W xb 2 _ _ _ h.xr,cell_of_row W xb 3 _ _ _ h.xr,cell_of_row W xb 4 _ _ _ h.xr⟩
theorem FnAt.pc {w W:World} {a b:Value} {cs:Array Value} {F:Cform} {pb xb fb:Nat} (h:FnAt w (.agg #[a,b]) cs F pb xb fb W):W.cell? ⟨pb,0,none⟩=some a∧W.cell? ⟨pb,1,none⟩=some b:=by
 obtain⟨ps,h1,h2⟩:=h.pr
 injection h1 with h1
 subst h1
 exact⟨cell_of_row W pb 0 _ _ _ h2,cell_of_row W pb 1 _ _ _ h2⟩
theorem FnAt.fc {w W:World} {v:Value} {cs:Array Value} {F:Cform} {pb xb fb:Nat} (h:FnAt w v cs F pb xb fb W):W.cell? ⟨fb,0,none⟩=some (.string ⟨⟨F.word⟩⟩):=cell_of_row W fb 0 _ _ _ h.fr
def BytesPost (w:World) (lo:Nat) (v:Value) (bs:List UInt8) (e:Ending) (w':World):Prop:=
 ∃v',e= .returned v'∧w'.ownsRow lo 5 1 v' bs.length (Lib.byteCells bs)∧Foot w.heap.size (fun k=>v.ownBlock=some k) w w'∧∀b,v'.ownBlock=some b→v.ownBlock=some b∨w.heap.size≤b
theorem bytes_step {w w1 w2:World} {v v1:Value} (h1:Foot w.heap.size (fun k=>v.ownBlock=some k) w w1) (g1:∀b,v1.ownBlock=some b→v.ownBlock=some b∨w.heap.size≤b)
  (h2:Foot w1.heap.size (fun k=>v1.ownBlock=some k) w1 w2):Foot w.heap.size (fun k=>v.ownBlock=some k) w w2:=
 h1.trans (h2.mono h1.size fun k hk e=>by
  rcases g1 k e with e|e
  ·exact e
  ·omega)
theorem bytes_far {w w1:World} {v v1 v2:Value} (h1:w.heap.size≤w1.heap.size) (g1:∀b,v1.ownBlock=some b→v.ownBlock=some b∨w.heap.size≤b) (g2:∀b,v2.ownBlock=some b→v1.ownBlock=some b∨w1.heap.size≤b):
  ∀b,v2.ownBlock=some b→v.ownBlock=some b∨w.heap.size≤b:=fun b hb=>by
 rcases g2 b hb with e|e
 ·exact g1 b e
 ·exact .inr (Nat.le_trans h1 e)
theorem bytes_app {w w2:World} {o:Obj} {v:Value} {g2 cap2 n:Nat} (hg:(w.alloc o).grownBy w2 v.ownBlock) (hb:v.ownBlock=some g2∨g2=(w.alloc o).heap.size):
  Foot w.heap.size (fun k=>v.ownBlock=some k) w w2∧∀b,(Value.slice (some ⟨g2,0,none⟩) n cap2).ownBlock=some b→v.ownBlock=some b∨w.heap.size≤b:=by
 have hs:(w.alloc o).heap.size=w.heap.size+1:=World.size_alloc _ _
 refine⟨⟨hg.os,hg.tape,hg.output,by have:=hg.size;omega,fun k hk hn=> ?_⟩,fun b hb2=> ?_⟩
 ·rw[hg.block k (by omega) (fun e=>hn e.symm)]
  exact heap_alloc_old w o hk
 ·have e:g2=b:=by simpa[Value.ownBlock] using hb2
  rcases hb with h|h
  ·left;rw[h,e]
  ·right;omega
theorem byte_or (u:Nat):bits .or .u8 ((u:Int) % 256) 128=((UInt8.ofNat (u % 128+128)).toNat:Int):=by
 have hw:(u:Int) % 256=((u % 256:Nat):Int):=by omega
 rw[hw,Lib.u8_or128_any _ (by omega) (by omega)]
 have:(UInt8.ofNat (u % 128+128)).toNat=u % 128+128:=by
  rw[UInt8.toNat_ofNat']
  omega
 rw[this]
 omega
theorem numU_len:∀(f u:Nat),(numU f u).length≤f+1
 |0,u=>by simp[numU]
 |f+1,u=>by
  rw[numU]
  split
  ·have:=numU_len f (u/128);simp only[List.length_cons];omega
  ·simp
theorem foldN_lt {n:Int} (h:okI n):foldN n<18446744073709551616:=by
 obtain⟨h0,h1⟩:=h
 unfold foldN
 split<;>omega
theorem numbers_any {w:World} {lo:Nat} {v:Value} {bs:List UInt8} (h:w.ownsRow lo 5 1 v bs.length (Lib.byteCells bs)) (hlo:lo≤w.heap.size) {A:Option Addr} {l:List Int} {cap:Nat} (_hl:∀g,v.ownBlock=some g→g<w.heap.size)
  (hr:RowIs w w.heap.size A (l.map (Value.int .i64))) (hov:∀a,A=some a→v.ownBlock≠some a.block) (hok:∀n∈l,okI n) (hlen:bs.length+11*l.length≤100000000):
  Calls Tryz.prog 39 #[v,.slice A l.length cap] w (BytesPost w lo v (bs++l.flatMap numB)):=by
 obtain⟨i0,hi,hz0,hz1,hz2⟩:=info_parts byteInfo
 obtain⟨T,HT⟩:∃T,Hid (bs++l.flatMap numB=T):=⟨_,rfl⟩
 rw[HT.out]
 have H:=Lib.hid h
 have HR:=Lib.hid hr
 have HOK:=Lib.hid hok
 obtain⟨m,hm⟩:∃m,l.length=m:=⟨_,rfl⟩
 have HM:=Lib.hid hm
 rw[hm] at hlen⊢
 clear h hr hok hm
 go_enter Tryz.func39,Tryz.ntmps39
 go_wp2_with fail
 go_loopw [0,10] (fun v1 i wr=>∃(j:Nat) (b1:List UInt8),i= .int .i64 j∧j≤m∧b1.length≤bs.length+11*j∧Hid (wr.ownsRow lo 5 1 v1 b1.length (Lib.byteCells b1))∧Hid (Foot w.heap.size (fun k=>v.ownBlock=some k) w wr)∧Hid (∀b,v1.ownBlock=some b→v.ownBlock=some b∨w.heap.size≤b)∧Hid (b1++(l.drop j).flatMap numB=T)) (fun _ i _=>m-(intOf i).toNat)
 case atStart=>exact⟨0,bs,rfl,Nat.zero_le _,by omega,H,Lib.hid (Foot.refl _ _ _),Lib.hid fun _ h=> .inl h,HT⟩
 case round=>
  obtain⟨j,b1,rfl,hj,hb1,HO,HF,HG,HE⟩:=hrel
  by_cases hlt:j<m
  ·obtain⟨x,hx⟩:∃x,l[j]? =some x:=⟨_,List.getElem?_eq_getElem (by rw[HM.out];exact hlt)⟩
   have hxk:=HOK.out x (List.mem_of_getElem? hx)
   obtain⟨g,o,rfl,hg,hc⟩:=HR.out.at (by rw[List.length_map,HM.out];omega)
   have cx:=hc j (.int .i64 x) (by simp[hx])
   have hng:=hov _ rfl
   rw[←HF.out.cell (p:=⟨g,o+j,none⟩) hg hng] at cx
   have he:=HE.out
   rw[drop_cons hx,List.flatMap_cons] at he
   have HE2:=Lib.hid he
   clear he hx
   go_wp2_with (go_at_call 87;refine(folded_any x hxk _).mono ?_;rintro e w1 ⟨rfl,rfl⟩)
   go_loopw [0,7] (fun v2 uv wy=>∃(fu u:Nat) (b2:List UInt8),uv= .int .u64 u∧Hid (u<2^(7*(fu+1)))∧fu≤10∧b2.length+fu+1≤bs.length+11*(j+1)∧Hid (wy.ownsRow lo 5 1 v2 b2.length (Lib.byteCells b2))∧Hid (Foot w.heap.size (fun k=>v.ownBlock=some k) w wy)∧Hid (∀b,v2.ownBlock=some b→v.ownBlock=some b∨w.heap.size≤b)∧Hid (b2++(numU fu u++(l.drop (j+1)).flatMap numB)=T)) (fun _ uv _=>(intOf uv).toNat)
   case atStart=>exact⟨10,foldN x,b1,rfl,Lib.hid (Nat.lt_of_lt_of_le (foldN_lt hxk) (by decide)),by omega,by omega,HO,HF,HG,HE2⟩
   case round=>
    obtain⟨fu,u,b2,rfl,HU,hfu,hb2l,HO2,HF2,HG2,HE3⟩:=hrel
    obtain⟨A2,cap2,rfl,hc1,hc2⟩:=row_form HO2.out
    have hng2:=HG2
    by_cases h127:127<u
    ·obtain⟨fu',rfl⟩:∃f',fu=f'+1:=by
      cases fu with
      |zero=>have:=HU.out;simp at this;omega
      |succ f'=>exact⟨f',rfl⟩
     have d:decide (127<u)=true:=decide_eq_true h127
     have hor:=byte_or u
     obtain⟨c,hcv⟩:∃c,UInt8.ofNat (u % 128+128)=c:=⟨_,rfl⟩
     rw[hcv] at hor
     have he:=HE3.out
     rw[numU,if_pos h127,hcv] at he
     have HE4:Hid ((b2++ [c])++(numU fu' (u/128)++(l.drop (j+1)).flatMap numB)=T):=Lib.hid (by rw[←he];simp)
     have HU2:Hid (u/128<2^(7*(fu'+1))):=Lib.hid (by
      have:=HU.out
      rw[show 7*(fu'+1+1)=7*(fu'+1)+7 by omega,Nat.pow_add] at this
      exact Nat.div_lt_of_lt_mul (by rw[Nat.mul_comm];exact this))
     clear he hcv
     go_wp2_with (at_builtin;refine wpList_append_lies _ rfl _ _ 75 rfl lo 5 i0 _ 1 1 Tryz.underlying75 hi hz0 hz1 hz2 rfl (by decide) _ _ _ rfl (HO2.out.alloc _) ⟨wr.heap.size,0,none⟩ 1 1 [.int .u8 c.toNat] rfl rfl (cell_one_new wr _ _) (by intro u hu;simp at hu;subst hu;rfl) (by decide) (by unfold maxLen;omega) (by omega) (by have:=HF2.out.size;simp;omega) _ rfl ?_;intro g2 cap2 w2 ho2 hg2 hb2 hl2)
     obtain⟨hf2,hw2⟩:=bytes_app hg2 hb2
     refine⟨⟨fu',u/128,b2++ [c],by simp,HU2,by omega,by simp only[List.length_append,List.length_cons,List.length_nil];omega,Lib.hid ?_,Lib.hid (bytes_step HF2.out hng2.out hf2),Lib.hid (bytes_far HF2.out.size hng2.out hw2),HE4⟩, ?_⟩
     ·simpa[Lib.byteCells] using ho2
     ·simp only[intOf];omega
    ·obtain⟨c,rfl⟩:∃c:UInt8,u=c.toNat:=⟨UInt8.ofNat u,by rw[UInt8.toNat_ofNat'];omega⟩
     have d:decide (127<c.toNat)=false:=decide_eq_false h127
     have he:(b2++ [c])++(l.drop (j+1)).flatMap numB=T:=by
      have:=HE3.out
      rw[show numU fu c.toNat=[c] by cases fu<;>simp[numU,h127]] at this
      rw[←this];simp
     have HE4:=Lib.hid he
     clear he HE HE2 HE3
     go_wp2_with (at_builtin;refine wpList_append_lies _ rfl _ _ 75 rfl lo 5 i0 _ 1 1 Tryz.underlying75 hi hz0 hz1 hz2 rfl (by decide) _ _ _ rfl (HO2.out.alloc _) ⟨wr.heap.size,0,none⟩ 1 1 [.int .u8 c.toNat] rfl rfl (cell_one_new wr _ _) (by intro u hu;simp at hu;subst hu;rfl) (by decide) (by unfold maxLen;omega) (by omega) (by have:=HF2.out.size;simp;omega) _ rfl ?_;intro g2 cap2 w2 ho2 hg2 hb2 hl2)
     obtain⟨hf2,hw2⟩:=bytes_app hg2 hb2
     refine⟨⟨j+1,b2++ [c],by simp,by omega,by simp only[List.length_append,List.length_cons,List.length_nil];omega,Lib.hid ?_,Lib.hid (bytes_step HF2.out hng2.out hf2),Lib.hid (bytes_far HF2.out.size hng2.out hw2),HE4⟩, ?_⟩
     ·simpa[Lib.byteCells] using ho2
     ·simp only[intOf];omega
  ·obtain rfl:j=m:=by omega
   have he:=HE.out
   rw[List.drop_of_length_le (by rw[HM.out];exact Nat.le_refl _)] at he
   simp only[List.flatMap_nil,List.append_nil] at he
   subst he
   go_wp2_with fail
   go_ret
   exact⟨_,rfl,HO.out,HF.out,HG.out⟩
theorem own_foot {w w2:World} {v:Value} (hg:w.grownBy w2 v.ownBlock):
  Foot w.heap.size (fun k=>v.ownBlock=some k) w w2:=
 ⟨hg.os,hg.tape,hg.output,hg.size,fun k hk hn=>hg.block k hk (fun e=>hn e.symm)⟩
theorem numbers_lit {w:World} {lo:Nat} {v:Value} {bs:List UInt8} (h:w.ownsRow lo 5 1 v bs.length (Lib.byteCells bs)) (hlo:lo≤w.heap.size) (l:List Int) {cs:List Value} (hcs:cs=l.map (Value.int .i64)) {n:Nat} (hn:n=l.length) (hok:∀n∈l,okI n) (hlen:bs.length+11*n≤100000000):
  Calls Tryz.prog 39 #[v,.slice (some ⟨w.heap.size,0,none⟩) n n] (w.alloc (.cells cs.toArray 3 (0,0))) (BytesPost w lo v (bs++l.flatMap numB)):=by
 subst hn
 have hlt:=h.lt
 refine(numbers_any (w:=w.alloc (.cells cs.toArray 3 (0,0))) (l:=l) (A:=some ⟨w.heap.size,0,none⟩) (cap:=l.length) (h.alloc _) (by simp;omega) (fun g hg=>by have:=(hlt g hg).2;simp;omega)
   (by
    refine .inr ⟨w.heap.size,0,rfl,by simp,fun j v hj=> ?_⟩
    have e:=cell_of_row (w.alloc (.cells cs.toArray 3 (0,0))) w.heap.size j _ _ _ (heap_alloc_new w _)
    rw[Nat.zero_add,e,List.getElem?_toArray,hcs,hj])
   (fun a ha=>by
    obtain rfl:=Option.some.inj ha
    intro e
    have:=(hlt _ e).2
    simp at this) hok (by omega)).mono ?_
 rintro e w1 ⟨v1,he,ho1,hf1,hb1⟩
 refine⟨v1,he,ho1, ?_,fun b hb=> ?_⟩
 ·exact⟨hf1.os,hf1.tape,hf1.output,by have:=hf1.size;rw[World.size_alloc] at this;omega,fun k hk hn=>(hf1.block k (by rw[World.size_alloc];omega) hn).trans (heap_alloc_old _ _ hk)⟩
 ·rcases hb1 b hb with h|h
  ·exact .inl h
  ·rw[World.size_alloc] at h;exact .inr (by omega)
section
variable {P:Program} (w:World)
theorem run_append_str_at (base:Nat) (t u ty e:TypeId) (i:TypeInfo) (ht:P.underlying t=some (.slice e)) (hu:P.underlying u=some .string) (hi:P.info? e=some i) (hz:i.zero=some (.int .u8 0))
  (hsize:i.size=1) (hby:i.bytes=1) (v:Value) (n:Nat) (xs:List Value) (hown:w.ownsRow base e 1 v n xs) (s:ByteArray)
  (h63:n+s.size≤maxLen) (hbytes:n+s.size≤140737488355328):∃v' w',(Builtin.append_ #[t,u] ty #[v,.string s]).run P w= .ok v' w'∧∀b,v'.ownBlock=some b→v.ownBlock=some b∨w.heap.size≤b:=by
 have hsmall:n+s.size≤9223372036854775807:=by simp only[maxLen] at h63;omega
 have hxl:xs.length=n:=by simpa using hown.1
 rcases hown.2 with⟨rfl,rfl⟩|⟨g,cap,cur,rfl,hbg,hg,hnc,hcm,hcs,htake⟩
 ·have hx:xs=[]:=List.eq_nil_of_length_eq_zero hxl
  subst hx
  by_cases hm:s.size=0
  ·have hn:Lib.strCells s=[]:=List.eq_nil_of_length_eq_zero (by rw[Lib.strCells_length];exact hm)
   have hf:=Lib.run_firstCells_string (P:=P) w 1 s
   rw[hm] at hf
   exact⟨.slice none 0 0,w,by simp[Builtin.append_,run_underlying ht,run_underlying hu,sizeOf,typeInfo,hi,hsize,Builtin.lenOf,hm,hf],fun b hb=>by simp[Value.ownBlock] at hb⟩
  ·refine⟨_,_,run_append_nil_string (P:=P) w t u ty e i (.int .u8 0) ht hu hi hz s (by omega) (by omega) (by rw[hby];omega),fun b hb=> ?_⟩
   simp only[Value.ownBlock,Option.some.injEq] at hb
   exact .inr (by omega)
 ·by_cases hroom:n+s.size≤cap
  ·have hcs':cur.size=cap:=by simpa using hcs
   exact⟨_,_,Lib.run_append_room_string (P:=P) w t u ty e i ht hu hi hsize g n cap cur hg s hroom (by omega),fun b hb=> .inl hb⟩
  ·have holds:∀j u,xs[j]? =some u→w.cell? ((⟨g,0,none⟩:Addr).add j)=some u:=hown.cells (g:=g) rfl
   refine⟨_,_,Lib.run_append_grow_string (P:=P) w t u ty e i (.int .u8 0) ht hu hi hz ⟨g,0,none⟩ n cap xs (by rw[hsize];simpa using hxl) holds s (by omega) (by omega) (by rw[hby];exact growslice_fits (by omega) (by omega)),fun b hb=> ?_⟩
   simp only[Value.ownBlock,Option.some.injEq] at hb
   exact .inr (by omega)
theorem wpList_append_str {ops:Array Oper} {rest:List Oper} {o:Oper} {a:Act} {Q:Exit→Act→World→Prop} (hgd:o.guard=none) (sl x:Operand) (t u:TypeId)
  (ho:o.op= .call {callee:= .builtin .append,args:= #[sl,x],argTypes:= #[t,u]})
  (base:Nat) (e:TypeId) (i:TypeInfo) (ht:P.underlying t=some (.slice e)) (hu:P.underlying u=some .string) (hi:P.info? e=some i) (hz:i.zero=some (.int .u8 0))
  (hsize:i.size=1) (hby:i.bytes=1)
  (v:Value) (n:Nat) (xs:List Value) (hs:a.eval sl=v) (hown:w.ownsRow base e 1 v n xs) (s:ByteArray) (hx:a.eval x= .string s)
  (h63:n+s.size≤maxLen) (hbytes:n+s.size≤140737488355328) (hbase:base≤w.heap.size)
  (h:∀v' w',w'.ownsRow base e 1 v' (n+s.size) (xs++Lib.strCells s)→w.grownBy w' v.ownBlock→(∀b,v'.ownBlock=some b→v.ownBlock=some b∨w.heap.size≤b)→wpList P ops Q rest (a.put o.dst v') w'):wpList P ops Q (o::rest) a w:=by
 refine wpList_plain hgd fun K hK=> ?_
 obtain⟨v',w',hr,h2,h3,h4⟩:=Lib.run_append_own_string (P:=P) w base t u o.type e i ht hu hi hz hsize hby v n xs hown s h63 hbytes hbase
 obtain⟨v2,w2,hr2,h5⟩:=run_append_str_at (P:=P) w base t u o.type e i ht hu hi hz hsize hby v n xs hown s h63 hbytes
 have e1:=hr.symm.trans hr2
 injection e1 with e1 e2
 subst e1
 unfold Oper.wp execOp
 simp only[ho,resolve,invoke,builtin,Sem.run_bind,Sem.run_pure,Result.andThen_ok,List.map_toArray,List.map_cons,List.map_nil,hs,hx,hr]
 exact hK _ _ (h v' w' h2 h3 h5)
end
theorem text_any {w:World} {lo:Nat} {v:Value} {bs:List UInt8} (h:w.ownsRow lo 5 1 v bs.length (Lib.byteCells bs)) (hlo:lo≤w.heap.size) (s:ByteArray) (hlen:bs.length+s.size≤90000000):
  Calls Tryz.prog 40 #[v,.string s] w (BytesPost w lo v (bs++textB s.data.toList)):=by
 obtain⟨i0,hi,hz0,hz1,hz2⟩:=info_parts byteInfo
 obtain⟨A0,c0,rfl,hc1,hc2⟩:=row_form h
 have hsz:s.data.toList.length=s.size:=by rw[Array.length_toList];rfl
 have hnl:(numB (s.size:Int)).length≤11:=by unfold numB;exact numU_len 10 _
 have HSZ:=Lib.hid hsz
 have HN:=Lib.hid (numbers_lit h hlo [(s.size:Int)] rfl rfl (fun n hn=>by rw[List.mem_singleton.1 hn];exact⟨by omega,by omega⟩) (by simp;omega))
 clear h hsz
 go_enter Tryz.func40,Tryz.ntmps40
 go_wp2_with (first
  |(go_at_call 39;refine HN.out.mono ?_;rintro e w1 ⟨v1,rfl,ho1,hf1,hb1⟩;have HO1:=Lib.hid ho1;clear ho1;have hl1:(bs++ [(s.size:Int)].flatMap numB).length≤bs.length+11:=by simp;exact hnl)
  |(at_builtin;refine wpList_append_str _ rfl _ _ 75 9 rfl lo 5 i0 Tryz.underlying75 Tryz.underlying9 hi hz0 hz1 hz2 _ _ _ rfl HO1.out s rfl (by unfold maxLen;omega) (by omega) (by have:=hf1.size;omega) ?_;intro v2 w2 ho2 hg2 hn2))
 go_ret
 refine⟨v2,rfl, ?_,bytes_step hf1 hb1 (own_foot hg2),bytes_far hf1.size hb1 hn2⟩
 have hlen2:(bs++textB s.data.toList).length=(bs++ [(s.size:Int)].flatMap numB).length+s.size:=by
  simp[textB,HSZ.out];omega
 rw[hlen2,show bs++textB s.data.toList=(bs++ [(s.size:Int)].flatMap numB)++s.data.toList by simp[textB,HSZ.out],Lib.byteCells,List.map_append]
 exact ho2
structure EncAt (w0 W:World) (v:Value) (bs:List UInt8):Prop where
 own:W.ownsRow w0.heap.size 5 1 v bs.length (Lib.byteCells bs)
 low:Below w0.heap.size w0 W
def Box (W:World) (v:Value) (b:Nat) (o:Obj):Prop:=W.heap[b]? =some o∧v.ownBlock≠some b
theorem Box.lt {W:World} {v:Value} {b:Nat} {o:Obj} (h:Box W v b o):b<W.heap.size:=(Array.getElem?_eq_some_iff.1 h.1).1
theorem EncAt.post {w0 W W':World} {v:Value} {bs bs':List UInt8} {e:Ending} (h:EncAt w0 W v bs) (hp:BytesPost W w0.heap.size v bs' e W'):
  ∃v',e= .returned v'∧EncAt w0 W' v' bs'∧∀b o,Box W v b o→Box W' v' b o:=by
 obtain⟨v',he,ho,hf,hb⟩:=hp
 refine⟨v',he,⟨ho,⟨hf.os.trans h.low.os,hf.tape.trans h.low.tape,hf.output.trans h.low.output,Nat.le_trans h.low.size hf.size,fun k hk=>(hf.block k (Nat.lt_of_lt_of_le hk h.low.size) fun e=> ?_).trans (h.low.block k hk)⟩⟩,fun b o hx=>⟨(hf.block b hx.lt hx.2).trans hx.1,fun e=> ?_⟩⟩
 ·have:=(h.own.lt _ e).1;omega
 ·rcases hb b e with h1|h1
  ·exact hx.2 h1
  ·have:=hx.lt;omega
theorem EncAt.alloc {w0 W:World} {v:Value} {bs:List UInt8} (h:EncAt w0 W v bs) (o:Obj):EncAt w0 (W.alloc o) v bs:=⟨h.own.alloc _,h.low.alloc h.low.size _⟩
theorem EncAt.drew {w0 W:World} {v:Value} {bs:List UInt8} (h:EncAt w0 W v bs):EncAt w0 W.drew v bs:=⟨h.own,⟨h.low.os,h.low.tape,h.low.output,h.low.size,h.low.block⟩⟩
theorem Box.drew {W:World} {v:Value} {b:Nat} {o:Obj} (h:Box W v b o):Box W.drew v b o:=h
theorem Box.alloc {W:World} {v:Value} {b:Nat} {o:Obj} (h:Box W v b o) (x:Obj):Box (W.alloc x) v b o:=⟨(heap_alloc_old _ _ h.lt).trans h.1,h.2⟩
theorem EncAt.box {w0 W:World} {v:Value} {bs:List UInt8} (h:EncAt w0 W v bs) (o:Obj):Box (W.alloc o) v W.heap.size o:=⟨heap_alloc_new _ _,fun e=>by have:=(h.own.lt _ e).2;omega⟩
structure One (p:Cp) (f:Cf):Prop where
 fs:p.funcs=[f]
 gs:p.globals=[]
 code:f.code.length≤60000
 slots:f.slots≤20000
 taken:f.taken.length≤20000
structure OneAt (w:World) (B:Nat) (f:Cf) (g off:Nat) (fv:Fv):Prop where
 lt:g<B
 cs:w.cell? ⟨g,off,none⟩=some (.string f.name)∧w.cell? ⟨g,off+1,none⟩=some (.int .i64 f.params)∧w.cell? ⟨g,off+2,none⟩=some (.int .i64 f.slots)∧w.cell? ⟨g,off+3,none⟩=some (.slice fv.ta f.taken.length fv.tc)∧
   w.cell? ⟨g,off+4,none⟩=some (.int .i64 f.around)∧w.cell? ⟨g,off+5,none⟩=some (.slice fv.ca f.code.length fv.cc)
 own:LiesF w B (f,fv)
theorem LiesC.one {w:World} {B:Nat} {p:Cp} {v:Value} {f:Cf} (h:LiesC w B p v) (ho:One p f):∃g off fc ga gc fv,v= .agg #[.slice (some ⟨g,off,none⟩) 1 fc,.slice ga 0 gc]∧1≤fc∧OneAt w B f g off fv:=by
 obtain⟨fa,fc,ga,gc,xs,h1,rfl,h3,h4,h5,h6,h7⟩:=h
 rw[ho.fs] at h1 h5
 rw[ho.gs] at h6⊢
 rw[ho.fs]
 obtain⟨y,rfl⟩:∃y,xs=[y]:=by
  match xs,h1 with
  | [y],_=>exact⟨y,rfl⟩
 simp only[List.map_cons,List.map_nil,List.cons.injEq,and_true] at h1
 obtain⟨f',fv⟩:=y
 obtain rfl:f'=f:=h1
 obtain⟨g,off,rfl,hg,hc⟩:=h3.at (by simp[fnCells])
 have hcs:=fn_at (i:=0) hc rfl
 simp only[Nat.zero_mul,Nat.add_zero] at hcs
 exact⟨g,off,fc,ga,gc,fv,rfl,h5,hg,hcs,h7 _ (List.mem_singleton.2 rfl)⟩
theorem OneAt.keep {w w':World} {B:Nat} {f:Cf} {g off:Nat} {fv:Fv} (h:OneAt w B f g off fv) (hk:∀b,b<B→w'.heap[b]? =w.heap[b]?):OneAt w' B f g off fv:=by
 have e:∀o,w'.cell? ⟨g,o,none⟩=w.cell? ⟨g,o,none⟩:=fun o=>World.cell?_of_block (w:=w) (a:=⟨g,o,none⟩) (hk g h.lt)
 refine⟨h.lt, ?_,h.own.keep hk⟩
 rw[e,e,e,e,e,e]
 exact h.cs
theorem mapNew (w:World):(Instr.makeMap 71 none).run Tryz.prog w= .ok (.map (some w.heap.size)) (w.alloc (.map #[] 0)):=rfl
def CntAt (w:World) (b n:Nat) (l:List (List UInt8)):Prop:=
 ∃D:DataW Unit,w.ownsMap Tryz.prog 9 (plainElem Tryz.prog 3) b n D∧Maps.IsMap D∧∀s,D.atKey (.string s) (.lit (.int .i64 0))= .lit (.int .i64 ((l.count s:Nat):Int))
theorem cntKey:Maps.Keyed Tryz.prog 9:=Maps.string_keyed Tryz.underlying9
theorem cnt_keyOf (s:ByteArray) (hs:s.size≤140737488351232):keyOf Tryz.prog 9 (.string s)=some (.string s.data.toList):=by
 have h2:s.size≤maxLen:=Nat.le_trans hs (by decide)
 simp[keyOf,mapKey,Tryz.underlying9,h2]
theorem CntAt.made (w:World):CntAt (w.alloc (.map #[] 0)) w.heap.size 0 []:=⟨.map [],World.ownsMap_made _ _ _ _,Maps.isMap_empty,fun _=>rfl⟩
theorem CntAt.keep {w w':World} {b n:Nat} {l:List (List UInt8)} (h:CntAt w b n l) (hb:Below w.heap.size w w'):CntAt w' b n l:=by
 obtain⟨D,h1,h2,h3⟩:=h
 exact⟨D,h1.kept (row:=none) ⟨hb.os,hb.tape,hb.output,hb.size,fun k hk _=>hb.block k hk⟩ (by simp),h2,h3⟩
theorem CntAt.look {w:World} {b n:Nat} {l:List (List UInt8)} (h:CntAt w b n l) (s:ByteArray) (hs:s.size≤140737488351232):
  (Instr.lookup 71 (.map (some b)) (.string s) false).run Tryz.prog w= .ok (.int .i64 ((l.count s.data.toList:Nat):Int)) w:=by
 obtain⟨D,h1,h2,h3⟩:=h
 obtain⟨c,hrun,hat,_⟩:=h1.lookup_int cntKey Tryz.underlying71 Tryz.underlying3 (by kernel_rfl) (cnt_keyOf s hs)
 rw[h3] at hat
 have e:=(Lit.int.inj (DataW.lit.inj hat)).2
 rw[e]
 exact hrun
theorem CntAt.put {w:World} {b n:Nat} {l:List (List UInt8)} (h:CntAt w b n l) (s:ByteArray) (hs:s.size≤140737488351232) (hn:n≤140737488351232) (hl:l.length≤140737488351232):
  ∃w',(Instr.mapUpdate 71 (.map (some b)) (.string s) (.int .i64 (((l.count s.data.toList:Nat):Int)+1))).run Tryz.prog w= .ok () w'∧CntAt w' b (n+1) (s.data.toList::l)∧w.grownBy w' (some b):=by
 obtain⟨D,h1,h2,h3⟩:=h
 have hc:l.count s.data.toList≤l.length:=List.count_le_length
 have hw:(Lit.int .i64 (((l.count s.data.toList:Nat):Int)+1)).wf=true:=WalkArith.wf_i64 (by omega)
 obtain⟨w',hrun,hown,hg⟩:=h1.update cntKey Tryz.underlying71 (Nat.lt_of_le_of_lt hn (by decide)) (cnt_keyOf s hs) (plainElem_int Tryz.underlying3 hw)
 refine⟨w',hrun,⟨_,hown,h2.put _ _,fun s'=> ?_⟩,hg⟩
 by_cases he:s'=s.data.toList
 ·subst he
  rw[Maps.atKey_put_same h2 (by exact True.intro),List.count_cons_self]
  simp
 ·rw[Maps.atKey_put_other (by simpa using he),h3,List.count_cons_of_ne (by simpa using fun e=>he e.symm)]
theorem grownTo_below {w w':World} {b B:Nat} (h:w.grownBy w' (some b)) (hB:B≤b) (hs:B≤w.heap.size):Below B w w':=
 ⟨h.os,h.tape,h.output,h.size,fun k hk=>h.block k (by omega) (by intro e;injection e with e;omega)⟩
theorem globalsB_stop {old r:List (List UInt8)} {s:List UInt8} (h:nameL s=false∨old.contains s=true):globalsB old (s::r)=false:=by
 rw[globalsB];rcases h with h|h
 ·rw[h];rfl
 ·rw[h];cases nameL s<;>rfl
theorem globalsB_go {old r:List (List UInt8)} {s:List UInt8} (h:nameL s=true) (h2:old.contains s=false):globalsB old (s::r)=globalsB (s::old) r:=by
 rw[globalsB,h,h2];rfl
theorem count_zero_not {l:List (List UInt8)} {s:List UInt8}:l.count s=0→l.contains s=false:=fun h=>by
 rw[List.count_eq_zero] at h
 simpa using h
theorem count_pos_in {l:List (List UInt8)} {s:List UInt8} (h:l.count s≠0):l.contains s=true:=by
 have:=List.count_pos_iff.1 (Nat.pos_of_ne_zero h)
 simpa using this
theorem globals_any (l:List ByteArray) (ga:Option Addr) (gc:Nat) (w:World) (h:Gc w) (hrow:RowIs w w.heap.size ga (l.map Value.string)) (hl:l.length≤140737488351232) (hs:∀s∈l,s.size≤140737488351232):
  Calls Tryz.prog 34 #[.slice ga l.length gc] w fun e w'=>e= .returned (.bool (globalsB [] (l.map fun s=>s.data.toList)))∧Below w.heap.size w w':=by
 have hm:=mapNew
 have HR:=Lib.hid hrow
 have HG:=Lib.hid h
 have HS:=Lib.hid hs
 obtain⟨n,hn⟩:∃n,l.length=n:=⟨_,rfl⟩
 have HL:=Lib.hid hn
 rw[hn] at hl⊢
 clear hrow h hs hn
 go_enter Tryz.func34,Tryz.ntmps34
 have HB0:Hid (Below w.heap.size w (w.alloc (.map #[] 0))):=Lib.hid ((Below.refl _ _).alloc (Nat.le_refl _) _)
 have HC0:Hid (CntAt (w.alloc (.map #[] 0)) w.heap.size 0 []):=Lib.hid (CntAt.made w)
 go_wp2_with fail
 go_loopw [9] (fun i wr=>∃j:Nat,j≤n∧i= .int .i64 j∧∃old:List (List UInt8),old.length=j∧Hid (CntAt wr w.heap.size j old)∧Hid (Below w.heap.size w wr)∧Hid (globalsB old ((l.map fun s=>s.data.toList).drop j)=globalsB [] (l.map fun s=>s.data.toList))) (fun i _=>n-(intOf i).toNat)
 case atStart=>exact⟨0,Nat.zero_le _,rfl,[],rfl,HC0,HB0,Lib.hid rfl⟩
 case round=>
  obtain⟨j,hj,rfl,old,hold,HC,HB,HI⟩:=hrel
  by_cases hlt:j<n
  ·obtain⟨g,o,rfl,hg,hc⟩:=HR.out.at (by rw[List.length_map,HL.out];omega)
   obtain⟨s,hsj⟩:∃s,l[j]? =some s:=⟨_,List.getElem?_eq_getElem (by rw[HL.out];exact hlt)⟩
   have hcell:wr.cell? ⟨g,o+j,none⟩=some (.string s):=by
    rw[HB.out.cell (p:=⟨g,o+j,none⟩) hg]
    exact hc j _ (by rw[List.getElem?_map,hsj];rfl)
   have hss:=HS.out s (List.mem_of_getElem? hsj)
   have HD:Hid ((l.map fun s=>s.data.toList).drop j=s.data.toList::(l.map fun s=>s.data.toList).drop (j+1)):=Lib.hid (drop_cons (by rw[List.getElem?_map,hsj];rfl))
   obtain⟨m,hm'⟩:∃m:Nat,old.count s.data.toList=m:=⟨_,rfl⟩
   have hm2:m≤j:=by rw[←hm',←hold];exact List.count_le_length
   have hk1:=HC.out.look s hss
   obtain⟨w1,hu,hC1,hg1⟩:=HC.out.put s hss (by omega) (by omega)
   have hb1:Below w.heap.size wr w1:=grownTo_below hg1 (Nat.le_refl _) HB.out.size
   have HB1:=Lib.hid (HB.out.trans hb1)
   have HC1:=Lib.hid hC1
   rw[hm'] at hk1 hu
   have HG1:=Lib.hid (HG.out.up HB1.out)
   have HK2:Hid (∀w2,Below w1.heap.size w1 w2→(Instr.lookup 71 (.map (some w.heap.size)) (.string s) false).run Tryz.prog w2= .ok (.int .i64 ((m+1:Nat):Int)) w2):=Lib.hid fun w2 hb2=>by
    have:=(HC1.out.keep hb2).look s hss
    rw[List.count_cons_self,hm'] at this
    exact this
   have HM:=Lib.hid hm'
   clear hc hsj hC1 hg1 hb1 hm'
   cases hnm:nameB s with
   |false=>
    go_wp2_with (go_at_call 76;refine(named_any s w1 HG1.out hss).mono ?_;rw[hnm];rintro e w2 ⟨rfl,hb2⟩)
    go_ret
    refine⟨ret_bool ?_,HB1.out.trans (hb2.mono HB1.out.size)⟩
    rw[←HI.out,HD.out,globalsB_stop (.inl hnm)]
   |true=>
    by_cases hm0:m=0
    ·subst hm0
     rw[show((0:Nat):Int)+1=1 from rfl] at hu
     rw[show((0:Nat):Int)=0 from rfl] at hk1
     go_wp2_with (go_at_call 76;refine(named_any s w1 HG1.out hss).mono ?_;rw[hnm];rintro e w2 ⟨rfl,hb2⟩;have hk2:=HK2.out w2 hb2)
     go_roundw
     case rel=>
      refine⟨j+1,by omega,by go_num,s.data.toList::old,by simp[hold],Lib.hid (HC1.out.keep hb2),Lib.hid (HB1.out.trans (hb2.mono HB1.out.size)),Lib.hid ?_⟩
      rw[←HI.out,HD.out,globalsB_go hnm (count_zero_not HM.out)]
     case measure=>simp[intOf];omega
    ·go_wp2_with (go_at_call 76;refine(named_any s w1 HG1.out hss).mono ?_;rw[hnm];rintro e w2 ⟨rfl,hb2⟩;have hk2:=HK2.out w2 hb2)
     go_ret
     refine⟨ret_bool ?_,HB1.out.trans (hb2.mono HB1.out.size)⟩
     rw[←HI.out,HD.out,globalsB_stop (.inr (count_pos_in (by rw[HM.out];exact hm0)))]
  ·obtain rfl:j=n:=by omega
   go_wp2_with fail
   go_ret
   refine⟨ret_bool ?_,HB.out⟩
   rw[←HI.out,List.drop_of_length_le (by rw[List.length_map,HL.out];exact Nat.le_refl _)]
   rfl
def RightPost (w:World) (o:Option Cwr) (e:Ending) (w':World):Prop:=Below w.heap.size w w'∧match o with
 |none=>e= .returned .nilIface
 |some c=>∃b,e= .returned (.iface 42 (.pointer (some ⟨b,0,none⟩)))∧w.heap.size≤b∧WrAt w' b c.code c.at_ c.ins
end Go.Proofs.YtagnicbknbmccaaGreatDoor
