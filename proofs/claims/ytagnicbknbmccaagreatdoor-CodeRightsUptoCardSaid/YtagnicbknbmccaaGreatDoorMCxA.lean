/- code.numbers, code.text: what is laid behind a list of bytes. code.fine: what stands in memory ahead of its walk. code.headed$1, slices.IndexFunc and ContainsFunc of ints over it. code.headed of any function of a program. -/
import Derived.Lib.AppendStr
import Derived.Lib.Varint
import Derived.Deep.AppendLies
import Derived.Test.YtagnicbknbmccaaGreatDoorMCwB
import Derived.Test.YtagnicbknbmccaaGreatDoorMCwH
import Derived.Test.YtagnicbknbmccaaGreatDoorMScanA
import Derived.Test.YtagnicbknbmccaaGreatDoorMCwX
import Derived.Test.YtagnicbknbmccaaGreatDoorMCwQ
import Derived.Test.YtagnicbknbmccaaGreatDoorMCyA
import Derived.Test.YtagnicbknbmccaaGreatDoorMCwG
set_option maxRecDepth 100000
set_option maxHeartbeats 4000000
namespace Go.Proofs.YtagnicbknbmccaaGreatDoor
open Go.RowKit
def BytesPost (w:World) (lo:Nat) (v:Value) (bs:List UInt8) (e:Ending) (w':World):Prop:=
 ∃v',e= .returned v'∧w'.ownsRow lo 5 1 v' bs.length (Lib.byteCells bs)∧Foot w.heap.size (fun k=>v.ownBlock=some k) w w'∧∀b,v'.ownBlock=some b→v.ownBlock=some b∨w.heap.size≤b
theorem bytes_step {w w1 w2:World} {v v1:Value} (h1:Foot w.heap.size (fun k=>v.ownBlock=some k) w w1) (g1:∀b,v1.ownBlock=some b→v.ownBlock=some b∨w.heap.size≤b)
  (h2:Foot w1.heap.size (fun k=>v1.ownBlock=some k) w1 w2):Foot w.heap.size (fun k=>v.ownBlock=some k) w w2:=
 h1.trans (h2.mono h1.size fun k hk e=>by
  rcases g1 k e with e|e
  ·exact e
  ·omega)
theorem bytes_far {w w1:World} {v v1 v2:Value} (h1:w.heap.size≤w1.heap.size) (g1:∀b,v1.ownBlock=some b→v.ownBlock=some b∨w.heap.size≤b) (g2:∀b,v2.ownBlock=some b→v1.ownBlock=some b∨w1.heap.size≤b):
  ∀b,v2.ownBlock=some b→v.ownBlock=some b∨w.heap.size≤b:=fun b hb=>by
 rcases g2 b hb with e|e
 ·exact g1 b e
 ·exact .inr (Nat.le_trans h1 e)
theorem bytes_app {w w2:World} {o:Obj} {v:Value} {g2 cap2 n:Nat} (hg:(w.alloc o).grownBy w2 v.ownBlock) (hb:v.ownBlock=some g2∨g2=(w.alloc o).heap.size):
  Foot w.heap.size (fun k=>v.ownBlock=some k) w w2∧∀b,(Value.slice (some ⟨g2,0,none⟩) n cap2).ownBlock=some b→v.ownBlock=some b∨w.heap.size≤b:=by
 have hs:(w.alloc o).heap.size=w.heap.size+1:=World.size_alloc _ _
 refine⟨⟨hg.os,hg.tape,hg.output,by have:=hg.size;omega,fun k hk hn=> ?_⟩,fun b hb2=> ?_⟩
 ·rw[hg.block k (by omega) (fun e=>hn e.symm)]
  exact heap_alloc_old w o hk
 ·have e:g2=b:=by simpa[Value.ownBlock] using hb2
  rcases hb with h|h
  ·left;rw[h,e]
  ·right;omega
theorem byte_or (u:Nat):bits .or .u8 ((u:Int) % 256) 128=((UInt8.ofNat (u % 128+128)).toNat:Int):=by
 have hw:(u:Int) % 256=((u % 256:Nat):Int):=by omega
 rw[hw,Lib.u8_or128_any _ (by omega) (by omega)]
 have:(UInt8.ofNat (u % 128+128)).toNat=u % 128+128:=by
  rw[UInt8.toNat_ofNat']
  omega
 rw[this]
 omega
theorem numU_len:∀(f u:Nat),(numU f u).length≤f+1
 |0,u=>by simp[numU]
 |f+1,u=>by
  rw[numU]
  split
  ·have:=numU_len f (u/128);simp only[List.length_cons];omega
  ·simp
theorem foldN_lt {n:Int} (h:okI n):foldN n<18446744073709551616:=by
 obtain⟨h0,h1⟩:=h
 unfold foldN
 split<;>omega
theorem numbers_any {w:World} {lo:Nat} {v:Value} {bs:List UInt8} (h:w.ownsRow lo 5 1 v bs.length (Lib.byteCells bs)) (hlo:lo≤w.heap.size) {A:Option Addr} {l:List Int} {cap:Nat} (_hl:∀g,v.ownBlock=some g→g<w.heap.size)
  (hr:RowIs w w.heap.size A (l.map (Value.int .i64))) (hov:∀a,A=some a→v.ownBlock≠some a.block) (hok:∀n∈l,okI n) (hlen:bs.length+11*l.length≤100000000):
  Calls Tryz.prog 39 #[v,.slice A l.length cap] w (BytesPost w lo v (bs++l.flatMap numB)):=by
 obtain⟨i0,hi,hz0,hz1,hz2⟩:=info_parts byteInfo
 obtain⟨T,HT⟩:∃T,Hid (bs++l.flatMap numB=T):=⟨_,rfl⟩
 rw[HT.out]
 have H:=Lib.hid h
 have HR:=Lib.hid hr
 have HOK:=Lib.hid hok
 obtain⟨m,hm⟩:∃m,l.length=m:=⟨_,rfl⟩
 have HM:=Lib.hid hm
 rw[hm] at hlen⊢
 clear h hr hok hm
 go_enter Tryz.func39,Tryz.ntmps39
 go_wp2_with fail
 go_loopw [0,10] (fun v1 i wr=>∃(j:Nat) (b1:List UInt8),i= .int .i64 j∧j≤m∧b1.length≤bs.length+11*j∧Hid (wr.ownsRow lo 5 1 v1 b1.length (Lib.byteCells b1))∧Hid (Foot w.heap.size (fun k=>v.ownBlock=some k) w wr)∧Hid (∀b,v1.ownBlock=some b→v.ownBlock=some b∨w.heap.size≤b)∧Hid (b1++(l.drop j).flatMap numB=T)) (fun _ i _=>m-(intOf i).toNat)
 case atStart=>exact⟨0,bs,rfl,Nat.zero_le _,by omega,H,Lib.hid (Foot.refl _ _ _),Lib.hid fun _ h=> .inl h,HT⟩
 case round=>
  obtain⟨j,b1,rfl,hj,hb1,HO,HF,HG,HE⟩:=hrel
  by_cases hlt:j<m
  ·obtain⟨x,hx⟩:∃x,l[j]? =some x:=⟨_,List.getElem?_eq_getElem (by rw[HM.out];exact hlt)⟩
   have hxk:=HOK.out x (List.mem_of_getElem? hx)
   obtain⟨g,o,rfl,hg,hc⟩:=HR.out.at (by rw[List.length_map,HM.out];omega)
   have cx:=hc j (.int .i64 x) (by simp[hx])
   have hng:=hov _ rfl
   rw[←HF.out.cell (p:=⟨g,o+j,none⟩) hg hng] at cx
   have he:=HE.out
   rw[drop_cons hx,List.flatMap_cons] at he
   have HE2:=Lib.hid he
   clear he hx
   go_wp2_with (go_at_call 87;refine(folded_any x hxk _).mono ?_;rintro e w1 ⟨rfl,rfl⟩)
   go_loopw [0,7] (fun v2 uv wy=>∃(fu u:Nat) (b2:List UInt8),uv= .int .u64 u∧Hid (u<2^(7*(fu+1)))∧fu≤10∧b2.length+fu+1≤bs.length+11*(j+1)∧Hid (wy.ownsRow lo 5 1 v2 b2.length (Lib.byteCells b2))∧Hid (Foot w.heap.size (fun k=>v.ownBlock=some k) w wy)∧Hid (∀b,v2.ownBlock=some b→v.ownBlock=some b∨w.heap.size≤b)∧Hid (b2++(numU fu u++(l.drop (j+1)).flatMap numB)=T)) (fun _ uv _=>(intOf uv).toNat)
   case atStart=>exact⟨10,foldN x,b1,rfl,Lib.hid (Nat.lt_of_lt_of_le (foldN_lt hxk) (by decide)),by omega,by omega,HO,HF,HG,HE2⟩
   case round=>
    obtain⟨fu,u,b2,rfl,HU,hfu,hb2l,HO2,HF2,HG2,HE3⟩:=hrel
    obtain⟨A2,cap2,rfl,hc1,hc2⟩:=row_form HO2.out
    have hng2:=HG2
    by_cases h127:127<u
    ·obtain⟨fu',rfl⟩:∃f',fu=f'+1:=by
      cases fu with
      |zero=>have:=HU.out;simp at this;omega
      |succ f'=>exact⟨f',rfl⟩
     have d:decide (127<u)=true:=decide_eq_true h127
     have hor:=byte_or u
     obtain⟨c,hcv⟩:∃c,UInt8.ofNat (u % 128+128)=c:=⟨_,rfl⟩
     rw[hcv] at hor
     have he:=HE3.out
     rw[numU,if_pos h127,hcv] at he
     have HE4:Hid ((b2++ [c])++(numU fu' (u/128)++(l.drop (j+1)).flatMap numB)=T):=Lib.hid (by rw[←he];simp)
     have HU2:Hid (u/128<2^(7*(fu'+1))):=Lib.hid (by
      have:=HU.out
      rw[show 7*(fu'+1+1)=7*(fu'+1)+7 by omega,Nat.pow_add] at this
      exact Nat.div_lt_of_lt_mul (by rw[Nat.mul_comm];exact this))
     clear he hcv
     go_wp2_with (at_builtin;refine wpList_append_lies _ rfl _ _ 75 rfl lo 5 i0 _ 1 1 Tryz.underlying75 hi hz0 hz1 hz2 rfl (by decide) _ _ _ rfl (HO2.out.alloc _) ⟨wr.heap.size,0,none⟩ 1 1 [.int .u8 c.toNat] rfl rfl (cell_one_new wr _ _) (by intro u hu;simp at hu;subst hu;rfl) (by decide) (by unfold maxLen;omega) (by omega) (by have:=HF2.out.size;simp;omega) _ rfl ?_;intro g2 cap2 w2 ho2 hg2 hb2 hl2)
     obtain⟨hf2,hw2⟩:=bytes_app hg2 hb2
     refine⟨⟨fu',u/128,b2++ [c],by simp,HU2,by omega,by simp only[List.length_append,List.length_cons,List.length_nil];omega,Lib.hid ?_,Lib.hid (bytes_step HF2.out hng2.out hf2),Lib.hid (bytes_far HF2.out.size hng2.out hw2),HE4⟩, ?_⟩
     ·simpa[Lib.byteCells] using ho2
     ·simp only[intOf];omega
    ·obtain⟨c,rfl⟩:∃c:UInt8,u=c.toNat:=⟨UInt8.ofNat u,by rw[UInt8.toNat_ofNat'];omega⟩
     have d:decide (127<c.toNat)=false:=decide_eq_false h127
     have he:(b2++ [c])++(l.drop (j+1)).flatMap numB=T:=by
      have:=HE3.out
      rw[show numU fu c.toNat=[c] by cases fu<;>simp[numU,h127]] at this
      rw[←this];simp
     have HE4:=Lib.hid he
     clear he HE HE2 HE3
     go_wp2_with (at_builtin;refine wpList_append_lies _ rfl _ _ 75 rfl lo 5 i0 _ 1 1 Tryz.underlying75 hi hz0 hz1 hz2 rfl (by decide) _ _ _ rfl (HO2.out.alloc _) ⟨wr.heap.size,0,none⟩ 1 1 [.int .u8 c.toNat] rfl rfl (cell_one_new wr _ _) (by intro u hu;simp at hu;subst hu;rfl) (by decide) (by unfold maxLen;omega) (by omega) (by have:=HF2.out.size;simp;omega) _ rfl ?_;intro g2 cap2 w2 ho2 hg2 hb2 hl2)
     obtain⟨hf2,hw2⟩:=bytes_app hg2 hb2
     refine⟨⟨j+1,b2++ [c],by simp,by omega,by simp only[List.length_append,List.length_cons,List.length_nil];omega,Lib.hid ?_,Lib.hid (bytes_step HF2.out hng2.out hf2),Lib.hid (bytes_far HF2.out.size hng2.out hw2),HE4⟩, ?_⟩
     ·simpa[Lib.byteCells] using ho2
     ·simp only[intOf];omega
  ·obtain rfl:j=m:=by omega
   have he:=HE.out
   rw[List.drop_of_length_le (by rw[HM.out];exact Nat.le_refl _)] at he
   simp only[List.flatMap_nil,List.append_nil] at he
   subst he
   go_wp2_with fail
   go_ret
   exact⟨_,rfl,HO.out,HF.out,HG.out⟩
theorem fine_env {p:Cp} {v:Value} {w:World} (hv:LiesC w w.heap.size p v) {f k:Nat} {o:Cf} (ho:p.funcs[f]? =some o) {x:Ci} (hx:o.code[k]? =some x) (hlen:o.code.length≤60000):
  ∃(g off m fc:Nat) (ga:Option Addr) (gc n ca co cap:Nat),v= .agg #[.slice (some ⟨g,off,none⟩) m fc,.slice ga p.globals.length gc]∧o.code.length=n∧f<m∧m≤fc∧k<n∧n≤60000∧w.cell? ⟨g,off+f*6+5,none⟩=some (.slice (some ⟨ca,co,none⟩) n cap)∧g<w.heap.size∧ca<w.heap.size∧
   w.cell? ⟨ca,co+k*5,none⟩=some (.int .i64 x.op)∧w.cell? ⟨ca,co+k*5+1,none⟩=some (.int .i64 x.a)∧w.cell? ⟨ca,co+k*5+2,none⟩=some (.int .i64 x.b)∧w.cell? ⟨ca,co+k*5+3,none⟩=some (.string x.text)∧w.cell? ⟨ca,co+k*5+4,none⟩=some (.int .i64 x.at_)∧
   Hid (∀(j:Nat) (u:Value),(o.code.flatMap insCells)[j]? =some u→w.cell? ⟨ca,co+j,none⟩=some u)∧Hid (LiesC w w.heap.size p (.agg #[.slice (some ⟨g,off,none⟩) m fc,.slice ga p.globals.length gc])):=by
 have HV:=Lib.hid hv
 obtain⟨fa,fc,ga,gc,xs,h1,rfl,h3,h4,h5,h6,h7⟩:=hv
 have hfl:f<p.funcs.length:=(List.getElem?_eq_some_iff.1 ho).1
 have hkl:k<o.code.length:=(List.getElem?_eq_some_iff.1 hx).1
 have hlx:xs.length=p.funcs.length:=by have:=congrArg List.length h1;simpa using this
 obtain⟨y,hy⟩:∃y,xs[f]? =some y:=⟨_,List.getElem?_eq_getElem (by omega)⟩
 have hyo:y.1=o:=by
  have:(xs.map Prod.fst)[f]? =some y.1:=by simp[hy]
  rw[h1,ho] at this
  exact(Option.some.inj this).symm
 obtain⟨o',fv⟩:=y
 obtain rfl:o'=o:=hyo
 obtain⟨g,off,rfl,hg,hc⟩:=h3.at (by rw[flat_len fn_len];omega)
 have c5:=(fn_at hc hy).2.2.2.2.2
 obtain⟨_,hcr,_,_⟩:=h7 _ (List.mem_of_getElem? hy)
 dsimp only at hcr
 obtain⟨ca,co,hca,hcb,hcc⟩:=hcr.at (by rw[flat_len ins_len];omega)
 rw[hca] at c5
 obtain⟨x0,x1,x2,x3,x4⟩:=ins_at hcc hx
 exact⟨g,off,_,fc,ga,gc,_,ca,co,_,rfl,rfl,hfl,h5,hkl,hlen,c5,hg,hcb,x0,x1,x2,x3,x4,Lib.hid hcc,HV⟩
theorem fine_fn {w w4:World} {ps cs:Array Value} {F:Cform} (hb4:Below ((w.alloc (.cells ps 27 (0,0))).alloc (.cells cs 36 (0,0))).heap.size ((w.alloc (.cells ps 27 (0,0))).alloc (.cells cs 36 (0,0))) w4):
  ∃pb fb W0,w.heap.size=pb∧w4.heap.size=fb∧w4.alloc (.cells #[.string ⟨⟨F.word⟩⟩,.int .i64 F.a,.int .i64 F.text,.string ⟨⟨F.takes⟩⟩,.string ⟨⟨F.lays⟩⟩] 86 (0,0))=W0∧FnAt w (.agg ps) cs F pb (pb+1) fb W0:=by
 refine⟨_,_,_,rfl,rfl,rfl, ?_⟩
 have hs2:((w.alloc (.cells ps 27 (0,0))).alloc (.cells cs 36 (0,0))).heap.size=w.heap.size+2:=by simp
 have hn1:=heap_alloc_new (w.alloc (.cells ps 27 (0,0))) (.cells cs 36 (0,0))
 rw[World.size_alloc] at hn1
 have hn0:=(heap_alloc_old (w.alloc (.cells ps 27 (0,0))) (.cells cs 36 (0,0)) (show w.heap.size<_ by simp)).trans (heap_alloc_new w _)
 have hB2:Below w.heap.size w ((w.alloc (.cells ps 27 (0,0))).alloc (.cells cs 36 (0,0))):=((Below.refl _ _).alloc (Nat.le_refl _) _).alloc (by simp) _
 rw[hs2] at hb4
 have hs4:=hb4.size
 rw[hs2] at hs4
 exact⟨(hB2.trans (hb4.mono (by omega))).alloc (by omega) _,⟨_,rfl,(heap_alloc_old _ _ (by omega)).trans ((hb4.block _ (by omega)).trans hn0)⟩,(heap_alloc_old _ _ (by omega)).trans ((hb4.block _ (by omega)).trans hn1),heap_alloc_new _ _⟩
def outB (slots:Int) (n:Nat) (t:Int):Bool:=decide (slots≤t)||decide (t< -(n:Int))
theorem headed1_any {w:World} {b n cap:Nat} {ta:Option Addr} {slots t:Int} (h2:w.cell? ⟨b,2,none⟩=some (.int .i64 slots)) (h3:w.cell? ⟨b,3,none⟩=some (.slice ta n cap)) (hn:n≤140737488351232):
  Calls Tryz.prog 80 #[.int .i64 t,.pointer (some ⟨b,0,none⟩)] w fun e w'=>e= .returned (.bool (outB slots n t))∧w'=w:=by
 have HF:Hid (outB slots n t=(decide (slots≤t)||decide (t< -(n:Int)))):=rfl
 go_enter Tryz.func80,Tryz.ntmps80
 cases d1:decide (slots≤t) with
 |true=>
  rw[d1] at HF
  go_wp2_with fail
  go_ret
  exact⟨ret_bool (by rw[HF.out];rfl),rfl⟩
 |false=>
  rw[d1] at HF
  go_wp2_with fail
  go_ret
  exact⟨ret_bool (by rw[HF.out];rfl),rfl⟩
theorem indexTaken_any {w:World} {b n cap c:Nat} {ta A:Option Addr} {slots:Int} {l:List Int} (h2:w.cell? ⟨b,2,none⟩=some (.int .i64 slots)) (h3:w.cell? ⟨b,3,none⟩=some (.slice ta n cap)) (hn:n≤140737488351232)
  (hrow:RowIs w w.heap.size A (l.map (Value.int .i64))) (hl:l.length≤140737488351232):
  Calls Tryz.prog 119 #[.slice A l.length c,.func (.func 80) #[] #[.pointer (some ⟨b,0,none⟩)]] w fun e w'=>∃r:Int,e= .returned (.int .i64 r)∧decide (0≤r)=l.any (outB slots n)∧w'=w:=by
 have hcall:∀(v u:Value) (w':World),(callFunc 80 #[v,u]).run Tryz.prog w'= .ok (.enter 80 #[v,u]) w':=fun v u w'=>enters_of Tryz.func80 (by kernel_rfl) rfl _ _
 have HR:=Lib.hid hrow
 obtain⟨m,hm⟩:∃m,l.length=m:=⟨_,rfl⟩
 have HL:=Lib.hid hm
 have HC:Hid (∀t,Calls Tryz.prog 80 #[.int .i64 t,.pointer (some ⟨b,0,none⟩)] w fun e w'=>e= .returned (.bool (outB slots n t))∧w'=w):=Lib.hid fun t=>headed1_any h2 h3 hn
 rw[hm] at hl⊢
 clear hrow h2 h3 hm
 go_enter Tryz.func119,Tryz.ntmps119
 go_wp2_with fail
 go_loopw [8] (fun i wr=>wr=w∧∃j:Nat,j≤m∧i= .int .i64 j∧Hid ((l.drop j).any (outB slots n)=l.any (outB slots n))) (fun i _=>m-(intOf i).toNat)
 case atStart=>exact⟨rfl,0,Nat.zero_le _,rfl,Lib.hid rfl⟩
 case round=>
  obtain⟨rfl,j,hj,rfl,HI⟩:=hrel
  by_cases hlt:j<m
  ·obtain⟨g,o,rfl,hg,hc⟩:=HR.out.at (by rw[List.length_map,HL.out];omega)
   obtain⟨x,hx⟩:∃x,l[j]? =some x:=⟨_,List.getElem?_eq_getElem (by rw[HL.out];exact hlt)⟩
   have hcell:=hc j (.int .i64 x) (by rw[List.getElem?_map,hx];rfl)
   have HD:Hid (l.drop j=x::l.drop (j+1)):=Lib.hid (drop_cons hx)
   clear hc hx
   cases hb:outB slots n x with
   |true=>
    go_wp2_with (go_at_call 80;refine(HC.out x).mono ?_;rw[hb];rintro e w' ⟨rfl,rfl⟩)
    go_ret
    refine⟨(j:Int),rfl, ?_,rfl⟩
    rw[←HI.out,HD.out,List.any_cons,hb]
    simp
   |false=>
    go_wp2_with (go_at_call 80;refine(HC.out x).mono ?_;rw[hb];rintro e w' ⟨rfl,rfl⟩)
    go_roundw
    case rel=>
     refine⟨by trivial,j+1,by omega,by go_num,Lib.hid ?_⟩
     rw[←HI.out,HD.out,List.any_cons,hb,Bool.false_or]
    case measure=>simp[intOf];omega
  ·obtain rfl:j=m:=by omega
   go_wp2_with fail
   go_ret
   refine⟨-1,rfl, ?_,rfl⟩
   rw[←HI.out,List.drop_of_length_le (by rw[HL.out];exact Nat.le_refl _)]
   rfl
theorem containsTaken_any {w:World} {b n cap c:Nat} {ta A:Option Addr} {slots:Int} {l:List Int} (h2:w.cell? ⟨b,2,none⟩=some (.int .i64 slots)) (h3:w.cell? ⟨b,3,none⟩=some (.slice ta n cap)) (hn:n≤140737488351232)
  (hrow:RowIs w w.heap.size A (l.map (Value.int .i64))) (hl:l.length≤140737488351232):
  Calls Tryz.prog 79 #[.slice A l.length c,.func (.func 80) #[] #[.pointer (some ⟨b,0,none⟩)]] w fun e w'=>e= .returned (.bool (l.any (outB slots n)))∧w'=w:=by
 have HC:=Lib.hid (indexTaken_any (c:=c) h2 h3 hn hrow hl)
 clear h2 h3 hrow
 go_enter Tryz.func79,Tryz.ntmps79
 go_wp2_with (go_at_call 119;refine HC.out.mono ?_;rintro e w' ⟨r,rfl,hr,rfl⟩)
 go_ret
 first
  |exact⟨ret_bool hr,rfl⟩
  |exact⟨rfl,rfl⟩
structure HeadAt (w:World) (g q i n:Nat) (nm:ByteArray) (pa sl ar:Int) (ta:Option Addr) (t tc:Nat) (ca:Option Addr) (cn cc:Nat):Prop where
 lt:g<w.heap.size
 le:i<n
 x0:w.cell? ⟨g,q+i*6,none⟩=some (.string nm)
 x1:w.cell? ⟨g,q+i*6+1,none⟩=some (.int .i64 pa)
 x2:w.cell? ⟨g,q+i*6+2,none⟩=some (.int .i64 sl)
 x3:w.cell? ⟨g,q+i*6+3,none⟩=some (.slice ta t tc)
 x4:w.cell? ⟨g,q+i*6+4,none⟩=some (.int .i64 ar)
 x5:w.cell? ⟨g,q+i*6+5,none⟩=some (.slice ca cn cc)
theorem three_cell (w:World) (o1 o2:Obj) (a:Array Value) (t:TypeId) (j:Nat) (v:Value) (h:a[j]? =some v):(((w.alloc o1).alloc o2).alloc (.cells a t (0,0))).cell? ⟨w.heap.size+2,j,none⟩=some v:=by
 have e:((w.alloc o1).alloc o2).heap.size=w.heap.size+2:=by simp
 rw[←e,cell_of_row _ _ j _ _ _ (heap_alloc_new _ _)]
 exact h
theorem headed_bad {w:World} {g q i n m fc gc t tc cn cc:Nat} {nm:ByteArray} {pa sl ar:Int} {ga ta ca:Option Addr} (hA:HeadAt w g q i n nm pa sl ar ta t tc ca cn cc) (_hn:n≤140737488351232) (_ht:t≤140737488351232) (mv:Value) (h1:pa<0∨13<pa∨sl<pa):
  Calls Tryz.prog 36 #[.agg #[.slice (some ⟨g,q,none⟩) n fc,.slice ga m gc],.int .i64 i,mv] w fun e w'=>e= .returned (.bool false)∧Below w.heap.size w w':=by
 have hg:=hA.lt
 have hlt:=hA.le
 have x0:=hA.x0
 have x1:=hA.x1
 have x2:=hA.x2
 have x3:=hA.x3
 have x4:=hA.x4
 have x5:=hA.x5
 clear hA
 go_enter Tryz.func36,Tryz.ntmps36
 rcases h1 with h1|h1|h1
 all_goals
  go_wp2_with fail
  all_goals
   go_ret
   exact⟨rfl,((Below.refl _ _).alloc (Nat.le_refl _) _).alloc (by simp) _⟩
theorem headed_zero {w:World} {g q i n m fc gc t tc cn cc:Nat} {nm:ByteArray} {pa sl ar:Int} {ga ta ca:Option Addr} (hA:HeadAt w g q i n nm pa sl ar ta t tc ca cn cc) (_hn:n≤140737488351232) (_ht:t≤140737488351232) (h1:¬(pa<0∨13<pa∨sl<pa)) (mv:Value) (hi:i=0):
  Calls Tryz.prog 36 #[.agg #[.slice (some ⟨g,q,none⟩) n fc,.slice ga m gc],.int .i64 i,mv] w fun e w'=>e= .returned (.bool (nm.data.toList==[]&&(pa==0&&(((t:Int)==0)&&ar== -1))))∧Below w.heap.size w w':=by
 subst hi
 have hg:=hA.lt
 have hlt:=hA.le
 have x0:=hA.x0
 have x1:=hA.x1
 have x2:=hA.x2
 have x3:=hA.x3
 have x4:=hA.x4
 have x5:=hA.x5
 obtain⟨a1,a2⟩:=not_or.1 h1
 obtain⟨a3,a4⟩:=not_or.1 a2
 have d1:decide (pa<0)=false:=decide_eq_false a1
 have d2:decide (13<pa)=false:=decide_eq_false a3
 have d3:decide (sl<pa)=false:=decide_eq_false a4
 clear hA h1 a1 a2 a3 a4
 have hne:nm.toList.isEmpty=(nm.data.toList==[]):=by rw[ByteArray.toList_eq];cases nm.data.toList<;>rfl
 simp only[Nat.zero_mul,Nat.add_zero] at x0 x1 x2 x3 x4 x5
 go_enter Tryz.func36,Tryz.ntmps36
 cases e1:(nm.data.toList==[])<;>cases e2:(pa==0)<;>cases e3:((t:Int)==0)<;>cases e4:(ar== -1)
 all_goals
  rw[e1] at hne
  go_wp2_with fail
  all_goals
   go_ret
   refine⟨ret_bool (by first|rfl|simp_all), ?_⟩
   exact((Below.refl _ _).alloc (Nat.le_refl _) _).alloc (by simp) _
theorem headed_decl {w:World} {g q i n m fc gc t tc cn cc:Nat} {nm:ByteArray} {pa sl ar:Int} {ga ta ca:Option Addr} (hA:HeadAt w g q i n nm pa sl ar ta t tc ca cn cc) (_hn:n≤140737488351232) (_ht:t≤140737488351232) (h1:¬(pa<0∨13<pa∨sl<pa)) (hi:i≠0) (hr:ar= -1) (hG:Gc w) {b k:Nat} (h13:13≤b) {old:List (List UInt8)} (hc:CntAt w b k old) (hk:k≤100000000000000) (ho:old.length≤100000000000000) (hs:nm.size≤4000000000):
  Calls Tryz.prog 36 #[.agg #[.slice (some ⟨g,q,none⟩) n fc,.slice ga m gc],.int .i64 i,.map (some b)] w fun e w'=>e= .returned (.bool (((t:Int)==0)&&(declaredB nm.data.toList&& !old.contains nm.data.toList)))∧(w.grownBy w' (some b))∧CntAt w' b (k+1) (nm.data.toList::old):=by
 subst hr
 have hg:=hA.lt
 have hlt:=hA.le
 have x0:=hA.x0
 have x1:=hA.x1
 have x2:=hA.x2
 have x3:=hA.x3
 have x4:=hA.x4
 have x5:=hA.x5
 obtain⟨a1,a2⟩:=not_or.1 h1
 obtain⟨a3,a4⟩:=not_or.1 a2
 have d1:decide (pa<0)=false:=decide_eq_false a1
 have d2:decide (13<pa)=false:=decide_eq_false a3
 have d3:decide (sl<pa)=false:=decide_eq_false a4
 clear hA h1 a1 a2 a3 a4
 have hi0:((i:Int)==0)=false:=by simp;omega
 obtain⟨W2,HW2⟩:∃W2,Hid (W2=(w.alloc (.cells #[.slice (some ⟨g,q,none⟩) n fc,.slice ga m gc] 27 (0,0))).alloc (.cells #[.string nm,.int .i64 pa,.int .i64 sl,.slice ta t tc,.int .i64 (-1),.slice ca cn cc] 33 (0,0))):=⟨_,rfl⟩
 have hB2:Below w.heap.size w W2:=by rw[HW2.out];exact((Below.refl _ _).alloc (Nat.le_refl _) _).alloc (by simp) _
 have hC2:=hc.keep hB2
 obtain⟨c,hcc⟩:∃c:Nat,old.count nm.data.toList=c:=⟨_,rfl⟩
 have hcl:c≤old.length:=by rw[←hcc];exact List.count_le_length
 have hk1:=hC2.look nm (by omega)
 obtain⟨w3,hu,hC3,hg3⟩:=hC2.put nm (by omega) (by omega) (by omega)
 have hbw:b<w.heap.size:=by obtain⟨D,h1,_⟩:=hc;exact h1.lt
 rw[hcc] at hk1 hu
 have hcells:∀j v,(#[.string nm,.int .i64 pa,.int .i64 sl,.slice ta t tc,.int .i64 (-1),.slice ca cn cc]:Array Value)[j]? =some v→w3.cell? ⟨w.heap.size+1,j,none⟩=some v:=fun j v hj=>by
  rw[World.cell?_of_block (a:=⟨w.heap.size+1,j,none⟩) (hg3.block (w.heap.size+1) (by rw[HW2.out];simp) (by intro e;injection e with e;omega)),HW2.out]
  rw[cell_of_row _ (w.heap.size+1) j _ _ _ (by have:=heap_alloc_new (w.alloc (.cells #[.slice (some ⟨g,q,none⟩) n fc,.slice ga m gc] 27 (0,0))) (.cells #[.string nm,.int .i64 pa,.int .i64 sl,.slice ta t tc,.int .i64 (-1),.slice ca cn cc] 33 (0,0));simpa using this)]
  exact hj
 have z0:=hcells 0 _ rfl
 have z3:=hcells 3 _ rfl
 have hs3:w.heap.size+1<w3.heap.size:=World.block_lt_of_cell? w3 ⟨w.heap.size+1,0,none⟩ z0
 have hgb:w.grownBy w3 (some b):=⟨hg3.os.trans hB2.os,hg3.tape.trans hB2.tape,hg3.output.trans hB2.output,Nat.le_trans hB2.size hg3.size,fun j hj hjb=>(hg3.block j (Nat.lt_of_lt_of_le hj hB2.size) hjb).trans (hB2.block j hj)⟩
 have HGB:=Lib.hid hgb
 have HC3:=Lib.hid hC3
 have HG3:Hid (Gc w3):=Lib.hid (hG.below (B:=13) (Nat.le_refl 13) ⟨hgb.os,hgb.tape,hgb.output,hgb.size,fun j hj=>hgb.block j (Nat.lt_of_lt_of_le hj hG.size) (by intro e;injection e with e;omega)⟩)
 have HK4:Hid (∀w4,Below w3.heap.size w3 w4→(Instr.lookup 71 (.map (some b)) (.string nm) false).run Tryz.prog w4= .ok (.int .i64 ((c:Int)+1)) w4):=Lib.hid fun w4 hb4=>by
  have:=(HC3.out.keep hb4).look nm (by omega)
  rw[List.count_cons_self,hcc] at this
  exact this
 have HFIN:Hid (∀w4,Below w3.heap.size w3 w4→w.grownBy w4 (some b)∧CntAt w4 b (k+1) (nm.data.toList::old)):=Lib.hid fun w4 hb4=>
  ⟨⟨hb4.os.trans HGB.out.os,hb4.tape.trans HGB.out.tape,hb4.output.trans HGB.out.output,Nat.le_trans HGB.out.size hb4.size,fun j hj hjb=>(hb4.block j (Nat.lt_of_lt_of_le hj HGB.out.size)).trans (HGB.out.block j hj hjb)⟩,HC3.out.keep hb4⟩
 have HD:Hid (∀W,Gc W→Calls Tryz.prog 78 #[.string nm] W fun e w'=>e= .returned (.bool (declaredB nm.data.toList))∧Below W.heap.size W w'):=Lib.hid fun W hW=>declared_any nm.data.toList W hW (by show nm.size≤_;omega)
 have HCC:=Lib.hid hcc
 have hW2:=HW2.out
 subst hW2
 clear hc hC2 hC3 hg3 hgb hB2 hcells hcc HW2 hG
 go_enter Tryz.func36,Tryz.ntmps36
 cases e3:((t:Int)==0) with
 |false=>
  go_wp2_with fail
  go_ret
  exact⟨ret_bool (by first|rfl|simp_all),HFIN.out _ (Below.refl _ _)⟩
 |true=>
  cases e4:declaredB nm.data.toList with
  |false=>
   go_wp2_with (go_at_call 78;refine(HD.out _ HG3.out).mono ?_;rw[e4];rintro e w4 ⟨rfl,hb4⟩)
   go_ret
   exact⟨ret_bool (by first|rfl|simp_all),HFIN.out _ hb4⟩
  |true=>
   by_cases hc0:c=0
   ·subst hc0
    rw[show((0:Nat):Int)+1=1 from rfl] at hu
    rw[show((0:Nat):Int)=0 from rfl] at hk1
    have hnc:=count_zero_not HCC.out
    go_wp2_with (go_at_call 78;refine(HD.out _ HG3.out).mono ?_;rw[e4];rintro e w4 ⟨rfl,hb4⟩;have hk4:=HK4.out w4 hb4;have z0':=(hb4.cell (p:=⟨w.heap.size+1,0,none⟩) hs3).trans z0)
    go_ret
    exact⟨ret_bool (by rw[hnc];first|rfl|simp_all),HFIN.out _ hb4⟩
   ·have hnc:=count_pos_in (by rw[HCC.out];exact hc0)
    have hc1:((c:Int)+1==1)=false:=by simp;omega
    go_wp2_with (go_at_call 78;refine(HD.out _ HG3.out).mono ?_;rw[e4];rintro e w4 ⟨rfl,hb4⟩;have hk4:=HK4.out w4 hb4;have z0':=(hb4.cell (p:=⟨w.heap.size+1,0,none⟩) hs3).trans z0)
    go_ret
    exact⟨ret_bool (by rw[hnc];first|rfl|simp_all),HFIN.out _ hb4⟩
theorem headed_odd {w:World} {g q i n m fc gc t tc cn cc:Nat} {nm:ByteArray} {pa sl ar:Int} {ga ta ca:Option Addr} (hA:HeadAt w g q i n nm pa sl ar ta t tc ca cn cc) (hn:n≤140737488351232) (_ht:t≤140737488351232) (h1:¬(pa<0∨13<pa∨sl<pa)) (mv:Value) (hi:i≠0) (hr:ar≠-1) (hw:nm.data.toList≠ [102,117,110,99]∨ar<0∨(i:Int)≤ar):
  Calls Tryz.prog 36 #[.agg #[.slice (some ⟨g,q,none⟩) n fc,.slice ga m gc],.int .i64 i,mv] w fun e w'=>e= .returned (.bool false)∧Below w.heap.size w w':=by
 have hg:=hA.lt
 have hlt:=hA.le
 have x0:=hA.x0
 have x1:=hA.x1
 have x2:=hA.x2
 have x3:=hA.x3
 have x4:=hA.x4
 have x5:=hA.x5
 obtain⟨a1,a2⟩:=not_or.1 h1
 obtain⟨a3,a4⟩:=not_or.1 a2
 have d1:decide (pa<0)=false:=decide_eq_false a1
 have d2:decide (13<pa)=false:=decide_eq_false a3
 have d3:decide (sl<pa)=false:=decide_eq_false a4
 clear hA h1 a1 a2 a3 a4
 have hi0:((i:Int)==0)=false:=by simp;omega
 have hr0:(ar== -1)=false:=by simpa using hr
 have hne:(nm.toList==[102,117,110,99])=(nm.data.toList==[102,117,110,99]):=by rw[ByteArray.toList_eq]
 have HW:=Lib.hid hw
 clear hw hi hr
 go_enter Tryz.func36,Tryz.ntmps36
 cases e1:(nm.data.toList==[102,117,110,99])
 ·rw[e1] at hne
  go_wp2_with fail
  go_ret
  exact⟨rfl,((Below.refl _ _).alloc (Nat.le_refl _) _).alloc (by simp) _⟩
 ·rw[e1] at hne
  rcases HW.out with h|h|h
  ·exact absurd (by simpa using e1) h
  all_goals
   go_wp2_with fail
   all_goals
    go_ret
    exact⟨rfl,((Below.refl _ _).alloc (Nat.le_refl _) _).alloc (by simp) _⟩
theorem headed_inner {w:World} {g q i n m fc gc t tc cn cc:Nat} {nm:ByteArray} {pa sl ar:Int} {ga ta ca:Option Addr} (hA:HeadAt w g q i n nm pa sl ar ta t tc ca cn cc) (_hn:n≤140737488351232) (ht:t≤140737488351232) (h1:¬(pa<0∨13<pa∨sl<pa)) (mv:Value) (hi:i≠0) (hr:ar≠-1) (hw:nm.data.toList=[102,117,110,99]) {j:Nat} (hj:ar=(j:Int)) (hji:j<i)
  {nm2:ByteArray} {pa2 sl2 ar2:Int} {ta2 ca2:Option Addr} {t2 tc2 cn2 cc2:Nat} (hA2:HeadAt w g q j n nm2 pa2 sl2 ar2 ta2 t2 tc2 ca2 cn2 cc2) (ht2:t2≤140737488351232) {l:List Int} (hl:l.length=t) (hrow:RowIs w w.heap.size ta (l.map (Value.int .i64))):
  Calls Tryz.prog 36 #[.agg #[.slice (some ⟨g,q,none⟩) n fc,.slice ga m gc],.int .i64 i,mv] w fun e w'=>e= .returned (.bool (!l.any (outB sl2 t2)))∧Below w.heap.size w w':=by
 have hg:=hA.lt
 have hlt:=hA.le
 have x0:=hA.x0
 have x1:=hA.x1
 have x2:=hA.x2
 have x3:=hA.x3
 have x4:=hA.x4
 have x5:=hA.x5
 obtain⟨a1,a2⟩:=not_or.1 h1
 obtain⟨a3,a4⟩:=not_or.1 a2
 have d1:decide (pa<0)=false:=decide_eq_false a1
 have d2:decide (13<pa)=false:=decide_eq_false a3
 have d3:decide (sl<pa)=false:=decide_eq_false a4
 clear hA h1 a1 a2 a3 a4
 have hi0:((i:Int)==0)=false:=by simp;omega
 have hr0:(ar== -1)=false:=by simpa using hr
 have hr1:decide (ar<0)=false:=by simp;omega
 have hr2:decide ((i:Int)≤ar)=false:=by simp;omega
 have hne:(nm.toList==[102,117,110,99])=true:=by rw[ByteArray.toList_eq,hw];rfl
 subst hj
 have y0:=hA2.x0
 have y1:=hA2.x1
 have y2:=hA2.x2
 have y3:=hA2.x3
 have y4:=hA2.x4
 have y5:=hA2.x5
 have hjn:=hA2.le
 have HC:Hid (∀W,Below w.heap.size w W→∀b,W.cell? ⟨b,2,none⟩=some (.int .i64 sl2)→W.cell? ⟨b,3,none⟩=some (.slice ta2 t2 tc2)→Calls Tryz.prog 79 #[.slice ta t tc,.func (.func 80) #[] #[.pointer (some ⟨b,0,none⟩)]] W fun e w'=>e= .returned (.bool (l.any (outB sl2 t2)))∧w'=W):=
  Lib.hid fun W hW b h2 h3=>hl▸containsTaken_any (c:=tc) h2 h3 ht2 ((hrow.keep hW.block).more hW.size) (by omega)
 have hmf:∀(fn:Fn) (first cap:Array Value) (w:World),(Instr.makeFunc fn first cap).run Tryz.prog w= .ok (.func fn first cap) w:=fun _ _ _ _=>rfl
 have HB3:Hid (∀o1 o2 o3,Below w.heap.size w (((w.alloc o1).alloc o2).alloc o3)):=Lib.hid fun o1 o2 o3=>(((Below.refl _ _).alloc (Nat.le_refl _) _).alloc (by simp) _).alloc (by simp;omega) _
 clear hA2 hrow hl hw
 go_enter Tryz.func36,Tryz.ntmps36
 go_wp2_with (go_at_call 79;refine(HC.out _ (HB3.out _ _ _) (w.heap.size+2) ?_ ?_).mono ?_;rotate_left 2;rintro e w4 ⟨rfl,rfl⟩)
 ·go_ret
  exact⟨rfl,HB3.out _ _ _⟩
 ·exact three_cell _ _ _ _ _ _ _ rfl
 ·exact three_cell _ _ _ _ _ _ _ rfl
end Go.Proofs.YtagnicbknbmccaaGreatDoor
