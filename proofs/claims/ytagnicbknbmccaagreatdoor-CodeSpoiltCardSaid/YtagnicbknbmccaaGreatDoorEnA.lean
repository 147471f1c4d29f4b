/- The first number that code.Encode lays behind its mark: a row that is full and not the call's own. -/
import Derived.Test.YtagnicbknbmccaaGreatDoorMCxE
import Derived.Test.YtagnicbknbmccaaGreatDoorMMkL
set_option maxRecDepth 100000
set_option maxHeartbeats 8000000
namespace Go.Proofs.YtagnicbknbmccaaGreatDoor
open Go.RowKit
theorem numbers_one {w:World} (lo:Nat) (hlo:lo≤w.heap.size) {g rb:Nat} (bs:List UInt8) (hbs:bs.length≤900) (hc:∀j v,(Lib.byteCells bs)[j]? =some v→w.cell? ⟨g,j,none⟩=some v) (x:Int) (hx:okI x) (hrb:w.cell? ⟨rb,0,none⟩=some (.int .i64 x)) (hrl:rb<w.heap.size) (hgl:g<w.heap.size):
  Calls Tryz.prog 39 #[.slice (some ⟨g,0,none⟩) bs.length bs.length,.slice (some ⟨rb,0,none⟩) 1 1] w fun e w'=>∃v',e= .returned v'∧w'.ownsRow lo 5 1 v' (bs++numB x).length (Lib.byteCells (bs++numB x))∧Below w.heap.size w w'∧∀b,v'.ownBlock=some b→w.heap.size≤b:=by
 obtain⟨i0,hi,hz0,hz1,hz2⟩:=info_parts byteInfo
 obtain⟨T,HT⟩:∃T,Hid (bs++numB x=T):=⟨_,rfl⟩
 rw[HT.out]
 obtain⟨n,hn⟩:∃n,bs.length=n:=⟨_,rfl⟩
 have HBN:=Lib.hid hn
 have HBL:Hid ((Lib.byteCells bs).length=n):=Lib.hid (by simp[Lib.byteCells,hn])
 have HC:=Lib.hid hc
 rw[hn] at hbs⊢
 clear hc hn
 go_enter Tryz.func39,Tryz.ntmps39
 go_wp2_with fail
 go_loopw [0,10] (fun v1 i wr=>(i= .int .i64 0∧v1= .slice (some ⟨g,0,none⟩) n n∧wr=w)∨(i= .int .i64 1∧Hid (wr.ownsRow lo 5 1 v1 T.length (Lib.byteCells T))∧Hid (Below w.heap.size w wr)∧Hid (∀b,v1.ownBlock=some b→w.heap.size≤b))) (fun _ i _=>1-(intOf i).toNat)
 case atStart=>exact .inl ⟨rfl,rfl,rfl⟩
 case round=>
  rcases hrel with⟨rfl,rfl,rfl⟩|⟨rfl,HO,HB,HG⟩
  ·go_wp2_with (go_at_call 87;refine(folded_any x hx _).mono ?_;rintro e w1 ⟨rfl,rfl⟩)
   have HU0:Hid (foldN x<2^(7*(10+1))):=Lib.hid (Nat.lt_of_lt_of_le (foldN_lt hx) (by decide))
   obtain⟨u0,hu0⟩:∃u0,foldN x=u0:=⟨_,rfl⟩
   have HT2:Hid (bs++numU 10 u0=T):=Lib.hid (by rw[←HT.out,←hu0];rfl)
   rw[hu0] at HU0⊢
   clear hu0
   go_loopw [0,7] (fun v2 uv wy=>(v2= .slice (some ⟨g,0,none⟩) n n∧uv= .int .u64 u0∧wy=w1)∨∃(fu u:Nat) (b2:List UInt8),uv= .int .u64 u∧u<u0∧Hid (u<2^(7*(fu+1)))∧fu≤10∧b2.length+fu≤1000∧Hid (wy.ownsRow lo 5 1 v2 b2.length (Lib.byteCells b2))∧Hid (Below w1.heap.size w1 wy)∧Hid (∀b,v2.ownBlock=some b→w1.heap.size≤b)∧Hid (b2++numU fu u=T)) (fun _ uv _=>(intOf uv).toNat)
   case atStart=>exact .inl ⟨rfl,rfl,rfl⟩
   case round=>
    rcases hrel with⟨rfl,rfl,rfl⟩|⟨fu,u,b2,rfl,hu0,HU,hfu,hb2l,HO2,HB2,HG2,HE3⟩
    ·by_cases h127:127<u0
     ·have d:decide (127<u0)=true:=decide_eq_true h127
      have hor:=byte_or u0
      obtain⟨c,hcv⟩:∃c,UInt8.ofNat (u0 % 128+128)=c:=⟨_,rfl⟩
      rw[hcv] at hor
      have he:=HT2.out
      rw[numU,if_pos h127,hcv] at he
      have HE4:Hid ((bs++ [c])++numU 9 (u0/128)=T):=Lib.hid (by rw[←he];simp)
      have HUU:Hid (u0/128<2^(7*(9+1))):=Lib.hid (by
       have:=HU0.out
       rw[show 7*(10+1)=7*(9+1)+7 by omega,Nat.pow_add] at this
       exact Nat.div_lt_of_lt_mul (by rw[Nat.mul_comm];exact this))
      clear he hcv
      go_wp2_with (at_builtin;refine wpList_append_full _ rfl _ _ 75 rfl lo 5 i0 _ Tryz.underlying75 hi hz0 hz1 hz2 rfl ⟨g,0,none⟩ n (Lib.byteCells bs) rfl HBL.out (fun j v hj=>by rw[Addr.add_lit,Nat.zero_add];exact(World.cell?_of_block (w:=wr) (a:=⟨g,j,none⟩) (heap_alloc_old _ _ hgl)).trans (HC.out j v hj)) _ (.int .u8 c.toNat) rfl (by rw[Addr.add_lit];exact(cell_of_row _ _ 0 _ _ _ (heap_alloc_new _ _)).trans rfl) (by omega) (by simp;omega) ?_;intro cap2 w2 ho2 hb2)
      refine⟨.inr ⟨9,u0/128,bs++ [c],by simp,by omega,HUU,by omega,by simp only[List.length_append,List.length_cons,List.length_nil,HBN.out];omega,Lib.hid ?_,Lib.hid ?_,Lib.hid fun b hb=> ?_,HE4⟩, ?_⟩
      ·rw[List.length_append,HBN.out];simpa[Lib.byteCells] using ho2
      ·exact((Below.refl _ _).alloc (Nat.le_refl _) _).trans (hb2.mono (by simp))
      ·simp only[Value.ownBlock,Option.some.injEq] at hb;omega
      ·simp only[intOf];omega
     ·obtain⟨c,rfl⟩:∃c:UInt8,u0=c.toNat:=⟨UInt8.ofNat u0,by rw[UInt8.toNat_ofNat'];omega⟩
      have d:decide (127<c.toNat)=false:=decide_eq_false h127
      have hTT:T=bs++ [c]:=by
       rw[←HT2.out,show numU 10 c.toNat=[c] by simp[numU,h127]]
      have HTT:=Lib.hid hTT
      clear hTT
      go_wp2_with (at_builtin;refine wpList_append_full _ rfl _ _ 75 rfl lo 5 i0 _ Tryz.underlying75 hi hz0 hz1 hz2 rfl ⟨g,0,none⟩ n (Lib.byteCells bs) rfl HBL.out (fun j v hj=>by rw[Addr.add_lit,Nat.zero_add];exact(World.cell?_of_block (w:=wr) (a:=⟨g,j,none⟩) (heap_alloc_old _ _ hgl)).trans (HC.out j v hj)) _ (.int .u8 c.toNat) rfl (by rw[Addr.add_lit];exact(cell_of_row _ _ 0 _ _ _ (heap_alloc_new _ _)).trans rfl) (by omega) (by simp;omega) ?_;intro cap2 w2 ho2 hb2)
      refine⟨.inr ⟨rfl,Lib.hid ?_,Lib.hid ?_,Lib.hid fun b hb=> ?_⟩,by simp[intOf]⟩
      ·rw[HTT.out,List.length_append,HBN.out];simpa[Lib.byteCells] using ho2
      ·exact((Below.refl _ _).alloc (Nat.le_refl _) _).trans (hb2.mono (by simp))
      ·simp only[Value.ownBlock,Option.some.injEq] at hb;omega
    ·obtain⟨A2,cap2,rfl,hc1,hc2⟩:=row_form HO2.out
     by_cases h127:127<u
     ·obtain⟨fu',rfl⟩:∃f',fu=f'+1:=by
       cases fu with
       |zero=>have:=HU.out;simp at this;omega
       |succ f'=>exact⟨f',rfl⟩
      have d:decide (127<u)=true:=decide_eq_true h127
      have hor:=byte_or u
      obtain⟨c,hcv⟩:∃c,UInt8.ofNat (u % 128+128)=c:=⟨_,rfl⟩
      rw[hcv] at hor
      have he:=HE3.out
      rw[numU,if_pos h127,hcv] at he
      have HE4:Hid ((b2++ [c])++numU fu' (u/128)=T):=Lib.hid (by rw[←he];simp)
      have HUU:Hid (u/128<2^(7*(fu'+1))):=Lib.hid (by
       have:=HU.out
       rw[show 7*(fu'+1+1)=7*(fu'+1)+7 by omega,Nat.pow_add] at this
       exact Nat.div_lt_of_lt_mul (by rw[Nat.mul_comm];exact this))
      clear he hcv
      go_wp2_with (at_builtin;refine wpList_append_lies _ rfl _ _ 75 rfl lo 5 i0 _ 1 1 Tryz.underlying75 hi hz0 hz1 hz2 rfl (by decide) _ _ _ rfl (HO2.out.alloc _) ⟨wr.heap.size,0,none⟩ 1 1 [.int .u8 c.toNat] rfl rfl (cell_one_new wr _ _) (by intro u hu;simp at hu;subst hu;rfl) (by decide) (by unfold maxLen;omega) (by omega) (by have:=HB2.out.size;simp;omega) _ rfl ?_;intro g2 cap2 w2 ho2 hg2 hb2 hl2)
      obtain⟨hf2,hw2⟩:=bytes_app hg2 hb2
      refine⟨.inr ⟨fu',u/128,b2++ [c],by simp,by omega,HUU,by omega,by simp only[List.length_append,List.length_cons,List.length_nil];omega,Lib.hid ?_,Lib.hid ?_,Lib.hid fun b hb=> ?_,HE4⟩, ?_⟩
      ·simpa[Lib.byteCells] using ho2
      ·exact⟨hf2.os.trans HB2.out.os,hf2.tape.trans HB2.out.tape,hf2.output.trans HB2.out.output,Nat.le_trans HB2.out.size hf2.size,fun k hk=>(hf2.block k (Nat.lt_of_lt_of_le hk HB2.out.size) (fun e=>by have:=HG2.out k e;omega)).trans (HB2.out.block k hk)⟩
      ·rcases hw2 b hb with h|h
       ·exact HG2.out b h
       ·have:=HB2.out.size;omega
      ·simp only[intOf];omega
     ·obtain⟨c,rfl⟩:∃c:UInt8,u=c.toNat:=⟨UInt8.ofNat u,by rw[UInt8.toNat_ofNat'];omega⟩
      have d:decide (127<c.toNat)=false:=decide_eq_false h127
      have hTT:T=b2++ [c]:=by
       rw[←HE3.out,show numU fu c.toNat=[c] by cases fu<;>simp[numU,h127]]
      have HTT:=Lib.hid hTT
      clear hTT HE3
      go_wp2_with (at_builtin;refine wpList_append_lies _ rfl _ _ 75 rfl lo 5 i0 _ 1 1 Tryz.underlying75 hi hz0 hz1 hz2 rfl (by decide) _ _ _ rfl (HO2.out.alloc _) ⟨wr.heap.size,0,none⟩ 1 1 [.int .u8 c.toNat] rfl rfl (cell_one_new wr _ _) (by intro u hu;simp at hu;subst hu;rfl) (by decide) (by unfold maxLen;omega) (by omega) (by have:=HB2.out.size;simp;omega) _ rfl ?_;intro g2 cap2 w2 ho2 hg2 hb2 hl2)
      obtain⟨hf2,hw2⟩:=bytes_app hg2 hb2
      refine⟨.inr ⟨rfl,Lib.hid ?_,Lib.hid ?_,Lib.hid fun b hb=> ?_⟩,by simp[intOf]⟩
      ·rw[HTT.out];simpa[Lib.byteCells] using ho2
      ·exact⟨hf2.os.trans HB2.out.os,hf2.tape.trans HB2.out.tape,hf2.output.trans HB2.out.output,Nat.le_trans HB2.out.size hf2.size,fun k hk=>(hf2.block k (Nat.lt_of_lt_of_le hk HB2.out.size) (fun e=>by have:=HG2.out k e;omega)).trans (HB2.out.block k hk)⟩
      ·rcases hw2 b hb with h|h
       ·exact HG2.out b h
       ·have:=HB2.out.size;omega
  ·go_wp2_with fail
   go_ret
   exact⟨_,rfl,HO.out,HB.out,HG.out⟩
theorem enc_mark {w w1:World} (hb:Below w.heap.size w w1) {o:Obj} (hp:w1.heap[w.heap.size]? =some o) {m:Nat} (hm:m≤140737488351232):
  Calls Tryz.prog 39 #[.slice (some ⟨w1.heap.size,0,none⟩) 4 4,.slice (some ⟨w1.heap.size+1,0,none⟩) 1 1] ((w1.alloc (.cells #[.int .u8 71,.int .u8 67,.int .u8 48,.int .u8 49] 5 (4,5))).alloc (.cells #[.int .i64 m] 3 (0,0)))
   fun e w'=>∃v',e= .returned v'∧EncAt w w' v' ([71,67,48,49]++numB m)∧Box w' v' w.heap.size o:=by
 have hs1:(w1.alloc (.cells #[.int .u8 71,.int .u8 67,.int .u8 48,.int .u8 49] 5 (4,5))).heap.size=w1.heap.size+1:=World.size_alloc _ _
 have hs2:((w1.alloc (.cells #[.int .u8 71,.int .u8 67,.int .u8 48,.int .u8 49] 5 (4,5))).alloc (.cells #[.int .i64 m] 3 (0,0))).heap.size=w1.heap.size+2:=by rw[World.size_alloc,hs1]
 have hlt:=(Array.getElem?_eq_some_iff.1 hp).1
 have hB2:Below w.heap.size w ((w1.alloc (.cells #[.int .u8 71,.int .u8 67,.int .u8 48,.int .u8 49] 5 (4,5))).alloc (.cells #[.int .i64 m] 3 (0,0))):=(hb.alloc hb.size _).alloc (by rw[hs1];have:=hb.size;omega) _
 have hn1:=heap_alloc_new (w1.alloc (.cells #[.int .u8 71,.int .u8 67,.int .u8 48,.int .u8 49] 5 (4,5))) (.cells #[.int .i64 m] 3 (0,0))
 rw[hs1] at hn1
 refine(numbers_one w.heap.size (by rw[hs2];have:=hb.size;omega) [71,67,48,49] (by decide) (fun j u hj=> ?_) m ⟨by omega,by omega⟩ (cell_of_row _ _ 0 _ _ _ hn1) (by rw[hs2];omega) (by rw[hs2];omega)).mono ?_
 ·have e:=cell_of_row ((w1.alloc (.cells #[.int .u8 71,.int .u8 67,.int .u8 48,.int .u8 49] 5 (4,5))).alloc (.cells #[.int .i64 m] 3 (0,0))) w1.heap.size j _ _ _ ((heap_alloc_old _ _ (by rw[hs1];omega)).trans (heap_alloc_new w1 _))
  rw[e,List.getElem?_toArray]
  exact hj
 ·rintro e w2 ⟨v2,rfl,ho2,hb2,hv2⟩
  rw[hs2] at hb2 hv2
  refine⟨v2,rfl,⟨ho2,hB2.trans (hb2.mono (by have:=hb.size;omega))⟩, ?_,fun e=> ?_⟩
  ·exact(hb2.block _ (by omega)).trans ((heap_alloc_old _ _ (by rw[hs1];omega)).trans ((heap_alloc_old _ _ hlt).trans hp))
  ·have:=hv2 _ e;omega
end Go.Proofs.YtagnicbknbmccaaGreatDoor
