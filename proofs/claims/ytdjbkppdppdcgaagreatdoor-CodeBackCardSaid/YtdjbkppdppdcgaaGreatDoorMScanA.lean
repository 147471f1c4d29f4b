/- lex.sixteenth, lex.escape, lex.literal. lex.literal. lex.Quote. A program of code as lines, in plain form: List, Read; what is right about an instruction. Bridges: a text parted at a byte. The chapter's least program, in plain form. -/
import Derived.Test.YtdjbkppdppdcgaaGreatDoorShelf
import Derived.Deep.RegionWith
import Derived.Laws.IdiomStrings
import Derived.Laws.BytesArg
import Derived.Lib.ItoaNum
import Derived.Lib.ParseIntB
import Derived.Lib.SplitLaws
import Derived.Test.YtdjbkppdppdcgaaGreatDoorMLex1
import Derived.Test.YtdjbkppdppdcgaaGreatDoorLay
import Derived.Test.YtdjbkppdppdcgaaGreatDoorSqC
set_option maxRecDepth 100000
set_option maxHeartbeats 4000000
namespace Go.Proofs.YtdjbkppdppdcgaaGreatDoor
open Go.RowKit
def six (c:UInt8):Int:=Lib.indexByte [48,49,50,51,52,53,54,55,56,57,97,98,99,100,101,102] (bits .or .u8 (c.toNat:Int) (bits .and .u8 32 (bits .and .u8 (c.toNat:Int) 64/2))).toNat.toUInt8
theorem sixteenth_any (c:UInt8) (w:World):Calls Tryz.prog 162 #[.int .u8 c.toNat] w fun e w'=>e= .returned (.int .i64 (six c))∧w'=w:=by
 go_enter Tryz.func162,Tryz.ntmps162
 go_wp2_with fail
 refine(Tryz.strings_IndexByte _ _ _).mono ?_
 rintro e w' ⟨rfl,rfl⟩
 go_wp2_with fail
 go_ret
 exact⟨rfl,rfl⟩
def escS:List UInt8→UInt8×Nat
 | []=>(0,0)
 |c::r=>if c=110 then(10,1) else if c=116 then(9,1) else if c=92∨c=34 then(c,1) else if c=120 then
   match r with
   |a::b::_=>if 0≤six a∧0≤six b then((16*six a+six b).toNat.toUInt8,3) else(0,0)
   |_=>(0,0)
  else(0,0)
theorem six_bd (c:UInt8): -1≤six c∧six c≤15:=by
 refine⟨Lib.indexByte_ge _ _, ?_⟩
 unfold six
 generalize (bits .or .u8 (c.toNat:Int) (bits .and .u8 32 (bits .and .u8 (c.toNat:Int) 64/2))).toNat.toUInt8=d
 have h:=Lib.indexByte_ge [48,49,50,51,52,53,54,55,56,57,97,98,99,100,101,102] d
 obtain⟨o,ho⟩|hm:(∃o:Nat,Lib.indexByte [48,49,50,51,52,53,54,55,56,57,97,98,99,100,101,102] d=o)∨Lib.indexByte [48,49,50,51,52,53,54,55,56,57,97,98,99,100,101,102] d= -1:=by
  by_cases h0:0≤Lib.indexByte [48,49,50,51,52,53,54,55,56,57,97,98,99,100,101,102] d
  ·exact .inl ⟨_,(Int.toNat_of_nonneg h0).symm⟩
  ·exact .inr (by omega)
 ·have:=(List.getElem?_eq_some_iff.1 (Lib.indexByte_some ho).1).1
  simp at this
  omega
 ·omega
theorem ba0 (c:UInt8) (r:List UInt8) (h:0<(⟨⟨c::r⟩⟩:ByteArray).size):(⟨⟨c::r⟩⟩:ByteArray)[0]'h=c:=rfl
theorem ba1 (c a:UInt8) (r:List UInt8) (h:1<(⟨⟨c::a::r⟩⟩:ByteArray).size):(⟨⟨c::a::r⟩⟩:ByteArray)[1]'h=a:=rfl
theorem ba2 (c a b:UInt8) (r:List UInt8) (h:2<(⟨⟨c::a::b::r⟩⟩:ByteArray).size):(⟨⟨c::a::b::r⟩⟩:ByteArray)[2]'h=b:=rfl
attribute [local go_sem] ba0 ba1 ba2
theorem u8_ne {c d:UInt8} (h:c≠d):(((c.toNat:Int)==(d.toNat:Int)))=false:=by
 simp only[beq_eq_false_iff_ne,ne_eq]
 intro e
 exact h (UInt8.toNat_inj.1 (by omega))
theorem escape_any (l:List UInt8) (w:World):Calls Tryz.prog 143 #[.string ⟨⟨l⟩⟩] w fun e w'=>e= .returned (.tuple #[.int .u8 (escS l).1.toNat,.int .i64 (escS l).2])∧Below w.heap.size w w':=by
 cases l with
 |nil=>
  go_enter Tryz.func143,Tryz.ntmps143
  go_wp2_with fail
  go_ret2
  exact⟨rfl,Below.refl _ _⟩
 |cons c r=>
  by_cases h1:c=110
  ·subst h1
   go_enter Tryz.func143,Tryz.ntmps143
   go_wp2_with fail
   go_ret2
   exact⟨rfl,Below.refl _ _⟩
  by_cases h2:c=116
  ·subst h2
   go_enter Tryz.func143,Tryz.ntmps143
   go_wp2_with fail
   go_ret2
   exact⟨rfl,Below.refl _ _⟩
  by_cases h3:c=92
  ·subst h3
   go_enter Tryz.func143,Tryz.ntmps143
   go_wp2_with fail
   go_ret2
   exact⟨rfl,Below.refl _ _⟩
  by_cases h4:c=34
  ·subst h4
   go_enter Tryz.func143,Tryz.ntmps143
   go_wp2_with fail
   go_ret2
   exact⟨rfl,Below.refl _ _⟩
  have n1:((c.toNat:Int)==110)=false:=u8_ne h1
  have n2:((c.toNat:Int)==116)=false:=u8_ne h2
  have n3:((c.toNat:Int)==92)=false:=u8_ne h3
  have n4:((c.toNat:Int)==34)=false:=u8_ne h4
  by_cases h5:c=120
  ·subst h5
   match r with
   | []=>
    go_enter Tryz.func143,Tryz.ntmps143
    go_wp2_with fail
    go_ret2
    exact⟨rfl,Below.refl _ _⟩
   | [a]=>
    go_enter Tryz.func143,Tryz.ntmps143
    go_wp2_with fail
    go_ret2
    exact⟨rfl,Below.refl _ _⟩
   |a::b::r'=>
    have HA:=Lib.hid (six_bd a)
    have HB:=Lib.hid (six_bd b)
    have HE:Hid (escS (120::a::b::r')=if 0≤six a∧0≤six b then((16*six a+six b).toNat.toUInt8,3) else(0,0)):=rfl
    have HSA:=Lib.hid (fun W=>sixteenth_any a W)
    have HSB:=Lib.hid (fun W=>sixteenth_any b W)
    obtain⟨x,hx⟩:∃x,six a=x:=⟨_,rfl⟩
    obtain⟨y,hy⟩:∃y,six b=y:=⟨_,rfl⟩
    rw[hx] at HA HE HSA
    rw[hy] at HB HE HSB
    clear hx hy
    have hA:=HA.out
    have hB:=HB.out
    go_enter Tryz.func143,Tryz.ntmps143
    go_wp2_with (first
     |(go_at_call 162;(with_reducible refine(HSA.out _).mono ?_);rintro e w' ⟨rfl,rfl⟩)
     |(go_at_call 162;(with_reducible refine(HSB.out _).mono ?_);rintro e w' ⟨rfl,rfl⟩))
    ·go_region_with (first
      |(go_at_call 162;(with_reducible refine(HSA.out _).mono ?_);rintro e w' ⟨rfl,rfl⟩)
      |(go_at_call 162;(with_reducible refine(HSB.out _).mono ?_);rintro e w' ⟨rfl,rfl⟩))
     all_goals go_wp2_with fail
     all_goals go_ret2
     all_goals refine⟨?_,(Below.refl _ _).drew⟩
     all_goals rw[HE.out,if_pos (by omega)]
     all_goals simp[Act.put]
     all_goals simp[IntKind.wrap,IntKind.bits,IntKind.signed]
     all_goals omega
    ·go_ret2
     refine⟨?_,Below.refl _ _⟩
     rw[HE.out,if_neg (by omega)]
     rfl
    ·go_ret2
     refine⟨?_,Below.refl _ _⟩
     rw[HE.out,if_neg (by omega)]
     rfl
  ·have n5:((c.toNat:Int)==120)=false:=u8_ne h5
   go_enter Tryz.func143,Tryz.ntmps143
   go_wp2_with fail
   go_ret2
   refine⟨?_,Below.refl _ _⟩
   simp[escS,h1,h2,h3,h4,h5]
inductive Rd (α:Type) where
 |ok (x:α)
 |bad (code at_:Int)
def litR (at_:Nat) (l:List UInt8) (i:Nat) (out:List UInt8):Rd (List UInt8×Nat):=
 match l with
 | []=> .bad 11 at_
 |c::r=>if c=34 then .ok (out,i+1) else if c=10 then .bad 11 at_ else if c=92 then
   (if(escS r).2=0 then .bad 11 i else litR at_ (r.drop (escS r).2) (i+1+(escS r).2) (out++ [(escS r).1]))
  else litR at_ r (i+1) (out++ [c])
termination_by l.length
decreasing_by
 ·simp;omega
 ·simp
theorem run_bytes_own (w:World) (B:Nat) (v:Value) (bs:List UInt8) (h:w.ownsRow B 5 1 v bs.length (Lib.byteCells bs)):(convert 69 9 v).run Tryz.prog w= .ok (.string ⟨⟨bs⟩⟩) w:=by
 obtain⟨A,cap,rfl,_,_⟩:=row_form h
 by_cases h0:bs.length=0
 ·obtain rfl:=List.eq_nil_of_length_eq_zero h0
  cases A with
  |none=>exact run_convert_bytes_nil w 69 5 Tryz.underlying69 Tryz.underlying5 _ _ 9 Tryz.underlying9
  |some a=>exact run_convert_bytes_back w 69 9 5 a cap [] Tryz.underlying69 Tryz.underlying5 Tryz.underlying9 (fun j hj=>by simp at hj)
 ·obtain⟨b,rfl,_,_⟩:=row_some h (by omega)
  refine run_convert_bytes_back w 69 9 5 ⟨b,0,none⟩ cap bs Tryz.underlying69 Tryz.underlying5 Tryz.underlying9 (fun j hj=> ?_)
  exact h.cells (g:=b) rfl j _ (by simp[Lib.byteCells,List.getElem?_eq_getElem hj])
def ErrAt (w:World) (b:Nat) (code at_:Int):Prop:=w.heap[b]? =some (.cells #[.int .i64 code,.int .i64 at_,.string ⟨#[]⟩] 51 (0,0))
theorem lit_result (tmps:Array Value) (W:World) (x y z:Value) (h4:tmps.getD 4 undef=x) (h5:tmps.getD 5 undef=y) (h6:tmps.getD 6 undef=z):(results Tryz.f124 tmps).run Tryz.prog W= .ok (.tuple #[x,y,z]) W:=by
 have h4':tmps[4]?.getD undef=x:=by simpa using h4
 have h5':tmps[5]?.getD undef=y:=by simpa using h5
 have h6':tmps[6]?.getD undef=z:=by simpa using h6
 simp[results,Tryz.f124,go_sem,h4',h5',h6']
theorem ba_drop (l:List UInt8) (i:Nat):(⟨⟨l⟩⟩:ByteArray).extract i l.length=⟨⟨l.drop i⟩⟩:=by
 apply ByteArray.ext
 simp
 exact List.take_of_length_le (by simp)
theorem escS_fit (l:List UInt8):(escS l).2≤l.length:=by
 unfold escS
 split
 ·simp
 ·rename_i c r
  by_cases h1:c=110
  ·simp[h1]
  ·by_cases h2:c=116
   ·simp[h2]
   ·by_cases h3:c=92∨c=34
    ·simp[h1,h2,h3]
    ·rw[if_neg h1,if_neg h2,if_neg h3]
     split
     ·split
      ·split<;>simp
      ·simp
     ·simp
theorem row_under {B e s n:Nat} {v:Value} {xs:List Value} {w w':World} (hb:Below w.heap.size w w') (h:w.ownsRow B e s v n xs):w'.ownsRow B e s v n xs:=
 h.kept (row:=none) ⟨hb.os,hb.tape,hb.output,hb.size,fun k hk _=>hb.block k hk⟩ (by cases v.ownBlock<;>simp)
theorem literal_any (l:List UInt8) (p:Nat) (w:World) (hp:p<l.length) (hlen:l.length≤1000000000):Calls Tryz.prog 124 #[.string ⟨⟨l⟩⟩,.int .i64 p] w fun e w'=>Below w.heap.size w w'∧
  ((∃out next,litR p (l.drop (p+1)) (p+1) []= .ok (out,next)∧e= .returned (.tuple #[.string ⟨⟨out⟩⟩,.int .i64 next,.pointer none]))∨
   (∃c a b,litR p (l.drop (p+1)) (p+1) []= .bad c a∧e= .returned (.tuple #[.string ⟨#[]⟩,.int .i64 0,.pointer (some ⟨b,0,none⟩)])∧w.heap.size≤b∧ErrAt w' b c a)):=by
 obtain⟨R,HR⟩:∃R,Hid (litR p (l.drop (p+1)) (p+1) []=R):=⟨_,rfl⟩
 rw[HR.out]
 obtain⟨i0,hi,hz0,hz1,hz2⟩:=info_parts byteInfo
 go_enter Tryz.func124,Tryz.ntmps124
 go_wp2_with fail
 go_loopw [7,8] (fun o i wr=>∃(j:Nat) (bs:List UInt8),j≤l.length∧bs.length≤j∧i= .int .i64 j∧Hid (wr.ownsRow w.heap.size 5 1 o bs.length (Lib.byteCells bs))∧Hid (litR p (l.drop j) j bs=R)∧Below w.heap.size w wr) (fun _ i _=>l.length-(intOf i).toNat)
 case atStart=>exact⟨p+1,[],by omega,by simp,by go_num,Lib.hid (World.ownsRow_nil _ _ _ _),HR,Below.refl _ _⟩
 case round=>
  obtain⟨j,bs,hj,hbl,rfl,ho,hr,hb⟩:=hrel
  obtain⟨A,cap,rfl,hc1,hc2⟩:=row_form ho.out
  by_cases hlt:j<l.length
  ·obtain⟨c,hc⟩:∃c,l[j]? =some c:=⟨l[j],List.getElem?_eq_getElem hlt⟩
   have hdrop:=drop_cons hc
   have hix:∀h,(⟨⟨l⟩⟩:ByteArray)[j]'h=c:=fun h=>by
    have:=(List.getElem?_eq_some_iff.1 hc).2
    exact this
   have HDR:=Lib.hid hdrop
   clear hdrop hc
   by_cases h1:c=34
   ·subst h1
    have hconv:=run_bytes_own wr w.heap.size _ bs ho.out
    have hfin:R= .ok (bs,j+1):=by rw[←hr.out,HDR.out,litR,if_pos rfl]
    have HFI:=Lib.hid hfin
    clear hfin
    go_wp2_with fail
    refine bodyPost_ret (lit_result _ _ _ _ _ rfl rfl rfl) rfl ?_
    exact⟨hb,.inl ⟨bs,j+1,HFI.out,by simp⟩⟩
   by_cases h2:c=10
   ·subst h2
    have hfin:R= .bad 11 p:=by rw[←hr.out,HDR.out,litR,if_neg (by decide),if_pos rfl]
    have HFI:=Lib.hid hfin
    clear hfin
    go_wp2_with fail
    refine(lexWrong_any _ _ _).mono ?_
    rintro e w' ⟨rfl,hw'⟩
    have he:ErrAt w' wr.heap.size 11 p:=by rw[hw'];exact heap_alloc_new wr _
    have hb':Below w.heap.size w w':=by rw[hw'];exact hb.alloc hb.size _
    have HE:=Lib.hid he
    clear hw' he
    go_wp2_with fail
    refine bodyPost_ret (lit_result _ _ _ _ _ rfl rfl rfl) rfl ?_
    exact⟨hb',.inr ⟨11,p,_,HFI.out,rfl,hb.size,HE.out⟩⟩
   by_cases h3:c=92
   ·subst h3
    have hex:(⟨⟨l⟩⟩:ByteArray).extract (j+1) l.length=⟨⟨l.drop (j+1)⟩⟩:=ba_drop l (j+1)
    have hlit:litR p (l.drop j) j bs=if(escS (l.drop (j+1))).2=0 then .bad 11 j else litR p ((l.drop (j+1)).drop (escS (l.drop (j+1))).2) (j+1+(escS (l.drop (j+1))).2) (bs++ [(escS (l.drop (j+1))).1]):=by
     rw[HDR.out,litR,if_neg (by decide),if_neg (by decide),if_pos rfl]
    rw[hr.out] at hlit
    have HES:=Lib.hid (escape_any (l.drop (j+1)))
    have hel:=escS_fit (l.drop (j+1))
    obtain⟨ec,en,hee⟩:∃ec en,escS (l.drop (j+1))=(ec,en):=⟨_,_,rfl⟩
    rw[hee] at hlit HES hel
    rw[List.length_drop] at hel
    have HLIT:=Lib.hid hlit
    clear hlit hee
    dsimp only at hel
    by_cases hn0:en=0
    ·subst hn0
     go_wp2_with (go_at_call 143;refine(HES.out _).mono ?_;rintro e w4 ⟨rfl,hb4⟩;dsimp only)
     refine(lexWrong_any _ _ _).mono ?_
     rintro e w' ⟨rfl,hw'⟩
     have he:ErrAt w' w4.heap.size 11 j:=by rw[hw'];exact heap_alloc_new w4 _
     have hb':Below w.heap.size w w':=by rw[hw'];exact(hb.trans (hb4.mono hb.size)).alloc (Nat.le_trans hb.size hb4.size) _
     have hsz4:=Nat.le_trans hb.size hb4.size
     have HE:=Lib.hid he
     clear hw' he
     go_wp2_with fail
     refine bodyPost_ret (lit_result _ _ _ _ _ rfl rfl rfl) rfl ?_
     exact⟨hb',.inr ⟨11,j,_,by rw[HLIT.out];simp,rfl,hsz4,HE.out⟩⟩
    ·have hn1:((en:Int)==0)=false:=by simp[hn0]
     go_wp2_with (first
      |(go_at_call 143;refine(HES.out _).mono ?_;rintro e w4 ⟨rfl,hb4⟩;dsimp only;have ho4:=Lib.hid (row_under hb4 ho.out))
      |(at_builtin;refine wpList_append_own _ rfl _ _ 69 rfl w.heap.size 5 i0 _ 1 1 Tryz.underlying69 hi hz0 hz1 hz2 rfl (by decide) _ _ _ rfl (ho4.out.alloc _) ⟨w4.heap.size,0,none⟩ 1 1 [.int .u8 ec.toNat] rfl rfl (cell_one_new w4 _ _) (by intro u hu;simp at hu;subst hu;rfl) (by unfold maxLen;omega) (by omega) (by have:=hb.size;have:=hb4.size;simp;omega) ?_;intro v1 w1 ho1 hg1 _))
     have hb4':Below w.heap.size w w4:=hb.trans (hb4.mono hb.size)
     have hb1:Below w.heap.size w w1:=grown_below (hb4'.alloc hb4'.size _) (ho4.out.alloc _) (by have:=hb4'.size;simp;omega) hg1
     have hl2:litR p (l.drop (j+1+en)) (j+1+en) (bs++ [ec])=R:=by
      rw[HLIT.out,if_neg hn0,List.drop_drop]
     have HL2:=Lib.hid hl2
     clear hl2
     go_wp2_with fail
     go_roundw
     case rel=>exact⟨j+1+en,bs++ [ec],by omega,by simp;omega,by go_num,Lib.hid (by simpa[Lib.byteCells] using ho1),HL2,hb1⟩
     case measure=>simp[intOf];omega
   have n1:((c.toNat:Int)==34)=false:=u8_ne h1
   have n2:((c.toNat:Int)==10)=false:=u8_ne h2
   have n3:((c.toNat:Int)==92)=false:=u8_ne h3
   have hlit:litR p (l.drop (j+1)) (j+1) (bs++ [c])=R:=by rw[←hr.out,HDR.out];conv=>rhs;rw[litR,if_neg h1,if_neg h2,if_neg h3]
   have HLIT:=Lib.hid hlit
   clear hlit
   go_wp2_with (at_builtin;refine wpList_append_own _ rfl _ _ 69 rfl w.heap.size 5 i0 _ 1 1 Tryz.underlying69 hi hz0 hz1 hz2 rfl (by decide) _ _ _ rfl (ho.out.alloc _) ⟨wr.heap.size,0,none⟩ 1 1 [.int .u8 c.toNat] rfl rfl (cell_one_new wr _ _) (by intro u hu;simp at hu;subst hu;rfl) (by unfold maxLen;omega) (by omega) (by have:=hb.size;simp;omega) ?_;intro v1 w1 ho1 hg1 _)
   have hb1:Below w.heap.size w w1:=grown_below (hb.alloc hb.size _) (ho.out.alloc _) (by have:=hb.size;simp;omega) hg1
   go_wp2_with fail
   go_roundw
   case rel=>exact⟨j+1,bs++ [c],by omega,by simp;omega,by go_num,Lib.hid (by simpa[Lib.byteCells] using ho1),HLIT,hb1⟩
   case measure=>simp[intOf];omega
  ·obtain rfl:j=l.length:=by omega
   have hfin:R= .bad 11 p:=by rw[←hr.out,List.drop_length,litR]
   have HFI:=Lib.hid hfin
   clear hfin
   go_wp2_with fail
   refine(lexWrong_any _ _ _).mono ?_
   rintro e w' ⟨rfl,hw'⟩
   have he:ErrAt w' wr.heap.size 11 p:=by rw[hw'];exact heap_alloc_new wr _
   have hb':Below w.heap.size w w':=by rw[hw'];exact hb.alloc hb.size _
   have HE:=Lib.hid he
   clear hw' he
   go_wp2_with fail
   refine bodyPost_ret (lit_result _ _ _ _ _ rfl rfl rfl) rfl ?_
   exact⟨hb',.inr ⟨11,p,_,HFI.out,rfl,hb.size,HE.out⟩⟩
def hexOf (n:Nat):UInt8:=([48,49,50,51,52,53,54,55,56,57,97,98,99,100,101,102]:List UInt8).getD n 0
def quoteC (c:UInt8):List UInt8:=if c=34∨c=92 then [92,c] else if c=10 then [92,110] else if c=9 then [92,116] else if c.toNat<32∨126<c.toNat then [92,120,hexOf (c.toNat/16),hexOf (c.toNat % 16)] else [c]
def quoteL:List UInt8→List UInt8
 | []=> []
 |c::r=>quoteC c++quoteL r
theorem own_not {W:World} {B n g m:Nat} {v:Value} {xs:List Value} {row:Array Value} (h:W.ownsRow B 5 1 v n xs) (hr:W.heap[g]? =some (.cells row 5 (m,m+1))):v.ownBlock≠some g:=by
 intro e
 rcases h.2 with⟨rfl,_⟩|⟨g',cap,cur,rfl,_,hg,_⟩
 ·cases e
 ·have e':g'=g:=by injection e
  subst e'
  rw[hr] at hg
  injection hg with h1
  injection h1 with _ _ h3
  injection h3 with h4 h5
  omega
theorem quote_step {w wr w1:World} {R bs:List UInt8} {l:List UInt8} {j:Nat} {c:UInt8} {v _v1:Value} {row:Array Value} {m:Nat} (q:List UInt8) (hq:quoteC c=q) (hb:Below w.heap.size w wr) (hg0:w.heap.size+1<wr.heap.size)
  (ho:wr.ownsRow w.heap.size 5 1 v bs.length (Lib.byteCells bs)) (hrow:wr.heap[w.heap.size+1]? =some (.cells row 5 (m,m+1))) (hR:bs++quoteL (l.drop j)=R) (hd:l.drop j=c::l.drop (j+1))
  (hg:wr.grownBy w1 v.ownBlock):Below w.heap.size w w1∧w1.heap[w.heap.size+1]? =some (.cells row 5 (m,m+1))∧(bs++q)++quoteL (l.drop (j+1))=R∧w.heap.size+1<w1.heap.size:=by
 subst hq
 refine⟨grown_below hb ho hb.size hg, ?_, ?_,Nat.lt_of_lt_of_le hg0 hg.size⟩
 ·rw[hg.block _ hg0 (fun e=>own_not ho hrow e.symm)]
  exact hrow
 ·rw[←hR,hd,quoteL,List.append_assoc]
theorem bytesRow_get (l:List UInt8) (cap j:Nat) (c:UInt8) (h:l[j]? =some c):(bytesRow ⟨⟨l⟩⟩ cap)[j]? =some (.int .u8 c.toNat):=by
 have hj:=(List.getElem?_eq_some_iff.1 h).1
 unfold bytesRow
 rw[Array.getElem?_append_left (by simpa using hj)]
 simp[h]
theorem row_news {W:World} {g:Nat} {cs:List Value} {fz:Nat×Nat} (h:W.heap[g]? =some (.cells cs.toArray 5 fz)):∀j u,cs[j]? =some u→W.cell? ((⟨g,0,none⟩:Addr).add j)=some u:=by
 intro j u hu
 have:=cell_of_row W g j _ _ _ h
 rw[show((⟨g,0,none⟩:Addr).add j)=⟨g,j,none⟩ by simp[Addr.add];omega,this]
 simpa using hu
theorem wrap16 (n:Nat) (h:n<16):IntKind.u8.wrap (n:Int)=(n:Int):=by
 have:∀k:Fin 16,IntKind.u8.wrap (k.val:Int)=(k.val:Int):=by decide
 exact this ⟨n,h⟩
theorem hex_at (n:Nat) (h:n<16):∀h',(⟨#[48,49,50,51,52,53,54,55,56,57,97,98,99,100,101,102]⟩:ByteArray)[n]'h'=hexOf n:=by
 intro h'
 have:∀k:Fin 16,∀h',(⟨#[48,49,50,51,52,53,54,55,56,57,97,98,99,100,101,102]⟩:ByteArray)[k.val]'h'=hexOf k.val:=by decide
 exact this ⟨n,h⟩ h'
theorem Quote_any (l:List UInt8) (w:World) (hlen:l.length≤3000000):Calls Tryz.prog 40 #[.string ⟨⟨l⟩⟩] w fun e w'=>e= .returned (.string ⟨⟨34::quoteL l++ [34]⟩⟩)∧Below w.heap.size w w':=by
 obtain⟨R,HR⟩:∃R,Hid (34::quoteL l=R):=⟨_,rfl⟩
 rw[HR.out]
 obtain⟨i0,hi,hz0,hz1,hz2⟩:=info_parts byteInfo
 obtain⟨cp,HCP⟩:∃cp,Hid (grownCap (w.alloc (.cells #[.int .u8 34] 5)) (⟨⟨l⟩⟩:ByteArray).size 0 5=cp):=⟨_,rfl⟩
 have hconv:=run_bytes_of_string (P:=Tryz.prog) (w.alloc (.cells #[.int .u8 34] 5)) 9 69 5 ⟨⟨l⟩⟩ Tryz.underlying9 Tryz.underlying69 Tryz.underlying5
 rw[HCP.out] at hconv
 go_enter Tryz.func40,Tryz.ntmps40
 go_wp2_with fail
 go_loopw [3,10] (fun o i wr=>∃(j:Nat) (bs:List UInt8),j≤l.length∧bs.length≤4*j+1∧i= .int .i64 j∧Hid (wr.ownsRow w.heap.size 5 1 o bs.length (Lib.byteCells bs))∧Hid (wr.heap[w.heap.size+1]? =some (.cells (bytesRow ⟨⟨l⟩⟩ cp) 5 ((bytesRow ⟨⟨l⟩⟩ cp).size,(bytesRow ⟨⟨l⟩⟩ cp).size+1)))∧Hid (bs++quoteL (l.drop j)=R)∧Below w.heap.size w wr∧w.heap.size+1<wr.heap.size) (fun _ i _=>l.length-(intOf i).toNat)
 case atStart=>
  refine⟨0,[34],by omega,by simp,rfl,Lib.hid ⟨by simp[Lib.byteCells],.inr ⟨w.heap.size,1,#[.int .u8 34],rfl,Nat.le_refl _, ?_,Nat.le_refl _,by decide,rfl,rfl⟩⟩,Lib.hid ?_,Lib.hid (by rw[←HR.out];rfl), ?_,by simp⟩
  ·show((w.alloc (.cells #[.int .u8 34] 5)).alloc (.cells (bytesRow ⟨⟨l⟩⟩ cp) 5 ((bytesRow ⟨⟨l⟩⟩ cp).size,(bytesRow ⟨⟨l⟩⟩ cp).size+1))).heap[w.heap.size]? =_
   rw[heap_alloc_old _ _ (by simp)]
   exact heap_alloc_new w _
  ·have h:=heap_alloc_new (w.alloc (.cells #[.int .u8 34] 5)) (.cells (bytesRow ⟨⟨l⟩⟩ cp) 5 ((bytesRow ⟨⟨l⟩⟩ cp).size,(bytesRow ⟨⟨l⟩⟩ cp).size+1))
   rw[World.size_alloc] at h
   exact h
  ·exact((Below.refl _ _).alloc (Nat.le_refl _) _).drew.alloc (by simp) _
 case round=>
  obtain⟨j,bs,hj,hbl,rfl,ho,hrow,hr,hb,hg0⟩:=hrel
  obtain⟨A,cap,rfl,hc1,hc2⟩:=row_form ho.out
  by_cases hlt:j<l.length
  ·obtain⟨c,hc⟩:∃c,l[j]? =some c:=⟨l[j],List.getElem?_eq_getElem hlt⟩
   have hcell:wr.cell? ⟨w.heap.size+1,j,none⟩=some (.int .u8 c.toNat):=(cell_of_row _ _ j _ _ _ hrow.out).trans (bytesRow_get l cp j c hc)
   have HDR:=Lib.hid (drop_cons hc)
   have hstep:=fun(q:List UInt8) (hq:quoteC c=q) (W1:World) (hW:Below wr.heap.size wr W1) (v1:Value) (w1:World) (hg:W1.grownBy w1 (Value.slice A bs.length cap).ownBlock)=>quote_step (w1:=w1) (_v1:=v1) q hq (hb.trans (hW.mono hb.size)) (Nat.lt_of_lt_of_le hg0 hW.size) (row_under hW ho.out) ((hW.block _ hg0).trans hrow.out) hr.out HDR.out hg
   have HST:=Lib.hid hstep
   clear hstep hc
   by_cases h1:c=34∨c=92
   ·have hq:quoteC c=[92,c]:=by rw[quoteC,if_pos h1]
    have HQ:=Lib.hid hq
    clear hq
    rcases h1 with h1|h1<;>subst h1
    all_goals go_wp2_with (at_builtin;refine wpList_append_own _ rfl _ _ 69 rfl w.heap.size 5 i0 _ 1 1 Tryz.underlying69 hi hz0 hz1 hz2 rfl (by decide) _ _ _ rfl (ho.out.alloc _) ⟨wr.heap.size,0,none⟩ 2 2 [_,_] rfl rfl (row_news (fz:=(0,0)) (heap_alloc_new wr _)) (by intro u hu;simp at hu;rcases hu with rfl|rfl<;>rfl) (by unfold maxLen;omega) (by omega) (by have:=hb.size;simp;omega) ?_;intro v1 w1 ho1 hg1 _)
    all_goals obtain⟨hb1,hrow1,hr1,hg1'⟩:=HST.out _ HQ.out _ ((Below.refl _ _).alloc (Nat.le_refl _) _) v1 w1 hg1
    all_goals go_wp2_with fail
    all_goals go_roundw
    case rel=>exact⟨j+1,bs++ [92,34],by omega,by simp;omega,by go_num,Lib.hid (by simpa[Lib.byteCells] using ho1),Lib.hid hrow1,Lib.hid hr1,hb1,hg1'⟩
    case measure=>simp[intOf];omega
    case rel=>exact⟨j+1,bs++ [92,92],by omega,by simp;omega,by go_num,Lib.hid (by simpa[Lib.byteCells] using ho1),Lib.hid hrow1,Lib.hid hr1,hb1,hg1'⟩
    case measure=>simp[intOf];omega
   have n1:((c.toNat:Int)==34)=false:=u8_ne (fun e=>h1 (.inl e))
   have n2:((c.toNat:Int)==92)=false:=u8_ne (fun e=>h1 (.inr e))
   by_cases h3:c=10
   ·subst h3
    have HQ:=Lib.hid (show quoteC 10=[92,110] from rfl)
    go_wp2_with (at_builtin;refine Lib.wpList_append_own_string _ rfl _ _ 69 9 rfl w.heap.size 5 i0 Tryz.underlying69 Tryz.underlying9 hi hz0 hz1 hz2 _ _ _ rfl ho.out ⟨#[92,110]⟩ rfl (show bs.length+2≤maxLen by unfold maxLen;omega) (show bs.length+2≤_ by omega) hb.size ?_;intro v1 w1 ho1 hg1 _)
    obtain⟨hb1,hrow1,hr1,hg1'⟩:=HST.out _ HQ.out _ (Below.refl _ _) v1 w1 hg1
    go_wp2_with fail
    go_roundw
    case rel=>exact⟨j+1,bs++ [92,110],by omega,by simp;omega,by go_num,Lib.hid (by have h:=ho1;rw[show(⟨#[92,110]⟩:ByteArray).size=2 from rfl] at h;simpa[Lib.byteCells,Lib.strCells] using h),Lib.hid hrow1,Lib.hid hr1,hb1,hg1'⟩
    case measure=>simp[intOf];omega
   by_cases h4:c=9
   ·subst h4
    have HQ:=Lib.hid (show quoteC 9=[92,116] from rfl)
    go_wp2_with (at_builtin;refine Lib.wpList_append_own_string _ rfl _ _ 69 9 rfl w.heap.size 5 i0 Tryz.underlying69 Tryz.underlying9 hi hz0 hz1 hz2 _ _ _ rfl ho.out ⟨#[92,116]⟩ rfl (show bs.length+2≤maxLen by unfold maxLen;omega) (show bs.length+2≤_ by omega) hb.size ?_;intro v1 w1 ho1 hg1 _)
    obtain⟨hb1,hrow1,hr1,hg1'⟩:=HST.out _ HQ.out _ (Below.refl _ _) v1 w1 hg1
    go_wp2_with fail
    go_roundw
    case rel=>exact⟨j+1,bs++ [92,116],by omega,by simp;omega,by go_num,Lib.hid (by have h:=ho1;rw[show(⟨#[92,116]⟩:ByteArray).size=2 from rfl] at h;simpa[Lib.byteCells,Lib.strCells] using h),Lib.hid hrow1,Lib.hid hr1,hb1,hg1'⟩
    case measure=>simp[intOf];omega
   have n3:((c.toNat:Int)==10)=false:=u8_ne h3
   have n4:((c.toNat:Int)==9)=false:=u8_ne h4
   by_cases h5:c.toNat<32∨126<c.toNat
   ·have hc256:c.toNat<256:=c.toNat_lt
    obtain⟨d,hd⟩:∃d,d=c.toNat/16:=⟨_,rfl⟩
    obtain⟨m,hm⟩:∃m,m=c.toNat % 16:=⟨_,rfl⟩
    have HQ:=Lib.hid (show quoteC c=[92,120,hexOf d,hexOf m] by rw[hd,hm,quoteC,if_neg h1,if_neg h3,if_neg h4,if_pos h5])
    have d16:d<16:=by omega
    have m16:m<16:=by omega
    have d16':(d:Int)<16:=by omega
    have m16':(m:Int)<16:=by omega
    have ed:(c.toNat:Int)/16=(d:Int):=by omega
    have em:(c.toNat:Int).tmod 16=(m:Int):=by rw[Int.tmod_eq_emod_of_nonneg (by omega)];omega
    have wd:IntKind.u8.wrap (d:Int)=(d:Int):=wrap16 d d16
    have wm:IntKind.u8.wrap (m:Int)=(m:Int):=wrap16 m m16
    have xd:=hex_at d d16
    have xm:=hex_at m m16
    clear hd hm
    by_cases h6:c.toNat<32
    ·have h6':((c.toNat:Int)<32)=True:=by simp;omega
     go_upto_region 13 with fail
     refine wp_region_held_drew (S:=fun _=>True) (by kernel_rfl) trivial (fun _=> ?_)
     refine wpAnyH_take (i:=0) (v:= ?_) rfl (by kernel_rfl) (by kernel_rfl) (by kernel_rfl) (fun _ _ _ h=>h) (Or.inl ⟨by rfl, ?_⟩) trivial ?_
     rotate_left
     ·(intro w _;go_simp;try with_reducible rfl)
     try simp only[Act.put,List.getElem_toArray,List.getElem_cons_zero,List.setIfInBounds_toArray,List.set_cons_zero,List.set_cons_succ]
     refine wpAnyH_take (i:=1) (v:= ?_) rfl (by kernel_rfl) (by kernel_rfl) (by kernel_rfl) (fun _ _ _ h=>h) (Or.inl ⟨by rfl, ?_⟩) trivial ?_
     rotate_left
     ·(intro w _;go_simp;try with_reducible rfl)
     try simp only[nmC]
     refine wpAnyH_take (i:=2) (v:= ?_) rfl (by kernel_rfl) (by kernel_rfl) (by kernel_rfl) (fun _ _ _ h=>h) (Or.inl ⟨by rfl, ?_⟩) trivial ?_
     rotate_left
     ·(intro w _;go_simp;try with_reducible rfl)
     try simp only[nmC]
     refine wpAnyH_take (i:=3) (v:= ?_) rfl (by kernel_rfl) (by kernel_rfl) (by kernel_rfl) (fun _ _ _ h=>h) (Or.inl ⟨by rfl, ?_⟩) trivial ?_
     rotate_left
     ·(intro w _;go_simp;try with_reducible rfl)
     try simp only[nmC]
     refine wpAnyH_take (i:=4) (v:= ?_) rfl (by kernel_rfl) (by kernel_rfl) (by kernel_rfl) (fun _ _ _ h=>h) (Or.inl ⟨by rfl, ?_⟩) trivial ?_
     rotate_left
     ·(intro w _;go_simp;try with_reducible rfl)
     try simp only[nmC]
     refine wpAnyH_take (i:=5) (v:= ?_) rfl (by kernel_rfl) (by kernel_rfl) (by kernel_rfl) (fun _ _ _ h=>h) (Or.inl ⟨by rfl, ?_⟩) trivial ?_
     rotate_left
     ·(intro w _;go_simp;try with_reducible rfl)
     try simp only[nmC]
     refine wpAnyH_take (i:=6) (v:= ?_) rfl (by kernel_rfl) (by kernel_rfl) (by kernel_rfl) (fun _ _ _ h=>h) (Or.inl ⟨by rfl, ?_⟩) trivial ?_
     rotate_left
     ·(intro w _;go_simp;try with_reducible rfl)
     try simp only[nmC]
     refine wpAnyH_ready (rs:=[7]) (by kernel_rfl) (by simp) ?_
     refine AllReadyH.cons rfl (fun KK hKK=> ?_) AllReadyH.nil
     go_simp
     go_wp2_with fail
     refine hKK.out _ _ trivial (fun _=> ?_)
     clear hKK KK
     try simp only[nmC]
     refine wpAnyH_ready (rs:=[8]) (by kernel_rfl) (by simp) ?_
     refine AllReadyH.cons rfl (fun KK hKK=> ?_) AllReadyH.nil
     rw[if_pos (by rfl)]
     refine wp_append_own _ _ _ 69 rfl w.heap.size 5 i0 _ 1 1 Tryz.underlying69 hi hz0 hz1 hz2 rfl (by decide) _ _ _ rfl (row_under ((Below.refl _ _).drew.alloc (Nat.le_refl _) _) ho.out) ⟨wr.heap.size,0,none⟩ 4 4 [_,_,_,_] rfl rfl (row_news (fz:=(0,0)) (heap_alloc_new wr.drew _)) (by intro u hu;simp at hu;rcases hu with rfl|rfl|rfl|rfl<;>rfl) (by unfold maxLen;omega) (by omega) (by have:=hb.size;simp;omega) ?_
     intro v1 w1 ho1 hg1 _
     refine hKK.out _ _ trivial (fun _=> ?_)
     clear hKK KK
     try simp only[nmC]
     refine wpAnyH_take (i:=9) (v:= ?_) rfl (by kernel_rfl) (by kernel_rfl) (by kernel_rfl) (fun _ _ _ h=>h) (Or.inl ⟨by rfl, ?_⟩) trivial ?_
     rotate_left
     ·(intro w _;go_simp;try with_reducible rfl)
     try simp only[nmC]
     refine wpAnyH_done (by kernel_rfl) ?_ _
     obtain⟨hb1,hrow1,hr1,hg1'⟩:=HST.out _ HQ.out _ ((Below.refl _ _).drew.alloc (Nat.le_refl _) _) v1 w1 hg1
     go_wp2_with fail
     go_roundw
     case rel=>exact⟨j+1,bs++ [92,120,hexOf d,hexOf m],by omega,by simp;omega,by go_num,Lib.hid (by simpa[Lib.byteCells] using ho1),Lib.hid hrow1,Lib.hid hr1,hb1,hg1'⟩
     case measure=>simp[intOf];omega
    ·have h6':((c.toNat:Int)<32)=False:=by simp;omega
     have h7:((126:Int)<(c.toNat:Int))=True:=by simp;omega
     go_upto_region 13 with fail
     refine wp_region_held_drew (S:=fun _=>True) (by kernel_rfl) trivial (fun _=> ?_)
     refine wpAnyH_take (i:=0) (v:= ?_) rfl (by kernel_rfl) (by kernel_rfl) (by kernel_rfl) (fun _ _ _ h=>h) (Or.inl ⟨by rfl, ?_⟩) trivial ?_
     rotate_left
     ·(intro w _;go_simp;try with_reducible rfl)
     try simp only[Act.put,List.getElem_toArray,List.getElem_cons_zero,List.setIfInBounds_toArray,List.set_cons_zero,List.set_cons_succ]
     refine wpAnyH_take (i:=1) (v:= ?_) rfl (by kernel_rfl) (by kernel_rfl) (by kernel_rfl) (fun _ _ _ h=>h) (Or.inl ⟨by rfl, ?_⟩) trivial ?_
     rotate_left
     ·(intro w _;go_simp;try with_reducible rfl)
     try simp only[nmC]
     refine wpAnyH_take (i:=2) (v:= ?_) rfl (by kernel_rfl) (by kernel_rfl) (by kernel_rfl) (fun _ _ _ h=>h) (Or.inl ⟨by rfl, ?_⟩) trivial ?_
     rotate_left
     ·(intro w _;go_simp;try with_reducible rfl)
     try simp only[nmC]
     refine wpAnyH_take (i:=3) (v:= ?_) rfl (by kernel_rfl) (by kernel_rfl) (by kernel_rfl) (fun _ _ _ h=>h) (Or.inl ⟨by rfl, ?_⟩) trivial ?_
     rotate_left
     ·(intro w _;go_simp;try with_reducible rfl)
     try simp only[nmC]
     refine wpAnyH_take (i:=4) (v:= ?_) rfl (by kernel_rfl) (by kernel_rfl) (by kernel_rfl) (fun _ _ _ h=>h) (Or.inl ⟨by rfl, ?_⟩) trivial ?_
     rotate_left
     ·(intro w _;go_simp;try with_reducible rfl)
     try simp only[nmC]
     refine wpAnyH_take (i:=5) (v:= ?_) rfl (by kernel_rfl) (by kernel_rfl) (by kernel_rfl) (fun _ _ _ h=>h) (Or.inl ⟨by rfl, ?_⟩) trivial ?_
     rotate_left
     ·(intro w _;go_simp;try with_reducible rfl)
     try simp only[nmC]
     refine wpAnyH_take (i:=6) (v:= ?_) rfl (by kernel_rfl) (by kernel_rfl) (by kernel_rfl) (fun _ _ _ h=>h) (Or.inl ⟨by rfl, ?_⟩) trivial ?_
     rotate_left
     ·(intro w _;go_simp;try with_reducible rfl)
     try simp only[nmC]
     refine wpAnyH_ready (rs:=[7]) (by kernel_rfl) (by simp) ?_
     refine AllReadyH.cons rfl (fun KK hKK=> ?_) AllReadyH.nil
     go_simp
     go_wp2_with fail
     refine hKK.out _ _ trivial (fun _=> ?_)
     clear hKK KK
     try simp only[nmC]
     refine wpAnyH_ready (rs:=[8]) (by kernel_rfl) (by simp) ?_
     refine AllReadyH.cons rfl (fun KK hKK=> ?_) AllReadyH.nil
     rw[if_pos (by rfl)]
     refine wp_append_own _ _ _ 69 rfl w.heap.size 5 i0 _ 1 1 Tryz.underlying69 hi hz0 hz1 hz2 rfl (by decide) _ _ _ rfl (row_under ((Below.refl _ _).drew.alloc (Nat.le_refl _) _) ho.out) ⟨wr.heap.size,0,none⟩ 4 4 [_,_,_,_] rfl rfl (row_news (fz:=(0,0)) (heap_alloc_new wr.drew _)) (by intro u hu;simp at hu;rcases hu with rfl|rfl|rfl|rfl<;>rfl) (by unfold maxLen;omega) (by omega) (by have:=hb.size;simp;omega) ?_
     intro v1 w1 ho1 hg1 _
     refine hKK.out _ _ trivial (fun _=> ?_)
     clear hKK KK
     try simp only[nmC]
     refine wpAnyH_take (i:=9) (v:= ?_) rfl (by kernel_rfl) (by kernel_rfl) (by kernel_rfl) (fun _ _ _ h=>h) (Or.inl ⟨by rfl, ?_⟩) trivial ?_
     rotate_left
     ·(intro w _;go_simp;try with_reducible rfl)
     try simp only[nmC]
     refine wpAnyH_done (by kernel_rfl) ?_ _
     obtain⟨hb1,hrow1,hr1,hg1'⟩:=HST.out _ HQ.out _ ((Below.refl _ _).drew.alloc (Nat.le_refl _) _) v1 w1 hg1
     go_wp2_with fail
     go_roundw
     case rel=>exact⟨j+1,bs++ [92,120,hexOf d,hexOf m],by omega,by simp;omega,by go_num,Lib.hid (by simpa[Lib.byteCells] using ho1),Lib.hid hrow1,Lib.hid hr1,hb1,hg1'⟩
     case measure=>simp[intOf];omega
   ·have HQ:=Lib.hid (show quoteC c=[c] by rw[quoteC,if_neg h1,if_neg h3,if_neg h4,if_neg h5])
    have h6:((c.toNat:Int)<32)=False:=by simp;omega
    have h7:((126:Int)<(c.toNat:Int))=False:=by simp;omega
    go_wp2_with (at_builtin;refine wpList_append_own _ rfl _ _ 69 rfl w.heap.size 5 i0 _ 1 1 Tryz.underlying69 hi hz0 hz1 hz2 rfl (by decide) _ _ _ rfl (ho.out.alloc _) ⟨wr.heap.size,0,none⟩ 1 1 [.int .u8 c.toNat] rfl rfl (cell_one_new wr _ _) (by intro u hu;simp at hu;subst hu;rfl) (by unfold maxLen;omega) (by omega) (by have:=hb.size;simp;omega) ?_;intro v1 w1 ho1 hg1 _)
    obtain⟨hb1,hrow1,hr1,hg1'⟩:=HST.out _ HQ.out _ ((Below.refl _ _).alloc (Nat.le_refl _) _) v1 w1 hg1
    go_wp2_with fail
    go_roundw
    case rel=>exact⟨j+1,bs++ [c],by omega,by simp;omega,by go_num,Lib.hid (by simpa[Lib.byteCells] using ho1),Lib.hid hrow1,Lib.hid hr1,hb1,hg1'⟩
    case measure=>simp[intOf];omega
  ·obtain rfl:j=l.length:=by omega
   have hbs:bs=R:=by
    have h:=hr.out
    rw[List.drop_length,quoteL,List.append_nil] at h
    exact h
   subst hbs
   go_wp2_with (at_builtin;refine wpList_append_own _ rfl _ _ 69 rfl w.heap.size 5 i0 _ 1 1 Tryz.underlying69 hi hz0 hz1 hz2 rfl (by decide) _ _ _ rfl (ho.out.alloc _) ⟨wr.heap.size,0,none⟩ 1 1 [.int .u8 34] rfl rfl (cell_one_new wr _ _) (by intro u hu;simp at hu;subst hu;rfl) (by unfold maxLen;omega) (by omega) (by have:=hb.size;simp;omega) ?_;intro v1 w1 ho1 hg1 _;have hback:=run_bytes_own w1 w.heap.size v1 (bs++ [34]) (by simpa[Lib.byteCells] using ho1))
   have hb1:Below w.heap.size w w1:=grown_below (hb.alloc hb.size _) (ho.out.alloc _) (by have:=hb.size;simp;omega) hg1
   go_wp2_with fail
   go_ret
   exact⟨rfl,hb1⟩
def splitC (c:UInt8):List UInt8→List (List UInt8)
 | []=> [[]]
 |x::r=>if x=c then []::splitC c r else match splitC c r with
  | []=> [[x]]
  |y::ys=>(x::y)::ys
def splitM (c:UInt8):Nat→List UInt8→List (List UInt8)
 |0,s=> [s]
 |n+1,s=>match cutAt c s with
  |(t,none)=> [t]
  |(t,some r)=>t::splitM c n r
def intOfL (s:List UInt8):Option Int:=match Lib.parseIntB 64 s with
 | .ok n=>if Lib.itoa n=s then some n else none
 |_=>none
def nodup:List (List UInt8)→Bool
 | []=>true
 |x::r=> !r.contains x&&nodup r
def namesB (s:List UInt8) (n:Int):Bool:=
 (splitC 32 s).all nameL&&(nodup ((splitC 32 s).drop 1)&&decide (((splitC 32 s).length:Int)=n))
def hexV (c:UInt8):Option Nat:=if 48≤c.toNat∧c.toNat≤57 then some (c.toNat-48) else if 97≤c.toNat∧c.toNat≤102 then some (c.toNat-87) else none
def hexNum:List UInt8→Nat→Option Nat
 | [],n=>some n
 |c::r,n=>match hexV c with
  |none=>none
  |some d=>hexNum r (16*n+d)
def floatBitsB (s:List UInt8):Bool:=decide (s.length=16)&&match hexNum s 0 with
 |none=>false
 |some n=> !(n/4503599627370496 % 2048==2047&& !(n % 4503599627370496==0))||n==0x7FF8000000000001
def saysB (x:Ci):Bool:=
 let s:=x.text.data.toList
 match (formOf x.op).text with
 |12=>(intOfL s).isSome
 |13=>floatBitsB s
 |14=>decide (s.length≤65536)
 |15=>typedB s (x.a==1) false
 |16=>amongB unaryW s
 |17=>amongB binaryW s
 |18=>amongB truthW s
 |19=>typedB s false false
 |20=>nameL s
 |21=>namesB s 2
 |22=>namesB s (x.a+1)
 |23=>(x.a==2&&s.isEmpty)||(decide (x.a<2)&&typedB s (x.a==1) true)
 |24=>amongB builtW s
 |_=>s.isEmpty
def numberedB (p:Cp) (f:Nat) (x:Ci):Bool:=
 match p.funcs[f]? with
 |none=>false
 |some o=>
  let below (n:Int):Bool:=decide (0≤x.a)&&decide (x.a<n)
  match (formOf x.op).a with
  |0=>x.a==0
  |1=>below 2
  |2=>below 3
  |3=>below o.slots
  |4=>below p.globals.length
  |5=>below o.taken.length
  |6=>decide (1≤x.a)&&decide (x.a≤7)
  |7=>below 20001
  |8=>below 31
  |9=>decide (0<x.a)&&(match p.funcs[x.a.toNat]? with
   |none=>false
   |some g=>g.around== -1||g.around==f)
  |10=>below o.code.length
  |11=>x.a==2||x.a==3
  |_=>below 0
def fineB (p:Cp) (f:Nat) (code:List Ci) (k:Nat) (x:Ci):Bool:=
 !(formOf x.op).word.isEmpty&&(decide (0≤x.at_)&&(decide (x.at_≤60000)&&(numberedB p f x&&(saysB x&&
  ((x.b==0||(x.op==26&&(x.b==1||(x.a==2&&(x.b==2||x.b==3)))))&&
   ((!goesB x.op||(decide ((k:Int)<x.a)||(match code[x.a.toNat]? with
    |none=>false
    |some y=>y.op==1||y.op==2)))&&
    (decide (k+1<code.length)||(x.op==50||x.op==34))))))))
structure Cwr where
 code:Int
 at_:Int
 ins:Option Int
def headsFrom (fs:List Cf) (i:Nat) (l:List Cf) (old:List (List UInt8)):Option Nat:=match l with
 | []=>none
 |f::r=>if headedB fs i f old then headsFrom fs (i+1) r (if i≠0∧f.around= -1 then f.name.data.toList::old else old) else some i
def fineFrom (p:Cp) (f:Nat) (code:List Ci) (k:Nat) (l:List Ci):Option Nat:=match l with
 | []=>none
 |x::r=>if fineB p f code k x then fineFrom p f code (k+1) r else some k
def codesFrom (p:Cp) (i:Nat) (l:List Cf):Option Cwr:=match l with
 | []=>none
 |f::r=>if f.code=[] then some ⟨130,i,none⟩ else match fineFrom p i f.code 0 f.code with
  |some k=>some ⟨130,i,some k⟩
  |none=>codesFrom p (i+1) r
def fitsFrom (i:Nat) (l:List Cf):Option Cwr:=match l with
 | []=>none
 |f::r=>match fitsP f.code with
  |some k=>some ⟨130,i,some k⟩
  |none=>fitsFrom (i+1) r
def rightC (p:Cp):Option Cwr:=
 if p.funcs.length<1∨20000<p.funcs.length∨20000<p.globals.length∨60000<IntKind.i64.wrap (manySum p.funcs) then some ⟨22,0,none⟩
 else match manyFrom p.funcs 0 with
 |some i=>some ⟨22,i,none⟩
 |none=>if !globalsB [] (p.globals.map fun s=>s.data.toList) then some ⟨130,0,none⟩ else match headsFrom p.funcs 0 p.funcs [] with
  |some i=>some ⟨130,i,none⟩
  |none=>match codesFrom p 0 p.funcs with
   |some w=>some w
   |none=>fitsFrom 0 p.funcs
def wordsL (w:List UInt8) (l:List Int):List UInt8:=w++l.flatMap fun n=>32::Lib.itoa n
def instL (x:Ci):List UInt8:=wordsL (9::(formOf x.op).word) [x.a,x.b,x.at_]++((if x.text.data.toList=[] then [] else 32::(34::quoteL x.text.data.toList++ [34]))++ [10])
def funcL (f:Cf):List UInt8:=wordsL (wordsL ([102,117,110,99,32]++(if f.name.data.toList=[] then [45] else f.name.data.toList)) [f.params,f.slots,f.around]) f.taken++(10::f.code.flatMap instL)
def listL (p:Cp):List UInt8:=[103,108,111,98,97,108,115]++(p.globals.flatMap (fun s=>32::s.data.toList)++(10::p.funcs.flatMap funcL))
def intsL:List (List UInt8)→Option (List Int)
 | []=>some []
 |s::r=>match intOfL s,intsL r with
  |some n,some l=>some (n::l)
  |_,_=>none
def openedL (l:List (List UInt8)):Option Cf:=match l with
 |w::n::a::b::c::r=>if w≠ [102,117,110,99]∨n=[] then none else match intsL (a::b::c::r) with
  |some (p::s::o::t)=>some ⟨⟨⟨if n=[45] then [] else n⟩⟩,p,s,t,o,[]⟩
  |_=>none
 |_=>none
def opFrom (s:List UInt8):Nat→Nat→Nat
 |0,_=>0
 |f+1,op=>if(formOf op).word==s then op else opFrom s f (op+1)
def operationL (s:List UInt8):Nat:=opFrom s 53 1
def unquoteL (s:List UInt8):Option (List UInt8):=match s with
 |34::r=>match litR 0 r 1 [] with
  | .ok (t,next)=>if next<s.length∨65536<t.length then none else some t
  | .bad _ _=>none
 |_=>none
def instR (s:List UInt8):Option Ci:=match splitM 32 4 s with
 |w::a::b::c::t=>match intsL [a,b,c] with
  |some [x,y,z]=>if operationL w=0 then none else match t with
   | []=>some ⟨operationL w,x,y,⟨#[]⟩,z⟩
   |q::_=>match unquoteL q with
    |some u=>if u=[]∨34::quoteL u++ [34]≠q then none else some ⟨operationL w,x,y,⟨⟨u⟩⟩,z⟩
    |none=>none
  |_=>none
 |_=>none
def lineL (p:Cp) (i:Nat) (s:List UInt8):Option Cp:=
 if i=0 then match splitC 32 s with
  |w::r=>if r.contains []∨w≠ [103,108,111,98,97,108,115] then none else some {p with globals:=r.map fun s=>⟨⟨s⟩⟩}
  | []=>none
 else match s with
  |9::r=>match instR r,p.funcs.getLast? with
   |some x,some f=>some {p with funcs:=p.funcs.dropLast++ [{f with code:=f.code++ [x]}]}
   |_,_=>none
  |_=>(openedL (splitC 32 s)).map fun f=> {p with funcs:=p.funcs++ [f]}
def linesL:Nat→List UInt8→Nat→Cp→Cp×Option Nat
 |0,_,i,p=>(p,some i)
 |f+1,s,i,p=>if s=[] then(p,none) else match cutAt 10 s with
  |(_,none)=>(p,some (i+1))
  |(x,some r)=>match lineL p i x with
   |none=>(p,some (i+1))
   |some q=>linesL f r (i+1) q
def readL (s:List UInt8):Cp×Option Nat:=if s=[] then(⟨[],[]⟩,some 1) else linesL (s.length+1) s 0 ⟨[],[]⟩
theorem cutAt_spec (c:UInt8):∀s:List UInt8,((cutAt c s).2=none→(cutAt c s).1=s∧Lib.indexByte s c= -1)∧∀r,(cutAt c s).2=some r→Lib.indexByte s c=((cutAt c s).1.length:Int)∧s=(cutAt c s).1++c::r
 | []=>⟨fun _=>⟨rfl,rfl⟩,fun r h=>(by cases h)⟩
 |x::q=>by
  have ih:=cutAt_spec c q
  by_cases hx:x=c
  ·subst hx
   rw[cutAt,if_pos rfl]
   refine⟨fun h=>(by cases h),fun r h=> ?_⟩
   cases h
   refine⟨?_,rfl⟩
   rw[Lib.indexByte,if_pos (by simp)];rfl
  ·rw[cutAt,if_neg hx]
   have hb:¬(x==c)=true:=by simp[hx]
   refine⟨fun h=> ?_,fun r h=> ?_⟩
   ·obtain⟨h1,h2⟩:=ih.1 h
    refine⟨by rw[h1], ?_⟩
    rw[Lib.indexByte,if_neg hb,if_pos (by rw[h2];rfl)]
   ·obtain⟨h1,h2⟩:=ih.2 r h
    refine⟨?_,by rw[List.cons_append,←h2]⟩
    rw[Lib.indexByte,if_neg hb,h1,if_neg (by simp)]
    simp
theorem cut_one (s:List UInt8) (c:UInt8):Lib.cut s [c]=match cutAt c s with
  |(_,none)=>(s,[],false)
  |(t,some r)=>(t,r,true):=by
 obtain⟨h1,h2⟩:=cutAt_spec c s
 unfold Lib.cut
 rw[Lib.index_one]
 rcases hc:cutAt c s with⟨t,r⟩
 cases r with
 |none=>
  rw[hc] at h1
  rw[(h1 rfl).2,if_neg (by decide)]
 |some r=>
  rw[hc] at h2
  obtain⟨h3,h4⟩:=h2 r rfl
  rw[h3,if_pos (by omega)]
  simp only at h4
  rw[h4]
  simp
theorem splitC_cut (c:UInt8):∀s:List UInt8,splitC c s=match cutAt c s with
  |(t,none)=> [t]
  |(t,some r)=>t::splitC c r
 | []=>rfl
 |x::q=>by
  by_cases hx:x=c
  ·rw[splitC,if_pos hx,cutAt,if_pos hx]
  ·rw[splitC,if_neg hx,cutAt,if_neg hx,splitC_cut c q]
   rcases cutAt c q with⟨t,_|r⟩<;>rfl
theorem splitK_one (c:UInt8):∀(k:Nat) (s:List UInt8),Lib.splitK [c] 0 k s=splitM c k s
 |0,_=>rfl
 |k+1,s=>by
  obtain⟨h1,h2⟩:=cutAt_spec c s
  rw[Lib.splitK,splitM,Lib.index_one]
  rcases hc:cutAt c s with⟨t,r⟩
  rw[hc] at h1 h2
  cases r with
  |none=>rw[(h1 rfl).2,if_pos (by decide)];exact congrArg (fun z=> [z]) (h1 rfl).1.symm
  |some r=>
   obtain⟨h3,h4⟩:=h2 r rfl
   rw[h3,if_neg (by simp),splitK_one c k]
   simp only at h4
   rw[h4]
   simp
theorem count_cut (c:UInt8) (s:List UInt8):((cutAt c s).2=none→s.count c=0)∧∀r,(cutAt c s).2=some r→s.count c=r.count c+1:=by
 induction s with
 |nil=>exact⟨fun _=>rfl,fun r h=>(by cases h)⟩
 |cons x q ih=>
  by_cases hx:x=c
  ·rw[cutAt,if_pos hx]
   refine⟨fun h=>(by cases h),fun r h=> ?_⟩
   cases h
   rw[hx,List.count_cons_self]
  ·rw[cutAt,if_neg hx,List.count_cons_of_ne (by simpa using hx)]
   exact ih
theorem splitM_all (c:UInt8):∀(k:Nat) (s:List UInt8),s.count c≤k→splitM c k s=splitC c s
 |0,s,h=>by
  rw[splitC_cut,splitM]
  have h1:=(cutAt_spec c s).1
  have h2:=(count_cut c s).2
  rcases hc:cutAt c s with⟨t,r⟩
  rw[hc] at h1 h2
  cases r with
  |none=>exact congrArg (fun z=> [z]) (h1 rfl).1.symm
  |some r=>have:=h2 r rfl;omega
 |k+1,s,h=>by
  rw[splitC_cut,splitM]
  have h2:=(count_cut c s).2
  rcases hc:cutAt c s with⟨t,r⟩
  rw[hc] at h2
  cases r with
  |none=>rfl
  |some r=>
   have:=h2 r rfl
   simp only
   rw[splitM_all c k r (by omega)]
theorem split_one (s:ByteArray) (c:UInt8):(Lib.splitB ⟨#[c]⟩ 0 (Lib.countB s ⟨#[c]⟩) s).map (·.data.toList)=splitC c s.data.toList:=by
 rw[Lib.splitB_data,show(⟨#[c]⟩:ByteArray).data.toList=[c] from rfl,splitK_one]
 refine splitM_all c _ _ ?_
 unfold Lib.countB
 rw[show(⟨#[c]⟩:ByteArray).data.toList=[c] from rfl,Lib.count_one]
 exact Nat.le_refl _
def least:Cp:=⟨[⟨⟨#[]⟩,0,1,[],-1,[⟨7,0,0,⟨#[]⟩,0⟩,⟨50,0,0,⟨#[]⟩,0⟩]⟩],[]⟩
def leastB:List UInt8:=[71,67,48,49,0,2,0,0,2,0,1,4,14,0,0,0,0,100,0,0,0,0]
def leastL:List UInt8:=[103,108,111,98,97,108,115,10,102,117,110,99,32,45,32,48,32,49,32,45,49,10,9,110,105,108,32,48,32,48,32,48,10,9,114,101,116,117,114,110,32,48,32,48,32,48,10]
theorem least_right:rightC least=none:=by kernel_rfl
theorem least_bad:rightC ⟨[⟨⟨#[]⟩,0,0,[],-1,[⟨50,0,0,⟨#[]⟩,0⟩]⟩],[]⟩=some ⟨130,0,some 0⟩:=by kernel_rfl
theorem least_bytes:encodeB least=leastB:=by kernel_rfl
theorem least_dec:decodeD leastB=(least,none):=by kernel_rfl
theorem itoa_0:Lib.itoa 0=[48]:=by unfold Lib.itoa;rw[if_neg (by decide)];unfold Lib.decDigits;rfl
theorem itoa_1:Lib.itoa 1=[49]:=by unfold Lib.itoa;rw[if_neg (by decide)];unfold Lib.decDigits;rfl
theorem itoa_m1:Lib.itoa (-1)=[45,49]:=by unfold Lib.itoa;rw[if_pos (by decide)];unfold Lib.decDigits;rfl
theorem least_lines:listL least=leastL:=by
 simp only[listL,least,leastL,funcL,instL,wordsL,List.flatMap_cons,List.flatMap_nil,itoa_0,itoa_1,itoa_m1,List.append_nil]
 rfl
theorem int_0:intOfL [48]=some 0:=by
 unfold intOfL
 rw[show Lib.parseIntB 64 [48]= .ok 0 by rfl]
 simp only[itoa_0,if_true]
theorem int_1:intOfL [49]=some 1:=by
 unfold intOfL
 rw[show Lib.parseIntB 64 [49]= .ok 1 by rfl]
 simp only[itoa_1,if_true]
theorem int_m1:intOfL [45,49]=some (-1):=by
 unfold intOfL
 rw[show Lib.parseIntB 64 [45,49]= .ok (-1) by rfl]
 simp only[itoa_m1,if_true]
theorem least_read:readL leastL=(least,none):=by
 have l1:lineL ⟨[],[]⟩ 0 [103,108,111,98,97,108,115]=some ⟨[],[]⟩:=by kernel_rfl
 have l2:lineL ⟨[],[]⟩ 1 [102,117,110,99,32,45,32,48,32,49,32,45,49]=some ⟨[⟨⟨#[]⟩,0,1,[],-1,[]⟩],[]⟩:=by
  have hs:splitC 32 [102,117,110,99,32,45,32,48,32,49,32,45,49]=[[102,117,110,99],[45],[48],[49],[45,49]]:=by kernel_rfl
  have hi:intsL [[48],[49],[45,49]]=some [0,1,-1]:=by simp only[intsL,int_0,int_1,int_m1]
  have ho:openedL [[102,117,110,99],[45],[48],[49],[45,49]]=some ⟨⟨#[]⟩,0,1,[],-1,[]⟩:=by
   unfold openedL
   simp only[hi]
   rfl
  unfold lineL
  rw[if_neg (by decide)]
  simp only[hs,ho]
  rfl
 have hi3:intsL [[48],[48],[48]]=some [0,0,0]:=by simp only[intsL,int_0]
 have l3:lineL ⟨[⟨⟨#[]⟩,0,1,[],-1,[]⟩],[]⟩ 2 [9,110,105,108,32,48,32,48,32,48]=some ⟨[⟨⟨#[]⟩,0,1,[],-1,[⟨7,0,0,⟨#[]⟩,0⟩]⟩],[]⟩:=by
  have hx:instR [110,105,108,32,48,32,48,32,48]=some ⟨7,0,0,⟨#[]⟩,0⟩:=by
   unfold instR
   rw[show splitM 32 4 [110,105,108,32,48,32,48,32,48]=[[110,105,108],[48],[48],[48]] by kernel_rfl]
   simp only[hi3]
   rfl
  unfold lineL
  rw[if_neg (by decide)]
  simp only[hx]
  rfl
 have l4:lineL ⟨[⟨⟨#[]⟩,0,1,[],-1,[⟨7,0,0,⟨#[]⟩,0⟩]⟩],[]⟩ 3 [9,114,101,116,117,114,110,32,48,32,48,32,48]=some least:=by
  have hx:instR [114,101,116,117,114,110,32,48,32,48,32,48]=some ⟨50,0,0,⟨#[]⟩,0⟩:=by
   unfold instR
   rw[show splitM 32 4 [114,101,116,117,114,110,32,48,32,48,32,48]=[[114,101,116,117,114,110],[48],[48],[48]] by kernel_rfl]
   simp only[hi3]
   rfl
  unfold lineL
  rw[if_neg (by decide)]
  simp only[hx]
  rfl
 have c1:cutAt 10 leastL=([103,108,111,98,97,108,115],some (leastL.drop 8)):=by kernel_rfl
 have c2:cutAt 10 (leastL.drop 8)=([102,117,110,99,32,45,32,48,32,49,32,45,49],some (leastL.drop 22)):=by kernel_rfl
 have c3:cutAt 10 (leastL.drop 22)=([9,110,105,108,32,48,32,48,32,48],some (leastL.drop 33)):=by kernel_rfl
 have c4:cutAt 10 (leastL.drop 33)=([9,114,101,116,117,114,110,32,48,32,48,32,48],some []):=by kernel_rfl
 unfold readL
 rw[if_neg (by decide),show leastL.length+1=48 by rfl,linesL,if_neg (by decide),c1]
 simp only[l1]
 rw[linesL,if_neg (by decide),c2]
 simp only[l2]
 rw[linesL,if_neg (by decide),c3]
 simp only[l3]
 rw[linesL,if_neg (by decide),c4]
 simp only[l4]
 rw[linesL,if_pos rfl]
end Go.Proofs.YtdjbkppdppdcgaaGreatDoor
