/- lex.sixteenth, lex.escape, lex.literal. lex.literal. lex.Quote. -/
import Derived.Test.YtagnicbknbmccaaGreatDoorShelf
import Derived.Deep.RegionWith
import Derived.Laws.IdiomStrings
import Derived.Laws.BytesArg
import Derived.Test.YtagnicbknbmccaaGreatDoorMLex1
import Derived.Test.YtagnicbknbmccaaGreatDoorLay
import Derived.Test.YtagnicbknbmccaaGreatDoorSqC
set_option maxRecDepth 100000
set_option maxHeartbeats 4000000
namespace Go.Proofs.YtagnicbknbmccaaGreatDoor
open Go.RowKit
def six (c:UInt8):Int:=Lib.indexByte [48,49,50,51,52,53,54,55,56,57,97,98,99,100,101,102] (bits .or .u8 (c.toNat:Int) (bits .and .u8 32 (bits .and .u8 (c.toNat:Int) 64/2))).toNat.toUInt8
theorem sixteenth_any (c:UInt8) (w:World):Calls Tryz.prog 220 #[.int .u8 c.toNat] w fun e w'=>e= .returned (.int .i64 (six c))∧w'=w:=by
 go_enter Tryz.func220,Tryz.ntmps220
 go_wp2_with fail
 refine(Tryz.strings_IndexByte _ _ _).mono ?_
 rintro e w' ⟨rfl,rfl⟩
 go_wp2_with fail
 go_ret
 exact⟨rfl,rfl⟩
def escS:List UInt8→UInt8×Nat
 | []=>(0,0)
 |c::r=>if c=110 then(10,1) else if c=116 then(9,1) else if c=92∨c=34 then(c,1) else if c=120 then
   match r with
   |a::b::_=>if 0≤six a∧0≤six b then((16*six a+six b).toNat.toUInt8,3) else(0,0)
   |_=>(0,0)
  else(0,0)
theorem six_bd (c:UInt8): -1≤six c∧six c≤15:=by
 refine⟨Lib.indexByte_ge _ _, ?_⟩
 unfold six
 generalize (bits .or .u8 (c.toNat:Int) (bits .and .u8 32 (bits .and .u8 (c.toNat:Int) 64/2))).toNat.toUInt8=d
 have h:=Lib.indexByte_ge [48,49,50,51,52,53,54,55,56,57,97,98,99,100,101,102] d
 obtain⟨o,ho⟩|hm:(∃o:Nat,Lib.indexByte [48,49,50,51,52,53,54,55,56,57,97,98,99,100,101,102] d=o)∨Lib.indexByte [48,49,50,51,52,53,54,55,56,57,97,98,99,100,101,102] d= -1:=by
  by_cases h0:0≤Lib.indexByte [48,49,50,51,52,53,54,55,56,57,97,98,99,100,101,102] d
  ·exact .inl ⟨_,(Int.toNat_of_nonneg h0).symm⟩
  ·exact .inr (by omega)
 ·have:=(List.getElem?_eq_some_iff.1 (Lib.indexByte_some ho).1).1
  simp at this
  omega
 ·omega
theorem ba0 (c:UInt8) (r:List UInt8) (h:0<(⟨⟨c::r⟩⟩:ByteArray).size):(⟨⟨c::r⟩⟩:ByteArray)[0]'h=c:=rfl
theorem ba1 (c a:UInt8) (r:List UInt8) (h:1<(⟨⟨c::a::r⟩⟩:ByteArray).size):(⟨⟨c::a::r⟩⟩:ByteArray)[1]'h=a:=rfl
theorem ba2 (c a b:UInt8) (r:List UInt8) (h:2<(⟨⟨c::a::b::r⟩⟩:ByteArray).size):(⟨⟨c::a::b::r⟩⟩:ByteArray)[2]'h=b:=rfl
attribute [local go_sem] ba0 ba1 ba2
theorem u8_ne {c d:UInt8} (h:c≠d):(((c.toNat:Int)==(d.toNat:Int)))=false:=by
 simp only[beq_eq_false_iff_ne,ne_eq]
 intro e
 exact h (UInt8.toNat_inj.1 (by omega))
theorem escape_any (l:List UInt8) (w:World):Calls Tryz.prog 200 #[.string ⟨⟨l⟩⟩] w fun e w'=>e= .returned (.tuple #[.int .u8 (escS l).1.toNat,.int .i64 (escS l).2])∧Below w.heap.size w w':=by
 cases l with
 |nil=>
  go_enter Tryz.func200,Tryz.ntmps200
  go_wp2_with fail
  go_ret2
  exact⟨rfl,Below.refl _ _⟩
 |cons c r=>
  by_cases h1:c=110
  ·subst h1
   go_enter Tryz.func200,Tryz.ntmps200
   go_wp2_with fail
   go_ret2
   exact⟨rfl,Below.refl _ _⟩
  by_cases h2:c=116
  ·subst h2
   go_enter Tryz.func200,Tryz.ntmps200
   go_wp2_with fail
   go_ret2
   exact⟨rfl,Below.refl _ _⟩
  by_cases h3:c=92
  ·subst h3
   go_enter Tryz.func200,Tryz.ntmps200
   go_wp2_with fail
   go_ret2
   exact⟨rfl,Below.refl _ _⟩
  by_cases h4:c=34
  ·subst h4
   go_enter Tryz.func200,Tryz.ntmps200
   go_wp2_with fail
   go_ret2
   exact⟨rfl,Below.refl _ _⟩
  have n1:((c.toNat:Int)==110)=false:=u8_ne h1
  have n2:((c.toNat:Int)==116)=false:=u8_ne h2
  have n3:((c.toNat:Int)==92)=false:=u8_ne h3
  have n4:((c.toNat:Int)==34)=false:=u8_ne h4
  by_cases h5:c=120
  ·subst h5
   match r with
   | []=>
    go_enter Tryz.func200,Tryz.ntmps200
    go_wp2_with fail
    go_ret2
    exact⟨rfl,Below.refl _ _⟩
   | [a]=>
    go_enter Tryz.func200,Tryz.ntmps200
    go_wp2_with fail
    go_ret2
    exact⟨rfl,Below.refl _ _⟩
   |a::b::r'=>
    have HA:=Lib.hid (six_bd a)
    have HB:=Lib.hid (six_bd b)
    have HE:Hid (escS (120::a::b::r')=if 0≤six a∧0≤six b then((16*six a+six b).toNat.toUInt8,3) else(0,0)):=rfl
    have HSA:=Lib.hid (fun W=>sixteenth_any a W)
    have HSB:=Lib.hid (fun W=>sixteenth_any b W)
    obtain⟨x,hx⟩:∃x,six a=x:=⟨_,rfl⟩
    obtain⟨y,hy⟩:∃y,six b=y:=⟨_,rfl⟩
    rw[hx] at HA HE HSA
    rw[hy] at HB HE HSB
    clear hx hy
    have hA:=HA.out
    have hB:=HB.out
    go_enter Tryz.func200,Tryz.ntmps200
    go_wp2_with (first
     |(go_at_call 220;(with_reducible refine(HSA.out _).mono ?_);rintro e w' ⟨rfl,rfl⟩)
     |(go_at_call 220;(with_reducible refine(HSB.out _).mono ?_);rintro e w' ⟨rfl,rfl⟩))
    ·go_region_with (first
      |(go_at_call 220;(with_reducible refine(HSA.out _).mono ?_);rintro e w' ⟨rfl,rfl⟩)
      |(go_at_call 220;(with_reducible refine(HSB.out _).mono ?_);rintro e w' ⟨rfl,rfl⟩))
     all_goals go_wp2_with fail
     all_goals go_ret2
     all_goals refine⟨?_,(Below.refl _ _).drew⟩
     all_goals rw[HE.out,if_pos (by omega)]
     all_goals simp[Act.put]
     all_goals simp[IntKind.wrap,IntKind.bits,IntKind.signed]
     all_goals omega
    ·go_ret2
     refine⟨?_,Below.refl _ _⟩
     rw[HE.out,if_neg (by omega)]
     rfl
    ·go_ret2
     refine⟨?_,Below.refl _ _⟩
     rw[HE.out,if_neg (by omega)]
     rfl
  ·have n5:((c.toNat:Int)==120)=false:=u8_ne h5
   go_enter Tryz.func200,Tryz.ntmps200
   go_wp2_with fail
   go_ret2
   refine⟨?_,Below.refl _ _⟩
   simp[escS,h1,h2,h3,h4,h5]
inductive Rd (α:Type) where
 |ok (x:α)
 |bad (code at_:Int)
def litR (at_:Nat) (l:List UInt8) (i:Nat) (out:List UInt8):Rd (List UInt8×Nat):=
 match l with
 | []=> .bad 11 at_
 |c::r=>if c=34 then .ok (out,i+1) else if c=10 then .bad 11 at_ else if c=92 then
   (if(escS r).2=0 then .bad 11 i else litR at_ (r.drop (escS r).2) (i+1+(escS r).2) (out++ [(escS r).1]))
  else litR at_ r (i+1) (out++ [c])
termination_by l.length
decreasing_by
 ·simp;omega
 ·simp
theorem run_bytes_own (w:World) (B:Nat) (v:Value) (bs:List UInt8) (h:w.ownsRow B 5 1 v bs.length (Lib.byteCells bs)):(convert 75 9 v).run Tryz.prog w= .ok (.string ⟨⟨bs⟩⟩) w:=by
 obtain⟨A,cap,rfl,_,_⟩:=row_form h
 by_cases h0:bs.length=0
 ·obtain rfl:=List.eq_nil_of_length_eq_zero h0
  cases A with
  |none=>exact run_convert_bytes_nil w 75 5 Tryz.underlying75 Tryz.underlying5 _ _ 9 Tryz.underlying9
  |some a=>exact run_convert_bytes_back w 75 9 5 a cap [] Tryz.underlying75 Tryz.underlying5 Tryz.underlying9 (fun j hj=>by simp at hj)
 ·obtain⟨b,rfl,_,_⟩:=row_some h (by omega)
  refine run_convert_bytes_back w 75 9 5 ⟨b,0,none⟩ cap bs Tryz.underlying75 Tryz.underlying5 Tryz.underlying9 (fun j hj=> ?_)
  exact h.cells (g:=b) rfl j _ (by simp[Lib.byteCells,List.getElem?_eq_getElem hj])
def ErrAt (w:World) (b:Nat) (code at_:Int):Prop:=w.heap[b]? =some (.cells #[.int .i64 code,.int .i64 at_,.string ⟨#[]⟩] 46 (0,0))
theorem lit_result (tmps:Array Value) (W:World) (x y z:Value) (h4:tmps.getD 4 undef=x) (h5:tmps.getD 5 undef=y) (h6:tmps.getD 6 undef=z):(results Tryz.f180 tmps).run Tryz.prog W= .ok (.tuple #[x,y,z]) W:=by
 have h4':tmps[4]?.getD undef=x:=by simpa using h4
 have h5':tmps[5]?.getD undef=y:=by simpa using h5
 have h6':tmps[6]?.getD undef=z:=by simpa using h6
 simp[results,Tryz.f180,go_sem,h4',h5',h6']
theorem ba_drop (l:List UInt8) (i:Nat):(⟨⟨l⟩⟩:ByteArray).extract i l.length=⟨⟨l.drop i⟩⟩:=by
 apply ByteArray.ext
 simp
 exact List.take_of_length_le (by simp)
theorem escS_fit (l:List UInt8):(escS l).2≤l.length:=by
 unfold escS
 split
 ·simp
 ·rename_i c r
  by_cases h1:c=110
  ·simp[h1]
  ·by_cases h2:c=116
   ·simp[h2]
   ·by_cases h3:c=92∨c=34
    ·simp[h1,h2,h3]
    ·rw[if_neg h1,if_neg h2,if_neg h3]
     split
     ·split
      ·split<;>simp
      ·simp
     ·simp
theorem row_under {B e s n:Nat} {v:Value} {xs:List Value} {w w':World} (hb:Below w.heap.size w w') (h:w.ownsRow B e s v n xs):w'.ownsRow B e s v n xs:=
 h.kept (row:=none) ⟨hb.os,hb.tape,hb.output,hb.size,fun k hk _=>hb.block k hk⟩ (by cases v.ownBlock<;>simp)
theorem literal_any (l:List UInt8) (p:Nat) (w:World) (hp:p<l.length) (hlen:l.length≤1000000000):Calls Tryz.prog 180 #[.string ⟨⟨l⟩⟩,.int .i64 p] w fun e w'=>Below w.heap.size w w'∧
  ((∃out next,litR p (l.drop (p+1)) (p+1) []= .ok (out,next)∧e= .returned (.tuple #[.string ⟨⟨out⟩⟩,.int .i64 next,.pointer none]))∨
   (∃c a b,litR p (l.drop (p+1)) (p+1) []= .bad c a∧e= .returned (.tuple #[.string ⟨#[]⟩,.int .i64 0,.pointer (some ⟨b,0,none⟩)])∧w.heap.size≤b∧ErrAt w' b c a)):=by
 obtain⟨R,HR⟩:∃R,Hid (litR p (l.drop (p+1)) (p+1) []=R):=⟨_,rfl⟩
 rw[HR.out]
 obtain⟨i0,hi,hz0,hz1,hz2⟩:=info_parts byteInfo
 go_enter Tryz.func180,Tryz.ntmps180
 go_wp2_with fail
 go_loopw [7,8] (fun o i wr=>∃(j:Nat) (bs:List UInt8),j≤l.length∧bs.length≤j∧i= .int .i64 j∧Hid (wr.ownsRow w.heap.size 5 1 o bs.length (Lib.byteCells bs))∧Hid (litR p (l.drop j) j bs=R)∧Below w.heap.size w wr) (fun _ i _=>l.length-(intOf i).toNat)
 case atStart=>exact⟨p+1,[],by omega,by simp,by go_num,Lib.hid (World.ownsRow_nil _ _ _ _),HR,Below.refl _ _⟩
 case round=>
  obtain⟨j,bs,hj,hbl,rfl,ho,hr,hb⟩:=hrel
  obtain⟨A,cap,rfl,hc1,hc2⟩:=row_form ho.out
  by_cases hlt:j<l.length
  ·obtain⟨c,hc⟩:∃c,l[j]? =some c:=⟨l[j],List.getElem?_eq_getElem hlt⟩
   have hdrop:=drop_cons hc
   have hix:∀h,(⟨⟨l⟩⟩:ByteArray)[j]'h=c:=fun h=>by
    have:=(List.getElem?_eq_some_iff.1 hc).2
    exact this
   have HDR:=Lib.hid hdrop
   clear hdrop hc
   by_cases h1:c=34
   ·subst h1
    have hconv:=run_bytes_own wr w.heap.size _ bs ho.out
    have hfin:R= .ok (bs,j+1):=by rw[←hr.out,HDR.out,litR,if_pos rfl]
    have HFI:=Lib.hid hfin
    clear hfin
    go_wp2_with fail
    refine bodyPost_ret (lit_result _ _ _ _ _ rfl rfl rfl) rfl ?_
    exact⟨hb,.inl ⟨bs,j+1,HFI.out,by simp⟩⟩
   by_cases h2:c=10
   ·subst h2
    have hfin:R= .bad 11 p:=by rw[←hr.out,HDR.out,litR,if_neg (by decide),if_pos rfl]
    have HFI:=Lib.hid hfin
    clear hfin
    go_wp2_with fail
    refine(lexWrong_any _ _ _).mono ?_
    rintro e w' ⟨rfl,hw'⟩
    have he:ErrAt w' wr.heap.size 11 p:=by rw[hw'];exact heap_alloc_new wr _
    have hb':Below w.heap.size w w':=by rw[hw'];exact hb.alloc hb.size _
    have HE:=Lib.hid he
    clear hw' he
    go_wp2_with fail
    refine bodyPost_ret (lit_result _ _ _ _ _ rfl rfl rfl) rfl ?_
    exact⟨hb',.inr ⟨11,p,_,HFI.out,rfl,hb.size,HE.out⟩⟩
   by_cases h3:c=92
   ·subst h3
    have hex:(⟨⟨l⟩⟩:ByteArray).extract (j+1) l.length=⟨⟨l.drop (j+1)⟩⟩:=ba_drop l (j+1)
    have hlit:litR p (l.drop j) j bs=if(escS (l.drop (j+1))).2=0 then .bad 11 j else litR p ((l.drop (j+1)).drop (escS (l.drop (j+1))).2) (j+1+(escS (l.drop (j+1))).2) (bs++ [(escS (l.drop (j+1))).1]):=by
     rw[HDR.out,litR,if_neg (by decide),if_neg (by decide),if_pos rfl]
    rw[hr.out] at hlit
    have HES:=Lib.hid (escape_any (l.drop (j+1)))
    have hel:=escS_fit (l.drop (j+1))
    obtain⟨ec,en,hee⟩:∃ec en,escS (l.drop (j+1))=(ec,en):=⟨_,_,rfl⟩
    rw[hee] at hlit HES hel
    rw[List.length_drop] at hel
    have HLIT:=Lib.hid hlit
    clear hlit hee
    dsimp only at hel
    by_cases hn0:en=0
    ·subst hn0
     go_wp2_with (go_at_call 200;refine(HES.out _).mono ?_;rintro e w4 ⟨rfl,hb4⟩;dsimp only)
     refine(lexWrong_any _ _ _).mono ?_
     rintro e w' ⟨rfl,hw'⟩
     have he:ErrAt w' w4.heap.size 11 j:=by rw[hw'];exact heap_alloc_new w4 _
     have hb':Below w.heap.size w w':=by rw[hw'];exact(hb.trans (hb4.mono hb.size)).alloc (Nat.le_trans hb.size hb4.size) _
     have hsz4:=Nat.le_trans hb.size hb4.size
     have HE:=Lib.hid he
     clear hw' he
     go_wp2_with fail
     refine bodyPost_ret (lit_result _ _ _ _ _ rfl rfl rfl) rfl ?_
     exact⟨hb',.inr ⟨11,j,_,by rw[HLIT.out];simp,rfl,hsz4,HE.out⟩⟩
    ·have hn1:((en:Int)==0)=false:=by simp[hn0]
     go_wp2_with (first
      |(go_at_call 200;refine(HES.out _).mono ?_;rintro e w4 ⟨rfl,hb4⟩;dsimp only;have ho4:=Lib.hid (row_under hb4 ho.out))
      |(at_builtin;refine wpList_append_own _ rfl _ _ 75 rfl w.heap.size 5 i0 _ 1 1 Tryz.underlying75 hi hz0 hz1 hz2 rfl (by decide) _ _ _ rfl (ho4.out.alloc _) ⟨w4.heap.size,0,none⟩ 1 1 [.int .u8 ec.toNat] rfl rfl (cell_one_new w4 _ _) (by intro u hu;simp at hu;subst hu;rfl) (by unfold maxLen;omega) (by omega) (by have:=hb.size;have:=hb4.size;simp;omega) ?_;intro v1 w1 ho1 hg1 _))
     have hb4':Below w.heap.size w w4:=hb.trans (hb4.mono hb.size)
     have hb1:Below w.heap.size w w1:=grown_below (hb4'.alloc hb4'.size _) (ho4.out.alloc _) (by have:=hb4'.size;simp;omega) hg1
     have hl2:litR p (l.drop (j+1+en)) (j+1+en) (bs++ [ec])=R:=by
      rw[HLIT.out,if_neg hn0,List.drop_drop]
     have HL2:=Lib.hid hl2
     clear hl2
     go_wp2_with fail
     go_roundw
     case rel=>exact⟨j+1+en,bs++ [ec],by omega,by simp;omega,by go_num,Lib.hid (by simpa[Lib.byteCells] using ho1),HL2,hb1⟩
     case measure=>simp[intOf];omega
   have n1:((c.toNat:Int)==34)=false:=u8_ne h1
   have n2:((c.toNat:Int)==10)=false:=u8_ne h2
   have n3:((c.toNat:Int)==92)=false:=u8_ne h3
   have hlit:litR p (l.drop (j+1)) (j+1) (bs++ [c])=R:=by rw[←hr.out,HDR.out];conv=>rhs;rw[litR,if_neg h1,if_neg h2,if_neg h3]
   have HLIT:=Lib.hid hlit
   clear hlit
   go_wp2_with (at_builtin;refine wpList_append_own _ rfl _ _ 75 rfl w.heap.size 5 i0 _ 1 1 Tryz.underlying75 hi hz0 hz1 hz2 rfl (by decide) _ _ _ rfl (ho.out.alloc _) ⟨wr.heap.size,0,none⟩ 1 1 [.int .u8 c.toNat] rfl rfl (cell_one_new wr _ _) (by intro u hu;simp at hu;subst hu;rfl) (by unfold maxLen;omega) (by omega) (by have:=hb.size;simp;omega) ?_;intro v1 w1 ho1 hg1 _)
   have hb1:Below w.heap.size w w1:=grown_below (hb.alloc hb.size _) (ho.out.alloc _) (by have:=hb.size;simp;omega) hg1
   go_wp2_with fail
   go_roundw
   case rel=>exact⟨j+1,bs++ [c],by omega,by simp;omega,by go_num,Lib.hid (by simpa[Lib.byteCells] using ho1),HLIT,hb1⟩
   case measure=>simp[intOf];omega
  ·obtain rfl:j=l.length:=by omega
   have hfin:R= .bad 11 p:=by rw[←hr.out,List.drop_length,litR]
   have HFI:=Lib.hid hfin
   clear hfin
   go_wp2_with fail
   refine(lexWrong_any _ _ _).mono ?_
   rintro e w' ⟨rfl,hw'⟩
   have he:ErrAt w' wr.heap.size 11 p:=by rw[hw'];exact heap_alloc_new wr _
   have hb':Below w.heap.size w w':=by rw[hw'];exact hb.alloc hb.size _
   have HE:=Lib.hid he
   clear hw' he
   go_wp2_with fail
   refine bodyPost_ret (lit_result _ _ _ _ _ rfl rfl rfl) rfl ?_
   exact⟨hb',.inr ⟨11,p,_,HFI.out,rfl,hb.size,HE.out⟩⟩
def hexOf (n:Nat):UInt8:=([48,49,50,51,52,53,54,55,56,57,97,98,99,100,101,102]:List UInt8).getD n 0
def quoteC (c:UInt8):List UInt8:=if c=34∨c=92 then [92,c] else if c=10 then [92,110] else if c=9 then [92,116] else if c.toNat<32∨126<c.toNat then [92,120,hexOf (c.toNat/16),hexOf (c.toNat % 16)] else [c]
def quoteL:List UInt8→List UInt8
 | []=> []
 |c::r=>quoteC c++quoteL r
theorem own_not {W:World} {B n g m:Nat} {v:Value} {xs:List Value} {row:Array Value} (h:W.ownsRow B 5 1 v n xs) (hr:W.heap[g]? =some (.cells row 5 (m,m+1))):v.ownBlock≠some g:=by
 intro e
 rcases h.2 with⟨rfl,_⟩|⟨g',cap,cur,rfl,_,hg,_⟩
 ·cases e
 ·have e':g'=g:=by injection e
  subst e'
  rw[hr] at hg
  injection hg with h1
  injection h1 with _ _ h3
  injection h3 with h4 h5
  omega
theorem quote_step {w wr w1:World} {R bs:List UInt8} {l:List UInt8} {j:Nat} {c:UInt8} {v _v1:Value} {row:Array Value} {m:Nat} (q:List UInt8) (hq:quoteC c=q) (hb:Below w.heap.size w wr) (hg0:w.heap.size+1<wr.heap.size)
  (ho:wr.ownsRow w.heap.size 5 1 v bs.length (Lib.byteCells bs)) (hrow:wr.heap[w.heap.size+1]? =some (.cells row 5 (m,m+1))) (hR:bs++quoteL (l.drop j)=R) (hd:l.drop j=c::l.drop (j+1))
  (hg:wr.grownBy w1 v.ownBlock):Below w.heap.size w w1∧w1.heap[w.heap.size+1]? =some (.cells row 5 (m,m+1))∧(bs++q)++quoteL (l.drop (j+1))=R∧w.heap.size+1<w1.heap.size:=by
 subst hq
 refine⟨grown_below hb ho hb.size hg, ?_, ?_,Nat.lt_of_lt_of_le hg0 hg.size⟩
 ·rw[hg.block _ hg0 (fun e=>own_not ho hrow e.symm)]
  exact hrow
 ·rw[←hR,hd,quoteL,List.append_assoc]
theorem bytesRow_get (l:List UInt8) (cap j:Nat) (c:UInt8) (h:l[j]? =some c):(bytesRow ⟨⟨l⟩⟩ cap)[j]? =some (.int .u8 c.toNat):=by
 have hj:=(List.getElem?_eq_some_iff.1 h).1
 unfold bytesRow
 rw[Array.getElem?_append_left (by simpa using hj)]
 simp[h]
theorem row_news {W:World} {g:Nat} {cs:List Value} {fz:Nat×Nat} (h:W.heap[g]? =some (.cells cs.toArray 5 fz)):∀j u,cs[j]? =some u→W.cell? ((⟨g,0,none⟩:Addr).add j)=some u:=by
 intro j u hu
 have:=cell_of_row W g j _ _ _ h
 rw[show((⟨g,0,none⟩:Addr).add j)=⟨g,j,none⟩ by simp[Addr.add];omega,this]
 simpa using hu
theorem wrap16 (n:Nat) (h:n<16):IntKind.u8.wrap (n:Int)=(n:Int):=by
 have:∀k:Fin 16,IntKind.u8.wrap (k.val:Int)=(k.val:Int):=by decide
 exact this ⟨n,h⟩
theorem hex_at (n:Nat) (h:n<16):∀h',(⟨#[48,49,50,51,52,53,54,55,56,57,97,98,99,100,101,102]⟩:ByteArray)[n]'h'=hexOf n:=by
 intro h'
 have:∀k:Fin 16,∀h',(⟨#[48,49,50,51,52,53,54,55,56,57,97,98,99,100,101,102]⟩:ByteArray)[k.val]'h'=hexOf k.val:=by decide
 exact this ⟨n,h⟩ h'
theorem Quote_any (l:List UInt8) (w:World) (hlen:l.length≤3000000):Calls Tryz.prog 45 #[.string ⟨⟨l⟩⟩] w fun e w'=>e= .returned (.string ⟨⟨34::quoteL l++ [34]⟩⟩)∧Below w.heap.size w w':=by
 obtain⟨R,HR⟩:∃R,Hid (34::quoteL l=R):=⟨_,rfl⟩
 rw[HR.out]
 obtain⟨i0,hi,hz0,hz1,hz2⟩:=info_parts byteInfo
 obtain⟨cp,HCP⟩:∃cp,Hid (grownCap (w.alloc (.cells #[.int .u8 34] 5)) (⟨⟨l⟩⟩:ByteArray).size 0 5=cp):=⟨_,rfl⟩
 have hconv:=run_bytes_of_string (P:=Tryz.prog) (w.alloc (.cells #[.int .u8 34] 5)) 9 75 5 ⟨⟨l⟩⟩ Tryz.underlying9 Tryz.underlying75 Tryz.underlying5
 rw[HCP.out] at hconv
 go_enter Tryz.func45,Tryz.ntmps45
 go_wp2_with fail
 go_loopw [3,10] (fun o i wr=>∃(j:Nat) (bs:List UInt8),j≤l.length∧bs.length≤4*j+1∧i= .int .i64 j∧Hid (wr.ownsRow w.heap.size 5 1 o bs.length (Lib.byteCells bs))∧Hid (wr.heap[w.heap.size+1]? =some (.cells (bytesRow ⟨⟨l⟩⟩ cp) 5 ((bytesRow ⟨⟨l⟩⟩ cp).size,(bytesRow ⟨⟨l⟩⟩ cp).size+1)))∧Hid (bs++quoteL (l.drop j)=R)∧Below w.heap.size w wr∧w.heap.size+1<wr.heap.size) (fun _ i _=>l.length-(intOf i).toNat)
 case atStart=>
  refine⟨0,[34],by omega,by simp,rfl,Lib.hid ⟨by simp[Lib.byteCells],.inr ⟨w.heap.size,1,#[.int .u8 34],rfl,Nat.le_refl _, ?_,Nat.le_refl _,by decide,rfl,rfl⟩⟩,Lib.hid ?_,Lib.hid (by rw[←HR.out];rfl), ?_,by simp⟩
  ·show((w.alloc (.cells #[.int .u8 34] 5)).alloc (.cells (bytesRow ⟨⟨l⟩⟩ cp) 5 ((bytesRow ⟨⟨l⟩⟩ cp).size,(bytesRow ⟨⟨l⟩⟩ cp).size+1))).heap[w.heap.size]? =_
   rw[heap_alloc_old _ _ (by simp)]
   exact heap_alloc_new w _
  ·have h:=heap_alloc_new (w.alloc (.cells #[.int .u8 34] 5)) (.cells (bytesRow ⟨⟨l⟩⟩ cp) 5 ((bytesRow ⟨⟨l⟩⟩ cp).size,(bytesRow ⟨⟨l⟩⟩ cp).size+1))
   rw[World.size_alloc] at h
   exact h
  ·exact((Below.refl _ _).alloc (Nat.le_refl _) _).drew.alloc (by simp) _
 case round=>
  obtain⟨j,bs,hj,hbl,rfl,ho,hrow,hr,hb,hg0⟩:=hrel
  obtain⟨A,cap,rfl,hc1,hc2⟩:=row_form ho.out
  by_cases hlt:j<l.length
  ·obtain⟨c,hc⟩:∃c,l[j]? =some c:=⟨l[j],List.getElem?_eq_getElem hlt⟩
   have hcell:wr.cell? ⟨w.heap.size+1,j,none⟩=some (.int .u8 c.toNat):=(cell_of_row _ _ j _ _ _ hrow.out).trans (bytesRow_get l cp j c hc)
   have HDR:=Lib.hid (drop_cons hc)
   have hstep:=fun(q:List UInt8) (hq:quoteC c=q) (W1:World) (hW:Below wr.heap.size wr W1) (v1:Value) (w1:World) (hg:W1.grownBy w1 (Value.slice A bs.length cap).ownBlock)=>quote_step (w1:=w1) (_v1:=v1) q hq (hb.trans (hW.mono hb.size)) (Nat.lt_of_lt_of_le hg0 hW.size) (row_under hW ho.out) ((hW.block _ hg0).trans hrow.out) hr.out HDR.out hg
   have HST:=Lib.hid hstep
   clear hstep hc
   by_cases h1:c=34∨c=92
   ·have hq:quoteC c=[92,c]:=by rw[quoteC,if_pos h1]
    have HQ:=Lib.hid hq
    clear hq
    rcases h1 with h1|h1<;>subst h1
    all_goals go_wp2_with (at_builtin;refine wpList_append_own _ rfl _ _ 75 rfl w.heap.size 5 i0 _ 1 1 Tryz.underlying75 hi hz0 hz1 hz2 rfl (by decide) _ _ _ rfl (ho.out.alloc _) ⟨wr.heap.size,0,none⟩ 2 2 [_,_] rfl rfl (row_news (fz:=(0,0)) (heap_alloc_new wr _)) (by intro u hu;simp at hu;rcases hu with rfl|rfl<;>rfl) (by unfold maxLen;omega) (by omega) (by have:=hb.size;simp;omega) ?_;intro v1 w1 ho1 hg1 _)
    all_goals obtain⟨hb1,hrow1,hr1,hg1'⟩:=HST.out _ HQ.out _ ((Below.refl _ _).alloc (Nat.le_refl _) _) v1 w1 hg1
    all_goals go_wp2_with fail
    all_goals go_roundw
    case rel=>exact⟨j+1,bs++ [92,34],by omega,by simp;omega,by go_num,Lib.hid (by simpa[Lib.byteCells] using ho1),Lib.hid hrow1,Lib.hid hr1,hb1,hg1'⟩
    case measure=>simp[intOf];omega
    case rel=>exact⟨j+1,bs++ [92,92],by omega,by simp;omega,by go_num,Lib.hid (by simpa[Lib.byteCells] using ho1),Lib.hid hrow1,Lib.hid hr1,hb1,hg1'⟩
    case measure=>simp[intOf];omega
   have n1:((c.toNat:Int)==34)=false:=u8_ne (fun e=>h1 (.inl e))
   have n2:((c.toNat:Int)==92)=false:=u8_ne (fun e=>h1 (.inr e))
   by_cases h3:c=10
   ·subst h3
    have HQ:=Lib.hid (show quoteC 10=[92,110] from rfl)
    go_wp2_with (at_builtin;refine Lib.wpList_append_own_string _ rfl _ _ 75 9 rfl w.heap.size 5 i0 Tryz.underlying75 Tryz.underlying9 hi hz0 hz1 hz2 _ _ _ rfl ho.out ⟨#[92,110]⟩ rfl (show bs.length+2≤maxLen by unfold maxLen;omega) (show bs.length+2≤_ by omega) hb.size ?_;intro v1 w1 ho1 hg1 _)
    obtain⟨hb1,hrow1,hr1,hg1'⟩:=HST.out _ HQ.out _ (Below.refl _ _) v1 w1 hg1
    go_wp2_with fail
    go_roundw
    case rel=>exact⟨j+1,bs++ [92,110],by omega,by simp;omega,by go_num,Lib.hid (by have h:=ho1;rw[show(⟨#[92,110]⟩:ByteArray).size=2 from rfl] at h;simpa[Lib.byteCells,Lib.strCells] using h),Lib.hid hrow1,Lib.hid hr1,hb1,hg1'⟩
    case measure=>simp[intOf];omega
   by_cases h4:c=9
   ·subst h4
    have HQ:=Lib.hid (show quoteC 9=[92,116] from rfl)
    go_wp2_with (at_builtin;refine Lib.wpList_append_own_string _ rfl _ _ 75 9 rfl w.heap.size 5 i0 Tryz.underlying75 Tryz.underlying9 hi hz0 hz1 hz2 _ _ _ rfl ho.out ⟨#[92,116]⟩ rfl (show bs.length+2≤maxLen by unfold maxLen;omega) (show bs.length+2≤_ by omega) hb.size ?_;intro v1 w1 ho1 hg1 _)
    obtain⟨hb1,hrow1,hr1,hg1'⟩:=HST.out _ HQ.out _ (Below.refl _ _) v1 w1 hg1
    go_wp2_with fail
    go_roundw
    case rel=>exact⟨j+1,bs++ [92,116],by omega,by simp;omega,by go_num,Lib.hid (by have h:=ho1;rw[show(⟨#[92,116]⟩:ByteArray).size=2 from rfl] at h;simpa[Lib.byteCells,Lib.strCells] using h),Lib.hid hrow1,Lib.hid hr1,hb1,hg1'⟩
    case measure=>simp[intOf];omega
   have n3:((c.toNat:Int)==10)=false:=u8_ne h3
   have n4:((c.toNat:Int)==9)=false:=u8_ne h4
   by_cases h5:c.toNat<32∨126<c.toNat
   ·have hc256:c.toNat<256:=c.toNat_lt
    obtain⟨d,hd⟩:∃d,d=c.toNat/16:=⟨_,rfl⟩
    obtain⟨m,hm⟩:∃m,m=c.toNat % 16:=⟨_,rfl⟩
    have HQ:=Lib.hid (show quoteC c=[92,120,hexOf d,hexOf m] by rw[hd,hm,quoteC,if_neg h1,if_neg h3,if_neg h4,if_pos h5])
    have d16:d<16:=by omega
    have m16:m<16:=by omega
    have d16':(d:Int)<16:=by omega
    have m16':(m:Int)<16:=by omega
    have ed:(c.toNat:Int)/16=(d:Int):=by omega
    have em:(c.toNat:Int).tmod 16=(m:Int):=by rw[Int.tmod_eq_emod_of_nonneg (by omega)];omega
    have wd:IntKind.u8.wrap (d:Int)=(d:Int):=wrap16 d d16
    have wm:IntKind.u8.wrap (m:Int)=(m:Int):=wrap16 m m16
    have xd:=hex_at d d16
    have xm:=hex_at m m16
    clear hd hm
    by_cases h6:c.toNat<32
    ·have h6':((c.toNat:Int)<32)=True:=by simp;omega
     go_upto_region 13 with fail
     refine wp_region_held_drew (S:=fun _=>True) (by kernel_rfl) trivial (fun _=> ?_)
     refine wpAnyH_take (i:=0) (v:= ?_) rfl (by kernel_rfl) (by kernel_rfl) (by kernel_rfl) (fun _ _ _ h=>h) (Or.inl ⟨by rfl, ?_⟩) trivial ?_
     rotate_left
     ·(intro w _;go_simp;try with_reducible rfl)
     try simp only[Act.put,List.getElem_toArray,List.getElem_cons_zero,List.setIfInBounds_toArray,List.set_cons_zero,List.set_cons_succ]
     refine wpAnyH_take (i:=1) (v:= ?_) rfl (by kernel_rfl) (by kernel_rfl) (by kernel_rfl) (fun _ _ _ h=>h) (Or.inl ⟨by rfl, ?_⟩) trivial ?_
     rotate_left
     ·(intro w _;go_simp;try with_reducible rfl)
     try simp only[nmC]
     refine wpAnyH_take (i:=2) (v:= ?_) rfl (by kernel_rfl) (by kernel_rfl) (by kernel_rfl) (fun _ _ _ h=>h) (Or.inl ⟨by rfl, ?_⟩) trivial ?_
     rotate_left
     ·(intro w _;go_simp;try with_reducible rfl)
     try simp only[nmC]
     refine wpAnyH_take (i:=3) (v:= ?_) rfl (by kernel_rfl) (by kernel_rfl) (by kernel_rfl) (fun _ _ _ h=>h) (Or.inl ⟨by rfl, ?_⟩) trivial ?_
     rotate_left
     ·(intro w _;go_simp;try with_reducible rfl)
     try simp only[nmC]
     refine wpAnyH_take (i:=4) (v:= ?_) rfl (by kernel_rfl) (by kernel_rfl) (by kernel_rfl) (fun _ _ _ h=>h) (Or.inl ⟨by rfl, ?_⟩) trivial ?_
     rotate_left
     ·(intro w _;go_simp;try with_reducible rfl)
     try simp only[nmC]
     refine wpAnyH_take (i:=5) (v:= ?_) rfl (by kernel_rfl) (by kernel_rfl) (by kernel_rfl) (fun _ _ _ h=>h) (Or.inl ⟨by rfl, ?_⟩) trivial ?_
     rotate_left
     ·(intro w _;go_simp;try with_reducible rfl)
     try simp only[nmC]
     refine wpAnyH_take (i:=6) (v:= ?_) rfl (by kernel_rfl) (by kernel_rfl) (by kernel_rfl) (fun _ _ _ h=>h) (Or.inl ⟨by rfl, ?_⟩) trivial ?_
     rotate_left
     ·(intro w _;go_simp;try with_reducible rfl)
     try simp only[nmC]
     refine wpAnyH_ready (rs:=[7]) (by kernel_rfl) (by simp) ?_
     refine AllReadyH.cons rfl (fun KK hKK=> ?_) AllReadyH.nil
     go_simp
     go_wp2_with fail
     refine hKK.out _ _ trivial (fun _=> ?_)
     clear hKK KK
     try simp only[nmC]
     refine wpAnyH_ready (rs:=[8]) (by kernel_rfl) (by simp) ?_
     refine AllReadyH.cons rfl (fun KK hKK=> ?_) AllReadyH.nil
     rw[if_pos (by rfl)]
     refine wp_append_own _ _ _ 75 rfl w.heap.size 5 i0 _ 1 1 Tryz.underlying75 hi hz0 hz1 hz2 rfl (by decide) _ _ _ rfl (row_under ((Below.refl _ _).drew.alloc (Nat.le_refl _) _) ho.out) ⟨wr.heap.size,0,none⟩ 4 4 [_,_,_,_] rfl rfl (row_news (fz:=(0,0)) (heap_alloc_new wr.drew _)) (by intro u hu;simp at hu;rcases hu with rfl|rfl|rfl|rfl<;>rfl) (by unfold maxLen;omega) (by omega) (by have:=hb.size;simp;omega) ?_
     intro v1 w1 ho1 hg1 _
     refine hKK.out _ _ trivial (fun _=> ?_)
     clear hKK KK
     try simp only[nmC]
     refine wpAnyH_take (i:=9) (v:= ?_) rfl (by kernel_rfl) (by kernel_rfl) (by kernel_rfl) (fun _ _ _ h=>h) (Or.inl ⟨by rfl, ?_⟩) trivial ?_
     rotate_left
     ·(intro w _;go_simp;try with_reducible rfl)
     try simp only[nmC]
     refine wpAnyH_done (by kernel_rfl) ?_ _
     obtain⟨hb1,hrow1,hr1,hg1'⟩:=HST.out _ HQ.out _ ((Below.refl _ _).drew.alloc (Nat.le_refl _) _) v1 w1 hg1
     go_wp2_with fail
     go_roundw
     case rel=>exact⟨j+1,bs++ [92,120,hexOf d,hexOf m],by omega,by simp;omega,by go_num,Lib.hid (by simpa[Lib.byteCells] using ho1),Lib.hid hrow1,Lib.hid hr1,hb1,hg1'⟩
     case measure=>simp[intOf];omega
    ·have h6':((c.toNat:Int)<32)=False:=by simp;omega
     have h7:((126:Int)<(c.toNat:Int))=True:=by simp;omega
     go_upto_region 13 with fail
     refine wp_region_held_drew (S:=fun _=>True) (by kernel_rfl) trivial (fun _=> ?_)
     refine wpAnyH_take (i:=0) (v:= ?_) rfl (by kernel_rfl) (by kernel_rfl) (by kernel_rfl) (fun _ _ _ h=>h) (Or.inl ⟨by rfl, ?_⟩) trivial ?_
     rotate_left
     ·(intro w _;go_simp;try with_reducible rfl)
     try simp only[Act.put,List.getElem_toArray,List.getElem_cons_zero,List.setIfInBounds_toArray,List.set_cons_zero,List.set_cons_succ]
     refine wpAnyH_take (i:=1) (v:= ?_) rfl (by kernel_rfl) (by kernel_rfl) (by kernel_rfl) (fun _ _ _ h=>h) (Or.inl ⟨by rfl, ?_⟩) trivial ?_
     rotate_left
     ·(intro w _;go_simp;try with_reducible rfl)
     try simp only[nmC]
     refine wpAnyH_take (i:=2) (v:= ?_) rfl (by kernel_rfl) (by kernel_rfl) (by kernel_rfl) (fun _ _ _ h=>h) (Or.inl ⟨by rfl, ?_⟩) trivial ?_
     rotate_left
     ·(intro w _;go_simp;try with_reducible rfl)
     try simp only[nmC]
     refine wpAnyH_take (i:=3) (v:= ?_) rfl (by kernel_rfl) (by kernel_rfl) (by kernel_rfl) (fun _ _ _ h=>h) (Or.inl ⟨by rfl, ?_⟩) trivial ?_
     rotate_left
     ·(intro w _;go_simp;try with_reducible rfl)
     try simp only[nmC]
     refine wpAnyH_take (i:=4) (v:= ?_) rfl (by kernel_rfl) (by kernel_rfl) (by kernel_rfl) (fun _ _ _ h=>h) (Or.inl ⟨by rfl, ?_⟩) trivial ?_
     rotate_left
     ·(intro w _;go_simp;try with_reducible rfl)
     try simp only[nmC]
     refine wpAnyH_take (i:=5) (v:= ?_) rfl (by kernel_rfl) (by kernel_rfl) (by kernel_rfl) (fun _ _ _ h=>h) (Or.inl ⟨by rfl, ?_⟩) trivial ?_
     rotate_left
     ·(intro w _;go_simp;try with_reducible rfl)
     try simp only[nmC]
     refine wpAnyH_take (i:=6) (v:= ?_) rfl (by kernel_rfl) (by kernel_rfl) (by kernel_rfl) (fun _ _ _ h=>h) (Or.inl ⟨by rfl, ?_⟩) trivial ?_
     rotate_left
     ·(intro w _;go_simp;try with_reducible rfl)
     try simp only[nmC]
     refine wpAnyH_ready (rs:=[7]) (by kernel_rfl) (by simp) ?_
     refine AllReadyH.cons rfl (fun KK hKK=> ?_) AllReadyH.nil
     go_simp
     go_wp2_with fail
     refine hKK.out _ _ trivial (fun _=> ?_)
     clear hKK KK
     try simp only[nmC]
     refine wpAnyH_ready (rs:=[8]) (by kernel_rfl) (by simp) ?_
     refine AllReadyH.cons rfl (fun KK hKK=> ?_) AllReadyH.nil
     rw[if_pos (by rfl)]
     refine wp_append_own _ _ _ 75 rfl w.heap.size 5 i0 _ 1 1 Tryz.underlying75 hi hz0 hz1 hz2 rfl (by decide) _ _ _ rfl (row_under ((Below.refl _ _).drew.alloc (Nat.le_refl _) _) ho.out) ⟨wr.heap.size,0,none⟩ 4 4 [_,_,_,_] rfl rfl (row_news (fz:=(0,0)) (heap_alloc_new wr.drew _)) (by intro u hu;simp at hu;rcases hu with rfl|rfl|rfl|rfl<;>rfl) (by unfold maxLen;omega) (by omega) (by have:=hb.size;simp;omega) ?_
     intro v1 w1 ho1 hg1 _
     refine hKK.out _ _ trivial (fun _=> ?_)
     clear hKK KK
     try simp only[nmC]
     refine wpAnyH_take (i:=9) (v:= ?_) rfl (by kernel_rfl) (by kernel_rfl) (by kernel_rfl) (fun _ _ _ h=>h) (Or.inl ⟨by rfl, ?_⟩) trivial ?_
     rotate_left
     ·(intro w _;go_simp;try with_reducible rfl)
     try simp only[nmC]
     refine wpAnyH_done (by kernel_rfl) ?_ _
     obtain⟨hb1,hrow1,hr1,hg1'⟩:=HST.out _ HQ.out _ ((Below.refl _ _).drew.alloc (Nat.le_refl _) _) v1 w1 hg1
     go_wp2_with fail
     go_roundw
     case rel=>exact⟨j+1,bs++ [92,120,hexOf d,hexOf m],by omega,by simp;omega,by go_num,Lib.hid (by simpa[Lib.byteCells] using ho1),Lib.hid hrow1,Lib.hid hr1,hb1,hg1'⟩
     case measure=>simp[intOf];omega
   ·have HQ:=Lib.hid (show quoteC c=[c] by rw[quoteC,if_neg h1,if_neg h3,if_neg h4,if_neg h5])
    have h6:((c.toNat:Int)<32)=False:=by simp;omega
    have h7:((126:Int)<(c.toNat:Int))=False:=by simp;omega
    go_wp2_with (at_builtin;refine wpList_append_own _ rfl _ _ 75 rfl w.heap.size 5 i0 _ 1 1 Tryz.underlying75 hi hz0 hz1 hz2 rfl (by decide) _ _ _ rfl (ho.out.alloc _) ⟨wr.heap.size,0,none⟩ 1 1 [.int .u8 c.toNat] rfl rfl (cell_one_new wr _ _) (by intro u hu;simp at hu;subst hu;rfl) (by unfold maxLen;omega) (by omega) (by have:=hb.size;simp;omega) ?_;intro v1 w1 ho1 hg1 _)
    obtain⟨hb1,hrow1,hr1,hg1'⟩:=HST.out _ HQ.out _ ((Below.refl _ _).alloc (Nat.le_refl _) _) v1 w1 hg1
    go_wp2_with fail
    go_roundw
    case rel=>exact⟨j+1,bs++ [c],by omega,by simp;omega,by go_num,Lib.hid (by simpa[Lib.byteCells] using ho1),Lib.hid hrow1,Lib.hid hr1,hb1,hg1'⟩
    case measure=>simp[intOf];omega
  ·obtain rfl:j=l.length:=by omega
   have hbs:bs=R:=by
    have h:=hr.out
    rw[List.drop_length,quoteL,List.append_nil] at h
    exact h
   subst hbs
   go_wp2_with (at_builtin;refine wpList_append_own _ rfl _ _ 75 rfl w.heap.size 5 i0 _ 1 1 Tryz.underlying75 hi hz0 hz1 hz2 rfl (by decide) _ _ _ rfl (ho.out.alloc _) ⟨wr.heap.size,0,none⟩ 1 1 [.int .u8 34] rfl rfl (cell_one_new wr _ _) (by intro u hu;simp at hu;subst hu;rfl) (by unfold maxLen;omega) (by omega) (by have:=hb.size;simp;omega) ?_;intro v1 w1 ho1 hg1 _;have hback:=run_bytes_own w1 w.heap.size v1 (bs++ [34]) (by simpa[Lib.byteCells] using ho1))
   have hb1:Below w.heap.size w w1:=grown_below (hb.alloc hb.size _) (ho.out.alloc _) (by have:=hb.size;simp;omega) hg1
   go_wp2_with fail
   go_ret
   exact⟨rfl,hb1⟩
end Go.Proofs.YtagnicbknbmccaaGreatDoor
