/- lex.Unquote of any text; code.ints of any texts. How long a program that the laws make is as bytes and as lines. code.List of any program: its first line, an append of a row to a full one, the lines' lengths. -/
import Derived.Test.YtdjbkppdppdcgaaGreatDoorShelf
import Derived.Test.YtdjbkppdppdcgaaGreatDoorMCxJ
import Derived.Test.YtdjbkppdppdcgaaGreatDoorMLex1
import Derived.Test.YtdjbkppdppdcgaaGreatDoorMScanA
import Derived.Test.YtdjbkppdppdcgaaGreatDoorMCdN
import Derived.Test.YtdjbkppdppdcgaaGreatDoorMUnB
import Derived.Test.YtdjbkppdppdcgaaGreatDoorMCxA
import Derived.Test.YtdjbkppdppdcgaaGreatDoorMCzE
set_option maxRecDepth 100000
set_option maxHeartbeats 4000000
namespace Go.Proofs.YtdjbkppdppdcgaaGreatDoor
open Go.RowKit
def UnqPost (w:World) (o:Option (List UInt8)) (e:Ending) (w':World):Prop:=Below w.heap.size w w'∧match o with
 |some t=>e= .returned (.tuple #[.string ⟨⟨t⟩⟩,.nilIface])
 |none=>∃pe,e= .returned (.tuple #[.string ⟨#[]⟩,.iface 61 pe])
theorem lex_wrong (c a:Int) (w:World):Calls Tryz.prog 123 #[.int .i64 c,.int .i64 a] w fun e w'=>∃b,e= .returned (.pointer (some ⟨b,0,none⟩))∧Below w.heap.size w w':=
 (lexWrong_any c a w).mono fun _ _ ⟨he,hw⟩=>⟨_,he,by rw[hw];exact(Below.refl _ _).alloc (Nat.le_refl _) _⟩
theorem unquote_cons (r:List UInt8):unquoteL (34::r)=match litR 0 r 1 [] with
  | .ok (t,next)=>if next<(34::r).length∨65536<t.length then none else some t
  | .bad _ _=>none:=rfl
theorem unquote_any (l:List UInt8) (w:World) (hlen:l.length≤1000000000):Calls Tryz.prog 99 #[.string ⟨⟨l⟩⟩] w (UnqPost w (unquoteL l)):=by
 obtain⟨R,HR⟩:∃R,Hid (unquoteL l=R):=⟨_,rfl⟩
 rw[HR.out]
 have HPF:=Lib.hid (Tryz.strings_HasPrefix ⟨⟨l⟩⟩ ⟨#[34]⟩)
 obtain⟨n,hn⟩:∃n,l.length=n:=⟨_,rfl⟩
 have HN:=Lib.hid hn
 have hsz:(⟨⟨l⟩⟩:ByteArray).size=n:=hn
 by_cases hp:∃r,l=34::r
 ·obtain⟨r,hr⟩:=hp
  have HL:Hid (Lib.hasPrefix (⟨⟨l⟩⟩:ByteArray).data.toList (⟨#[34]⟩:ByteArray).data.toList=true):=Lib.hid (by rw[hr];rfl)
  have hlit:=fun W=>literal_any l 0 W (by rw[hr];simp) hlen
  have hd:l.drop (0+1)=r:=by rw[hr];rfl
  simp only[hd] at hlit
  have HLT:=Lib.hid hlit
  have HR2:=HR.out
  rw[hr,unquote_cons] at HR2
  clear hlit hd
  rw[hn] at hlen
  cases hq:litR 0 r 1 [] with
  |bad c a=>
   rw[hq] at HR2 HLT
   have hR:R=none:=HR2.symm
   subst hR
   clear HR2 hq hr hn
   go_enter Tryz.func99,Tryz.ntmps99
   go_wp2_with (first
    |(go_at_call 70;refine(HPF.out _).mono ?_;rintro e w1 ⟨rfl,rfl⟩;rw[HL.out])
    |(go_at_call 124;refine(HLT.out _).mono ?_;rintro e w2 ⟨hb2,h2⟩;obtain⟨b,rfl⟩:∃b,e= .returned (.tuple #[.string ⟨#[]⟩,.int .i64 0,.pointer (some ⟨b,0,none⟩)]):=(by rcases h2 with⟨_,_,h,_⟩|⟨_,_,b,_,h,_⟩;cases h;exact⟨b,h⟩);have HB2:=Lib.hid hb2;clear hb2 h2))
   go_ret2
   exact⟨HB2.out,_,rfl⟩
  |ok x=>
   obtain⟨t,next⟩:=x
   rw[hq] at HR2 HLT
   dsimp only at HR2
   rw[←hr,hn] at HR2
   have HLT2:Hid (∀W,Calls Tryz.prog 124 #[.string ⟨⟨l⟩⟩,.int .i64 0] W fun e w'=>e= .returned (.tuple #[.string ⟨⟨t⟩⟩,.int .i64 next,.pointer none])∧Below W.heap.size W w'):=Lib.hid fun W=>(HLT.out W).mono fun e w' ⟨hb,h⟩=>by
    rcases h with⟨o,nx,h,he⟩|⟨_,_,_,h,_⟩
    ·injection h with h
     injection h with h1 h2
     subst h1 h2
     exact⟨he,hb⟩
    ·cases h
   have HR3:=Lib.hid HR2
   clear HR2 hq hr HLT hn
   by_cases h1:next<n
   ·have hR:R=none:=by rw[←HR3.out,if_pos (.inl h1)]
    subst hR
    have d1:decide (next<n)=true:=decide_eq_true h1
    go_enter Tryz.func99,Tryz.ntmps99
    go_wp2_with (first
     |(go_at_call 70;refine(HPF.out _).mono ?_;rintro e w1 ⟨rfl,rfl⟩;rw[HL.out])
     |(go_at_call 124;refine(HLT2.out _).mono ?_;rintro e w2 ⟨rfl,hb2⟩;have HB2:=Lib.hid hb2;clear hb2)
     |(go_at_call 123;refine(lex_wrong _ _ _).mono ?_;rintro e w3 ⟨b,rfl,hb3⟩;have HB3:=Lib.hid (HB2.out.trans (hb3.mono HB2.out.size));clear hb3))
    go_ret2
    exact⟨HB3.out,_,rfl⟩
   ·have d1:decide (next<n)=false:=decide_eq_false h1
    obtain⟨tl,htl⟩:∃tl,t.length=tl:=⟨_,rfl⟩
    have hts:(⟨⟨t⟩⟩:ByteArray).size=tl:=htl
    rw[htl] at HR3
    by_cases h2:65536<tl
    ·have hR:R=none:=by rw[←HR3.out,if_pos (.inr h2)]
     subst hR
     have d2:decide (65536<(tl:Int))=true:=by simp;omega
     clear htl
     go_enter Tryz.func99,Tryz.ntmps99
     go_wp2_with (first
      |(go_at_call 70;refine(HPF.out _).mono ?_;rintro e w1 ⟨rfl,rfl⟩;rw[HL.out])
      |(go_at_call 124;refine(HLT2.out _).mono ?_;rintro e w2 ⟨rfl,hb2⟩;have HB2:=Lib.hid hb2;clear hb2)
      |(go_at_call 123;refine(lex_wrong _ _ _).mono ?_;rintro e w3 ⟨b,rfl,hb3⟩;have HB3:=Lib.hid (HB2.out.trans (hb3.mono HB2.out.size));clear hb3))
     go_ret2
     exact⟨HB3.out,_,rfl⟩
    ·have hR:R=some t:=by rw[←HR3.out,if_neg (by omega)]
     subst hR
     have d2:decide (65536<(tl:Int))=false:=by simp;omega
     clear htl
     go_enter Tryz.func99,Tryz.ntmps99
     go_wp2_with (first
      |(go_at_call 70;refine(HPF.out _).mono ?_;rintro e w1 ⟨rfl,rfl⟩;rw[HL.out])
      |(go_at_call 124;refine(HLT2.out _).mono ?_;rintro e w2 ⟨rfl,hb2⟩;have HB2:=Lib.hid hb2;clear hb2))
     go_ret2
     exact⟨HB2.out,rfl⟩
 ·have hR:R=none:=by
   rw[←HR.out]
   unfold unquoteL
   split
   ·exact absurd ⟨_,rfl⟩ hp
   ·rfl
  subst hR
  have HL:Hid (Lib.hasPrefix (⟨⟨l⟩⟩:ByteArray).data.toList (⟨#[34]⟩:ByteArray).data.toList=false):=Lib.hid (by
   show Lib.hasPrefix l [34]=false
   cases l with
   |nil=>rfl
   |cons c r=>
    have:¬(34=c):=fun e=>hp ⟨r,by rw[e]⟩
    simp[Lib.hasPrefix,List.isPrefixOf,this])
  clear hp hn
  go_enter Tryz.func99,Tryz.ntmps99
  go_wp2_with (first
   |(go_at_call 70;refine(HPF.out _).mono ?_;rintro e w1 ⟨rfl,rfl⟩;rw[HL.out])
   |(go_at_call 123;refine(lex_wrong _ _ _).mono ?_;rintro e w3 ⟨b,rfl,hb3⟩;have HB3:=Lib.hid hb3;clear hb3))
  go_ret2
  exact⟨HB3.out,_,rfl⟩
theorem quoteC_len (c:UInt8):(quoteC c).length≤4:=by
 unfold quoteC
 repeat' split
 all_goals simp
theorem quoteL_len:∀l:List UInt8,(quoteL l).length≤4*l.length
 | []=>Nat.le_refl _
 |c::r=>by
  have h1:=quoteC_len c
  have h2:=quoteL_len r
  rw[quoteL,List.length_append,List.length_cons]
  omega
theorem words20:∀f∈formsT,f.word.length≤20:=by decide
theorem word_len (op:Int):(formOf op).word.length≤20:=by
 unfold formOf
 split
 ·rw[List.getD_eq_getElem?_getD]
  cases h:formsT[op.toNat]? with
  |none=>decide
  |some f=>exact words20 f (List.mem_of_getElem? h)
 ·decide
theorem flat_le {α:Type} (g:α→List UInt8) (B:Nat):∀l:List α,(∀x∈l,(g x).length≤B)→(l.flatMap g).length≤l.length*B
 | [],_=>Nat.zero_le _
 |x::r,h=>by
  have h1:=h x (List.mem_cons_self ..)
  have h2:=flat_le g B r fun y hy=>h y (List.mem_cons_of_mem _ hy)
  rw[List.flatMap_cons,List.length_append,List.length_cons,Nat.add_mul]
  omega
def TxM (c:List Ci):Prop:=∀x∈c,x.text.data.toList.length≤20
theorem TxM.add {c:List Ci} (h:TxM c) (op a p:Int) {t:List UInt8} (ht:t.length≤20):TxM (c++ [⟨op,a,0,⟨⟨t⟩⟩,p⟩]):=fun x hx=>by
 rcases List.mem_append.1 hx with hx|hx
 ·exact h x hx
 ·rw[List.mem_singleton.1 hx];exact ht
theorem tab_len {l:List (List UInt8)} (h:∀t∈l,t.length≤20) (i:Nat):(l.getD i []).length≤20:=by
 rw[List.getD_eq_getElem?_getD]
 cases hx:l[i]? with
 |none=>exact Nat.zero_le _
 |some t=>exact h t (List.mem_of_getElem? hx)
theorem TxM.push {m:Mk} (h:TxM m.code):TxM m.push.code:=by
 unfold Mk.push
 simp only
 split
 all_goals first
  |exact TxM.add h _ _ _ (by decide)
  |exact TxM.add h _ _ _ (tab_len (by decide) _)
  |(split<;>exact TxM.add h _ _ _ (by decide))
theorem TxM.fill {m:Mk} (h:TxM m.code):TxM m.fill.code:=by
 unfold Mk.fill
 split
 ·exact h.push.push
 ·split
  ·exact h.push
  ·exact h
theorem TxM.pick {m:Mk} (h:TxM m.code) (n w:Nat):TxM (m.pick n w).code:=by
 unfold Mk.pick
 split
 all_goals first
  |exact TxM.add h _ _ _ (by decide)
  |exact TxM.add h _ _ _ (tab_len (by decide) _)
  |exact TxM.add (TxM.add (TxM.add h _ _ _ (by decide)) _ _ _ (by decide)) _ _ _ (by decide)
  |exact TxM.add (TxM.add (TxM.add (TxM.add h _ _ _ (by decide)) _ _ _ (by decide)) _ _ _ (by decide)) _ _ _ (by decide)
  |exact TxM.add (TxM.add (TxM.add (TxM.add (TxM.add (TxM.add h _ _ _ (by decide)) _ _ _ (by decide)) _ _ _ (by decide)) _ _ _ (by decide)) _ _ _ (by decide)) _ _ _ (by decide)
theorem TxM.one {m:Mk} (h:TxM m.code):TxM m.one.code:=by
 unfold Mk.one
 exact TxM.pick (m:=((m.fill.next (min m.fill.high 4)).2.next 16).2) h.fill _ _
theorem TxM.ones:∀(n:Nat) {m:Mk},TxM m.code→TxM (Mk.ones n m).code
 |0,_,h=>h
 |n+1,m,h=>by
  unfold Mk.ones
  split
  ·exact TxM.ones n h.one
  ·exact h
theorem TxM.body {m:Mk} (h:TxM m.code):TxM m.body.code:=by
 unfold Mk.body
 exact TxM.add (TxM.push (TxM.ones _ (m:=((m.add 1 0 [] 0 0).next 60).2) (TxM.add h _ _ _ (by decide)))) _ _ _ (by decide)
theorem mades_txt (raw:List Int) (tops:Nat):∀(n f at_:Nat),∀x∈madeFns raw tops n f at_,TxM x.code
 |0,_,_,_,h=>by cases h
 |n+1,f,at_,x,h=>by
  rw[madeFns] at h
  rcases List.mem_cons.1 h with rfl|h
  ·unfold madeFn
   simp only
   obtain⟨p,hp⟩:∃p,(if 0<f then Mk.next ⟨raw,at_,[],0,0,0⟩ 3 else(0,(⟨raw,at_,[],0,0,0⟩:Mk)))=p:=⟨_,rfl⟩
   rw[hp]
   obtain⟨l,hl⟩:∃l,(if 1<f then p.2.next 3 else(1,p.2))=l:=⟨_,rfl⟩
   rw[hl]
   have h0:TxM (Mk.body ⟨raw,(l.2.next 3).2.at_,[],0,p.1+1+(l.2.next 3).1,tops⟩).code:=by
    refine TxM.body ?_
    intro y hy
    cases hy
   split
   ·exact h0
   ·exact h0
  ·exact mades_txt raw tops n _ _ x h
theorem made_fns (raw:List Int):(madeC raw).funcs.length≤5∧(madeC raw).globals.length≤2∧(∀s∈(madeC raw).globals,s.data.toList.length≤1)∧∀f∈(madeC raw).funcs,f.name.data.toList.length≤4∧f.taken.length≤1∧f.code.length≤600∧TxM f.code:=by
 obtain⟨tops,htop,hgl,h3,h4,h2⟩:=made_parts raw
 refine⟨h4,by rw[hgl,List.length_take];omega,fun s hs=> ?_,fun f hf=> ?_⟩
 ·rw[hgl] at hs
  have:=List.mem_of_mem_take hs
  simp only[List.mem_cons,List.not_mem_nil,or_false] at this
  rcases this with e|e<;>rw[e]<;>decide
 ·obtain⟨j,hj⟩:=List.getElem?_of_mem hf
  have hm:=h2 j f hj
  have hj5:j<5:=by have:=(List.getElem?_eq_some_iff.1 hj).1;omega
  obtain⟨n,e,e0,e5,p0,pn,hb⟩:=hm.slots
  have hnames:∀i:Fin 5,(madeNames.getD i.val []).length≤4:=by decide
  refine⟨?_, ?_,hb.len, ?_⟩
  ·rcases hm.head with⟨_,_,e⟩|⟨_,_,_,e⟩
   ·rw[e];exact hnames ⟨j,hj5⟩
   ·rw[e];decide
  ·rcases hm.head with⟨_,e,_⟩|⟨_,_,e,_⟩<;>rw[e]<;>decide
  ·unfold madeC at hf
   exact mades_txt _ _ _ _ _ f hf
theorem numB_len (n:Int):(numB n).length≤11:=by unfold numB;exact numU_len 10 _
theorem textB_len (s:List UInt8):(textB s).length≤11+s.length:=by
 unfold textB
 have:=numB_len s.length
 rw[List.length_append]
 omega
theorem instB_len {x:Ci} (h:x.text.data.toList.length≤20):(instB x).length≤75:=by
 have h1:=numB_len x.op
 have h2:=numB_len x.a
 have h3:=numB_len x.b
 have h4:=numB_len x.at_
 have h5:=textB_len x.text.data.toList
 unfold instB
 simp only[List.length_append]
 omega
theorem made_bytes_len (raw:List Int):(encodeB (madeC raw)).length≤2000000:=by
 obtain⟨a1,a2,a3,a4⟩:=made_fns raw
 have hf:∀f∈(madeC raw).funcs,(funcB f).length≤46000:=fun f hf=>by
  obtain⟨b1,b2,b3,b4⟩:=a4 f hf
  have h1:=textB_len f.name.data.toList
  have h2:=numB_len f.params
  have h3:=numB_len f.slots
  have h4:=numB_len f.around
  have h5:=flat_le numB 11 f.taken fun n _=>numB_len n
  have h6:=flat_le instB 75 f.code fun x hx=>instB_len (b4 x hx)
  have h7:=numB_len f.taken.length
  have h8:=numB_len f.code.length
  unfold funcB
  simp only[List.length_append]
  have h9:f.code.length*75≤600*75:=Nat.mul_le_mul_right _ b3
  have h10:f.taken.length*11≤1*11:=Nat.mul_le_mul_right _ b2
  omega
 have h1:=flat_le funcB 46000 _ hf
 have h2:=flat_le (fun s:ByteArray=>textB s.data.toList) 12 (madeC raw).globals fun s hs=>by have:=textB_len s.data.toList;have:=a3 s hs;omega
 have h3:=numB_len (madeC raw).globals.length
 have h4:=numB_len (madeC raw).funcs.length
 have h5:(madeC raw).funcs.length*46000≤5*46000:=Nat.mul_le_mul_right _ a1
 have h6:(madeC raw).globals.length*12≤2*12:=Nat.mul_le_mul_right _ a2
 unfold encodeB
 simp only[List.length_append,List.length_cons,List.length_nil]
 omega
theorem instL_len {x:Ci} (h:x.text.data.toList.length≤20) (ha:okI x.a) (hb:okI x.b) (hp:okI x.at_):(instL x).length≤200:=by
 have h1:=word_len x.op
 have h2:=quoteL_len x.text.data.toList
 have h3:=words_len (9::(formOf x.op).word) [x.a,x.b,x.at_] (by
  intro n hn
  simp only[List.mem_cons,List.not_mem_nil,or_false] at hn
  rcases hn with rfl|rfl|rfl<;>assumption)
 simp only[List.length_cons,List.length_nil] at h3
 unfold instL
 simp only[List.length_append,List.length_cons,List.length_nil]
 split
 ·simp only[List.length_nil];omega
 ·simp only[List.length_append,List.length_cons,List.length_nil];omega
theorem made_lines_len (raw:List Int):(listL (madeC raw)).length≤2000000:=by
 obtain⟨a1,a2,a3,a4⟩:=made_fns raw
 obtain⟨_,_,ok,_⟩:=made_cp raw
 have hf:∀f∈(madeC raw).funcs,(funcL f).length≤121000:=fun f hf=>by
  obtain⟨b1,b2,b3,b4⟩:=a4 f hf
  obtain⟨_,o1,o2,o3,_,_,o4,o5⟩:=ok f hf
  have h6:=flat_le instL 200 f.code fun x hx=>by
   obtain⟨_,c2,c3,c4,_⟩:=o5 x hx
   exact instL_len (b4 x hx) c2 c3 c4
  have h9:f.code.length*200≤600*200:=Nat.mul_le_mul_right _ b3
  unfold funcL
  have h1:=words_len ([102,117,110,99,32]++(if f.name.data.toList=[] then [45] else f.name.data.toList)) [f.params,f.slots,f.around] (by
   intro n hn
   simp only[List.mem_cons,List.not_mem_nil,or_false] at hn
   rcases hn with rfl|rfl|rfl<;>assumption)
  have h2:=words_len (wordsL ([102,117,110,99,32]++(if f.name.data.toList=[] then [45] else f.name.data.toList)) [f.params,f.slots,f.around]) f.taken o4
  have h3:([102,117,110,99,32]++(if f.name.data.toList=[] then [45] else f.name.data.toList):List UInt8).length≤9:=by
   split
   ·decide
   ·simp only[List.length_append,List.length_cons,List.length_nil];omega
  simp only[List.length_cons,List.length_nil] at h1
  simp only[List.length_append,List.length_cons] at h1 h2 h3⊢
  omega
 have h1:=flat_le funcL 121000 _ hf
 have h2:=flat_le (fun s:ByteArray=>32::s.data.toList) 2 (madeC raw).globals fun s hs=>by have:=a3 s hs;simp only[List.length_cons];omega
 have h5:(madeC raw).funcs.length*121000≤5*121000:=Nat.mul_le_mul_right _ a1
 have h6:(madeC raw).globals.length*2≤2*2:=Nat.mul_le_mul_right _ a2
 unfold listL
 simp only[List.length_append,List.length_cons,List.length_nil]
 omega
theorem made_tame (raw:List Int):Tame (madeC raw)∧∀f∈(madeC raw).funcs,∀x∈f.code,x.text.size≤3000000:=by
 obtain⟨a1,a2,a3,a4⟩:=made_fns raw
 refine⟨⟨made_cp raw,fun f hf=>ba_le (a4 f hf).1 (by decide),fun f hf x hx=>ba_le ((a4 f hf).2.2.2 x hx) (by decide), ?_⟩,fun f hf x hx=>ba_le ((a4 f hf).2.2.2 x hx) (by decide)⟩
 obtain⟨_,h2⟩:=manySum_le (B:=600) (madeC raw).funcs fun f hf=>(a4 f hf).2.2.1
 have h5:(madeC raw).funcs.length*600≤5*600:=Nat.mul_le_mul_right _ a1
 omega
def tailL (x:Ci):List UInt8:=if x.text.data.toList=[] then [] else 32::(34::quoteL x.text.data.toList++ [34])
def headL (f:Cf):List UInt8:=[102,117,110,99,32]++(if f.name.data.toList=[] then [45] else f.name.data.toList)
theorem instL_eq (x:Ci) (b r:List UInt8):b++(instL x++r)=(b++((wordsL (9::(formOf x.op).word) [x.a,x.b,x.at_]++tailL x)++ [10]))++r:=by simp[instL,tailL]
theorem funcL_eq (f:Cf) (b r:List UInt8):b++(funcL f++r)=(b++(wordsL (wordsL (headL f) [f.params,f.slots,f.around]) f.taken++ [10]))++(f.code.flatMap instL++r):=by simp[funcL,headL]
theorem listL_eq (p:Cp):listL p=(Lib.join (([103,108,111,98,97,108,115]:List UInt8)::p.globals.map fun s=>s.data.toList) [32]++ [10])++p.funcs.flatMap funcL:=by
 rw[Lib.join_cons]
 unfold listL Lib.joinTail
 rw[List.map_map,←List.flatMap_def]
 simp[Function.comp_def]
theorem wordsL_le (t:List UInt8):∀l:List Int,t.length+l.length≤(wordsL t l).length
 | []=>by simp[wordsL]
 |a::l=>by
  have:=wordsL_le t l
  unfold wordsL at this⊢
  simp only[List.flatMap_cons,List.length_append,List.length_cons] at this⊢
  omega
section
variable {P:Program} (w:World)
theorem wpList_append_row {ops:Array Oper} {rest:List Oper} {o:Oper} {a:Act} {Q:Exit→Act→World→Prop} (hgd:o.guard=none) (s x:Operand) (t:TypeId)
  (ho:o.op= .call {callee:= .builtin .append,args:= #[s,x],argTypes:= #[t,t]}) (e:TypeId) (i:TypeInfo) (z:Value) (ht:P.underlying t=some (.slice e)) (hi:P.info? e=some i) (hz:i.zero=some z)
  (hsize:i.size=1) (hby:i.bytes=16)
  (b:Nat) (u:Value) (hs:a.eval s= .slice (some ⟨b,0,none⟩) 1 1) (hc:w.cell? ⟨b,0,none⟩=some u) (ga:Option Addr) (m gc:Nat) (hx:a.eval x= .slice ga m gc) (us:List Value) (hm:us.length=m) (hr:RowIs w w.heap.size ga us) (hmb:m≤1000000000)
  (h:∀bk cap w',Below w.heap.size w w'→bk<w'.heap.size→1+m≤cap→(∀j v,(u::us)[j]? =some v→w'.cell? ⟨bk,0+j,none⟩=some v)→wpList P ops Q rest (a.put o.dst (.slice (some ⟨bk,0,none⟩) (1+m) cap)) w'):wpList P ops Q (o::rest) a w:=by
 have hbl:b<w.heap.size:=World.block_lt_of_cell? w _ hc
 refine wpList_plain hgd fun K hK=> ?_
 by_cases h0:m=0
 ·subst h0
  obtain rfl:us=[]:=List.eq_nil_of_length_eq_zero hm
  have hf:(Builtin.firstCells i.size 0 (.slice ga 0 gc)).run P w= .ok #[] w:=by
   cases ga with
   |none=>exact run_firstCells_none w i.size 0 0 gc
   |some a=>exact run_firstCells_some w i.size 0 a 0 gc [] (by simp) (fun j v h=>by cases h)
  have hr:(Builtin.append_ #[t,t] o.type #[.slice (some ⟨b,0,none⟩) 1 1,.slice ga 0 gc]).run P w= .ok (.slice (some ⟨b,0,none⟩) 1 1) w:=by
   simp[Builtin.append_,run_underlying ht,sizeOf,typeInfo,hi,Builtin.lenOf,hf,storeCells]
  unfold Oper.wp execOp
  simp only[ho,resolve,invoke,builtin,Sem.run_bind,Sem.run_pure,Result.andThen_ok,List.map_toArray,List.map_cons,List.map_nil,hs,hx,hr]
  refine hK _ _ (h b 1 w (Below.refl _ _) hbl (Nat.le_refl _) fun j v hj=> ?_)
  match j,hj with
  |0,hj=>rw[←Option.some.inj hj];exact hc
 ·obtain⟨g,q,rfl,hg,hcs⟩:=hr.at (by omega)
  have hr:=run_append_grow (P:=P) w t o.type e i z ht hi hz ⟨b,0,none⟩ 1 1 [u] (by simp[hsize]) (fun j v hj=>by
   match j,hj with
   |0,hj=>rw[←Option.some.inj hj];exact hc) ⟨g,q,none⟩ m gc us (by rw[hsize];omega) (fun j v hj=>by rw[Addr.add_lit];exact hcs j v hj) (by omega) (by omega) (growslice_fits (by omega) (by rw[hby];omega))
  unfold Oper.wp execOp
  simp only[ho,resolve,invoke,builtin,Sem.run_bind,Sem.run_pure,Result.andThen_ok,List.map_toArray,List.map_cons,List.map_nil,hs,hx,hr]
  refine hK _ _ (h w.heap.size _ _ ⟨rfl,rfl,rfl,by simp,fun k hk=>heap_alloc_old w.drew _ hk⟩ (by simp) (grownCap_ge w (1+m) 1 e) fun j v hj=> ?_)
  rw[Nat.zero_add]
  refine(cell_of_row _ _ j _ _ _ (heap_alloc_new w.drew _)).trans ?_
  rw[←Array.getElem?_toList]
  simp only[Array.toList_append,List.cons_append,List.nil_append]
  have hl:=(List.getElem?_eq_some_iff.1 hj).1
  rw[←List.cons_append,List.getElem?_append_left (by simpa using hl)]
  exact hj
end
end Go.Proofs.YtdjbkppdppdcgaaGreatDoor
