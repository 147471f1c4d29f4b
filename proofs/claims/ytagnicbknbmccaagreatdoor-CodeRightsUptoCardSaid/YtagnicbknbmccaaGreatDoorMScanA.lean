/- lex.sixteenth, lex.escape, lex.literal. lex.literal. lex.Quote. A program of code as lines, in plain form: List, Read; what is right about an instruction. Bridges: a text parted at a byte. What Read takes is what List writes: the lines again. Numbers and quoted texts read back. What List writes is what Read takes. CodeTurns, the plain law: in a right program each way back leads to a step, or to a loop's turn. What List writes of a right program is what Read takes: the whole. What Decode takes is what Encode writes: the bytes again. What Encode writes is what Decode takes. What the walk over instructions asks of one that is fine by itself. A right program of code is written and read back: what List and Encode ask of it holds. The walk over instructions: what holds from round to round. The chapter's least program, in plain form. guiseref13.whole in plain form: an int's digits are asked for sign by sign; it is what reading and writing the number says. -/
import Derived.Test.YtagnicbknbmccaaGreatDoorShelf
import Derived.Deep.RegionWith
import Derived.Laws.IdiomStrings
import Derived.Laws.BytesArg
import Derived.Lib.ItoaNum
import Derived.Lib.ParseIntB
import Derived.Lib.SplitLaws
import Derived.Test.YtagnicbknbmccaaGreatDoorMLex1
import Derived.Test.YtagnicbknbmccaaGreatDoorLay
import Derived.Test.YtagnicbknbmccaaGreatDoorMCwF
import Derived.Test.YtagnicbknbmccaaGreatDoorSqC
namespace Go.Proofs.YtagnicbknbmccaaGreatDoor
open Go.RowKit
def six (c:UInt8):Int:=Lib.indexByte [48,49,50,51,52,53,54,55,56,57,97,98,99,100,101,102] (bits .or .u8 (c.toNat:Int) (bits .and .u8 32 (bits .and .u8 (c.toNat:Int) 64/2))).toNat.toUInt8
theorem ba0 (c:UInt8) (r:List UInt8) (h:0<(⟨⟨c::r⟩⟩:ByteArray).size):(⟨⟨c::r⟩⟩:ByteArray)[0]'h=c:=rfl
theorem ba1 (c a:UInt8) (r:List UInt8) (h:1<(⟨⟨c::a::r⟩⟩:ByteArray).size):(⟨⟨c::a::r⟩⟩:ByteArray)[1]'h=a:=rfl
theorem ba2 (c a b:UInt8) (r:List UInt8) (h:2<(⟨⟨c::a::b::r⟩⟩:ByteArray).size):(⟨⟨c::a::b::r⟩⟩:ByteArray)[2]'h=b:=rfl
attribute [local go_sem] ba0 ba1 ba2
def hexOf (n:Nat):UInt8:=([48,49,50,51,52,53,54,55,56,57,97,98,99,100,101,102]:List UInt8).getD n 0
def quoteC (c:UInt8):List UInt8:=if c=34∨c=92 then [92,c] else if c=10 then [92,110] else if c=9 then [92,116] else if c.toNat<32∨126<c.toNat then [92,120,hexOf (c.toNat/16),hexOf (c.toNat % 16)] else [c]
def quoteL:List UInt8→List UInt8
 | []=> []
 |c::r=>quoteC c++quoteL r
def splitC (c:UInt8):List UInt8→List (List UInt8)
 | []=> [[]]
 |x::r=>if x=c then []::splitC c r else match splitC c r with
  | []=> [[x]]
  |y::ys=>(x::y)::ys
def splitM (c:UInt8):Nat→List UInt8→List (List UInt8)
 |0,s=> [s]
 |n+1,s=>match cutAt c s with
  |(t,none)=> [t]
  |(t,some r)=>t::splitM c n r
def intOfL (s:List UInt8):Option Int:=match Lib.parseIntB 64 s with
 | .ok n=>if Lib.itoa n=s then some n else none
 |_=>none
def nodup:List (List UInt8)→Bool
 | []=>true
 |x::r=> !r.contains x&&nodup r
def namesB (s:List UInt8) (n:Int):Bool:=
 (splitC 32 s).all nameL&&(nodup ((splitC 32 s).drop 1)&&decide (((splitC 32 s).length:Int)=n))
def hexV (c:UInt8):Option Nat:=if 48≤c.toNat∧c.toNat≤57 then some (c.toNat-48) else if 97≤c.toNat∧c.toNat≤102 then some (c.toNat-87) else none
def hexNum:List UInt8→Nat→Option Nat
 | [],n=>some n
 |c::r,n=>match hexV c with
  |none=>none
  |some d=>hexNum r (16*n+d)
def floatBitsB (s:List UInt8):Bool:=decide (s.length=16)&&match hexNum s 0 with
 |none=>false
 |some n=> !(n/4503599627370496 % 2048==2047&& !(n % 4503599627370496==0))||n==0x7FF8000000000001
def saysB (x:Ci):Bool:=
 let s:=x.text.data.toList
 match (formOf x.op).text with
 |12=>(intOfL s).isSome
 |13=>floatBitsB s
 |14=>decide (s.length≤65536)
 |15=>typedB s (x.a==1) false
 |16=>amongB unaryW s
 |17=>amongB binaryW s
 |18=>amongB truthW s
 |19=>typedB s false false
 |20=>nameL s
 |21=>namesB s 2
 |22=>namesB s (x.a+1)
 |23=>(x.a==2&&s.isEmpty)||(decide (x.a<2)&&typedB s (x.a==1) true)
 |24=>amongB builtW s
 |_=>s.isEmpty
def numberedB (p:Cp) (f:Nat) (x:Ci):Bool:=
 match p.funcs[f]? with
 |none=>false
 |some o=>
  let below (n:Int):Bool:=decide (0≤x.a)&&decide (x.a<n)
  match (formOf x.op).a with
  |0=>x.a==0
  |1=>below 2
  |2=>below 3
  |3=>below o.slots
  |4=>below p.globals.length
  |5=>below o.taken.length
  |6=>decide (1≤x.a)&&decide (x.a≤7)
  |7=>below 20001
  |8=>below 31
  |9=>decide (0<x.a)&&(match p.funcs[x.a.toNat]? with
   |none=>false
   |some g=>g.around== -1||g.around==f)
  |10=>below o.code.length
  |11=>x.a==2||x.a==3
  |_=>below 0
def fineB (p:Cp) (f:Nat) (code:List Ci) (k:Nat) (x:Ci):Bool:=
 !(formOf x.op).word.isEmpty&&(decide (0≤x.at_)&&(decide (x.at_≤60000)&&(numberedB p f x&&(saysB x&&
  ((x.b==0||(x.op==26&&(x.b==1||(x.a==2&&(x.b==2||x.b==3)))))&&
   ((!goesB x.op||(decide ((k:Int)<x.a)||(match code[x.a.toNat]? with
    |none=>false
    |some y=>y.op==1||y.op==2)))&&
    (decide (k+1<code.length)||(x.op==50||x.op==34))))))))
structure Cwr where
 code:Int
 at_:Int
 ins:Option Int
def headsFrom (fs:List Cf) (i:Nat) (l:List Cf) (old:List (List UInt8)):Option Nat:=match l with
 | []=>none
 |f::r=>if headedB fs i f old then headsFrom fs (i+1) r (if i≠0∧f.around= -1 then f.name.data.toList::old else old) else some i
def fineFrom (p:Cp) (f:Nat) (code:List Ci) (k:Nat) (l:List Ci):Option Nat:=match l with
 | []=>none
 |x::r=>if fineB p f code k x then fineFrom p f code (k+1) r else some k
def codesFrom (p:Cp) (i:Nat) (l:List Cf):Option Cwr:=match l with
 | []=>none
 |f::r=>if f.code=[] then some ⟨130,i,none⟩ else match fineFrom p i f.code 0 f.code with
  |some k=>some ⟨130,i,some k⟩
  |none=>codesFrom p (i+1) r
def fitsFrom (i:Nat) (l:List Cf):Option Cwr:=match l with
 | []=>none
 |f::r=>match fitsP f.code with
  |some k=>some ⟨130,i,some k⟩
  |none=>fitsFrom (i+1) r
def rightC (p:Cp):Option Cwr:=
 if p.funcs.length<1∨20000<p.funcs.length∨20000<p.globals.length∨60000<IntKind.i64.wrap (manySum p.funcs) then some ⟨22,0,none⟩
 else match manyFrom p.funcs 0 with
 |some i=>some ⟨22,i,none⟩
 |none=>if !globalsB [] (p.globals.map fun s=>s.data.toList) then some ⟨130,0,none⟩ else match headsFrom p.funcs 0 p.funcs [] with
  |some i=>some ⟨130,i,none⟩
  |none=>match codesFrom p 0 p.funcs with
   |some w=>some w
   |none=>fitsFrom 0 p.funcs
def wordsL (w:List UInt8) (l:List Int):List UInt8:=w++l.flatMap fun n=>32::Lib.itoa n
def instL (x:Ci):List UInt8:=wordsL (9::(formOf x.op).word) [x.a,x.b,x.at_]++((if x.text.data.toList=[] then [] else 32::(34::quoteL x.text.data.toList++ [34]))++ [10])
def funcL (f:Cf):List UInt8:=wordsL (wordsL ([102,117,110,99,32]++(if f.name.data.toList=[] then [45] else f.name.data.toList)) [f.params,f.slots,f.around]) f.taken++(10::f.code.flatMap instL)
def listL (p:Cp):List UInt8:=[103,108,111,98,97,108,115]++(p.globals.flatMap (fun s=>32::s.data.toList)++(10::p.funcs.flatMap funcL))
def intsL:List (List UInt8)→Option (List Int)
 | []=>some []
 |s::r=>match intOfL s,intsL r with
  |some n,some l=>some (n::l)
  |_,_=>none
def opFrom (s:List UInt8):Nat→Nat→Nat
 |0,_=>0
 |f+1,op=>if(formOf op).word==s then op else opFrom s f (op+1)
def operationL (s:List UInt8):Nat:=opFrom s 53 1
theorem cutAt_spec (c:UInt8):∀s:List UInt8,((cutAt c s).2=none→(cutAt c s).1=s∧Lib.indexByte s c= -1)∧∀r,(cutAt c s).2=some r→Lib.indexByte s c=((cutAt c s).1.length:Int)∧s=(cutAt c s).1++c::r
 | []=>⟨fun _=>⟨rfl,rfl⟩,fun r h=>(by cases h)⟩
 |x::q=>by
  have ih:=cutAt_spec c q
  by_cases hx:x=c
  ·subst hx
   rw[cutAt,if_pos rfl]
   refine⟨fun h=>(by cases h),fun r h=> ?_⟩
   cases h
   refine⟨?_,rfl⟩
   rw[Lib.indexByte,if_pos (by simp)];rfl
  ·rw[cutAt,if_neg hx]
   have hb:¬(x==c)=true:=by simp[hx]
   refine⟨fun h=> ?_,fun r h=> ?_⟩
   ·obtain⟨h1,h2⟩:=ih.1 h
    refine⟨by rw[h1], ?_⟩
    rw[Lib.indexByte,if_neg hb,if_pos (by rw[h2];rfl)]
   ·obtain⟨h1,h2⟩:=ih.2 r h
    refine⟨?_,by rw[List.cons_append,←h2]⟩
    rw[Lib.indexByte,if_neg hb,h1,if_neg (by simp)]
    simp
theorem cut_one (s:List UInt8) (c:UInt8):Lib.cut s [c]=match cutAt c s with
  |(_,none)=>(s,[],false)
  |(t,some r)=>(t,r,true):=by
 obtain⟨h1,h2⟩:=cutAt_spec c s
 unfold Lib.cut
 rw[Lib.index_one]
 rcases hc:cutAt c s with⟨t,r⟩
 cases r with
 |none=>
  rw[hc] at h1
  rw[(h1 rfl).2,if_neg (by decide)]
 |some r=>
  rw[hc] at h2
  obtain⟨h3,h4⟩:=h2 r rfl
  rw[h3,if_pos (by omega)]
  simp only at h4
  rw[h4]
  simp
theorem splitC_cut (c:UInt8):∀s:List UInt8,splitC c s=match cutAt c s with
  |(t,none)=> [t]
  |(t,some r)=>t::splitC c r
 | []=>rfl
 |x::q=>by
  by_cases hx:x=c
  ·rw[splitC,if_pos hx,cutAt,if_pos hx]
  ·rw[splitC,if_neg hx,cutAt,if_neg hx,splitC_cut c q]
   rcases cutAt c q with⟨t,_|r⟩<;>rfl
theorem splitK_one (c:UInt8):∀(k:Nat) (s:List UInt8),Lib.splitK [c] 0 k s=splitM c k s
 |0,_=>rfl
 |k+1,s=>by
  obtain⟨h1,h2⟩:=cutAt_spec c s
  rw[Lib.splitK,splitM,Lib.index_one]
  rcases hc:cutAt c s with⟨t,r⟩
  rw[hc] at h1 h2
  cases r with
  |none=>rw[(h1 rfl).2,if_pos (by decide)];exact congrArg (fun z=> [z]) (h1 rfl).1.symm
  |some r=>
   obtain⟨h3,h4⟩:=h2 r rfl
   rw[h3,if_neg (by simp),splitK_one c k]
   simp only at h4
   rw[h4]
   simp
theorem count_cut (c:UInt8) (s:List UInt8):((cutAt c s).2=none→s.count c=0)∧∀r,(cutAt c s).2=some r→s.count c=r.count c+1:=by
 induction s with
 |nil=>exact⟨fun _=>rfl,fun r h=>(by cases h)⟩
 |cons x q ih=>
  by_cases hx:x=c
  ·rw[cutAt,if_pos hx]
   refine⟨fun h=>(by cases h),fun r h=> ?_⟩
   cases h
   rw[hx,List.count_cons_self]
  ·rw[cutAt,if_neg hx,List.count_cons_of_ne (by simpa using hx)]
   exact ih
theorem splitM_all (c:UInt8):∀(k:Nat) (s:List UInt8),s.count c≤k→splitM c k s=splitC c s
 |0,s,h=>by
  rw[splitC_cut,splitM]
  have h1:=(cutAt_spec c s).1
  have h2:=(count_cut c s).2
  rcases hc:cutAt c s with⟨t,r⟩
  rw[hc] at h1 h2
  cases r with
  |none=>exact congrArg (fun z=> [z]) (h1 rfl).1.symm
  |some r=>have:=h2 r rfl;omega
 |k+1,s,h=>by
  rw[splitC_cut,splitM]
  have h2:=(count_cut c s).2
  rcases hc:cutAt c s with⟨t,r⟩
  rw[hc] at h2
  cases r with
  |none=>rfl
  |some r=>
   have:=h2 r rfl
   simp only
   rw[splitM_all c k r (by omega)]
theorem split_one (s:ByteArray) (c:UInt8):(Lib.splitB ⟨#[c]⟩ 0 (Lib.countB s ⟨#[c]⟩) s).map (·.data.toList)=splitC c s.data.toList:=by
 rw[Lib.splitB_data,show(⟨#[c]⟩:ByteArray).data.toList=[c] from rfl,splitK_one]
 refine splitM_all c _ _ ?_
 unfold Lib.countB
 rw[show(⟨#[c]⟩:ByteArray).data.toList=[c] from rfl,Lib.count_one]
 exact Nat.le_refl _
theorem dig_nat {d:Nat} (h:d<10):(UInt8.ofNat (48+d)).toNat=48+d:=by
 rw[UInt8.toNat_ofNat'];exact Nat.mod_eq_of_lt (by omega)
theorem parseU_dec (M:Nat) (hM:M≤18446744073709551615) (r:List UInt8):∀(k u:Nat),u<k→u≤M→Lib.parseUintM M 0 (Lib.decDigits u++r)=Lib.parseUintM M u r:=by
 intro k
 induction k generalizing r with
 |zero=>intro u hu _;omega
 |succ k ih=>
  intro u hu hm
  by_cases h10:u<10
  ·rw[Lib.decDigits,dif_pos h10,List.cons_append,List.nil_append,Lib.parseUintM,dig_nat h10,if_pos (by omega),if_neg (by omega),if_neg (by omega)]
   congr 1
   omega
  ·rw[Lib.decDigits,dif_neg h10,List.append_assoc,ih _ (u/10) (by omega) (by omega),List.cons_append,List.nil_append,Lib.parseUintM,dig_nat (by omega),if_pos (by omega),if_neg (by omega),if_neg (by omega)]
   congr 1
   omega
theorem dec_head:∀(k u:Nat),u<k→∃c r,Lib.decDigits u=c::r∧48≤c.toNat∧c.toNat≤57:=by
 intro k
 induction k with
 |zero=>intro u hu;omega
 |succ k ih=>
  intro u hu
  by_cases h10:u<10
  ·exact⟨_,[],by rw[Lib.decDigits,dif_pos h10],by rw[dig_nat h10];omega,by rw[dig_nat h10];omega⟩
  ·obtain⟨c,r,h1,h2,h3⟩:=ih (u/10) (by omega)
   exact⟨c,r++ [UInt8.ofNat (48+u % 10)],by rw[Lib.decDigits,dif_neg h10,h1];rfl,h2,h3⟩
theorem dec_all:∀(k u:Nat),u<k→∀c∈Lib.decDigits u,48≤c.toNat∧c.toNat≤57:=by
 intro k
 induction k with
 |zero=>intro u hu;omega
 |succ k ih=>
  intro u hu c hc
  by_cases h10:u<10
  ·rw[Lib.decDigits,dif_pos h10] at hc
   rw[List.mem_singleton.1 hc,dig_nat h10];omega
  ·rw[Lib.decDigits,dif_neg h10] at hc
   rcases List.mem_append.1 hc with hc|hc
   ·exact ih (u/10) (by omega) c hc
   ·rw[List.mem_singleton.1 hc,dig_nat (by omega)];omega
theorem int_back {n:Int} (h:okI n):intOfL (Lib.itoa n)=some n:=by
 have hp:Lib.parseIntB 64 (Lib.itoa n)= .ok n:=by
  obtain⟨h1,h2⟩:=h
  have e63:(2:Nat)^(64-1)=9223372036854775808:=by decide
  unfold Lib.itoa
  by_cases hn:n<0
  ·rw[if_pos hn]
   obtain⟨c,r,hd,_,_⟩:=dec_head (n.natAbs+1) n.natAbs (by omega)
   have hpu:Lib.parseUintB 64 (Lib.decDigits n.natAbs)= .ok n.natAbs:=by
    unfold Lib.parseUintB
    rw[if_neg (by rw[hd];simp)]
    have:=parseU_dec (2^64-1) (by decide) [] (n.natAbs+1) n.natAbs (by omega) (by omega)
    rw[List.append_nil] at this
    rw[this];rfl
   unfold Lib.parseIntB
   simp only[show(45:UInt8).toNat=45 from rfl,or_true,if_true,hpu,not_true_eq_false,false_and,if_false,true_and,e63]
   rw[if_neg (by omega)]
   exact congrArg _ (by omega)
  ·rw[if_neg hn]
   obtain⟨c,r,hd,hc1,hc2⟩:=dec_head (n.toNat+1) n.toNat (by omega)
   have hpu:Lib.parseUintB 64 (Lib.decDigits n.toNat)= .ok n.toNat:=by
    unfold Lib.parseUintB
    rw[if_neg (by rw[hd];simp)]
    have:=parseU_dec (2^64-1) (by decide) [] (n.toNat+1) n.toNat (by omega) (by omega)
    rw[List.append_nil] at this
    rw[this];rfl
   rw[hd] at hpu⊢
   have hs:¬c.toNat=43:=by omega
   have hs2:¬c.toNat=45:=by omega
   unfold Lib.parseIntB
   simp only[hs,or_false,if_false,hs2,not_false_eq_true,true_and,false_and,e63]
   rw[hpu]
   simp only
   rw[if_neg (by omega)]
   exact congrArg _ (by omega)
 unfold intOfL
 rw[hp]
 simp
theorem codes_at {p:Cp}:∀(l:List Cf) (i:Nat),codesFrom p i l=none→∀(j:Nat) (f:Cf),l[j]? =some f→f.code≠ []∧fineFrom p (i+j) f.code 0 f.code=none
 | [],_,_,j,f,hf=>by simp at hf
 |g::r,i,h,j,f,hf=>by
  rw[codesFrom] at h
  split at h
  ·cases h
  ·rename_i hne
   split at h
   ·cases h
   ·rename_i hfi
    cases j with
    |zero=>
     simp only[List.getElem?_cons_zero,Option.some.injEq] at hf
     subst hf
     exact⟨hne,hfi⟩
    |succ j=>
     rw[List.getElem?_cons_succ] at hf
     have:=codes_at r (i+1) h j f hf
     rw[show i+1+j=i+(j+1) by omega] at this
     exact this
theorem fine_at {p:Cp} {f:Nat} {code:List Ci}:∀(l:List Ci) (k:Nat),fineFrom p f code k l=none→∀(j:Nat) (x:Ci),l[j]? =some x→fineB p f code (k+j) x=true
 | [],_,_,j,x,hx=>by simp at hx
 |y::r,k,h,j,x,hx=>by
  rw[fineFrom] at h
  split at h
  ·rename_i hy
   cases j with
   |zero=>
    simp only[List.getElem?_cons_zero,Option.some.injEq] at hx
    subst hx
    exact hy
   |succ j=>
    rw[List.getElem?_cons_succ] at hx
    have:=fine_at r (k+1) h j x hx
    rw[show k+1+j=k+(j+1) by omega] at this
    exact this
  ·cases h
structure FitI (code:List Ci) (k:Nat) (x:Ci):Prop where
 last:x.op≠34→x.op≠50→k+1<code.length
 goes:goesB x.op=true→0≤x.a∧x.a<code.length
 slice:x.op=26→(x.a=2∨x.a=3)∧(x.b=0∨x.b=1∨x.b=2∨x.b=3)
 count:0≤(countedP x).2∧(countedP x).2≤40000
 op:1≤x.op∧x.op≤53
theorem form_op {op:Int} (h:(formOf op).word.isEmpty=false):1≤op∧op≤53:=by
 unfold formOf at h
 split at h
 ·assumption
 ·cases h
theorem fine_fit {p:Cp} {f:Nat} {o:Cf} {k:Nat} {x:Ci} (ho:p.funcs[f]? =some o) (h:fineB p f o.code k x=true):FitI o.code k x:=by
 unfold fineB at h
 simp only[Bool.and_eq_true,Bool.or_eq_true,decide_eq_true_eq,beq_iff_eq,Bool.not_eq_true'] at h
 obtain⟨hw,_,_,hn,_,hb,_,hl⟩:=h
 have hop:=form_op hw
 unfold numberedB at hn
 rw[ho] at hn
 simp only at hn
 have hc:(formOf x.op).a=7→0≤x.a∧x.a<20001:=fun e=>by rw[e] at hn;simpa using hn
 have hs:x.op=26→x.a=2∨x.a=3:=fun e=>by rw[e,show(formOf 26).a=11 from rfl] at hn;simpa using hn
 refine⟨fun h1 h2=> ?_,fun hg=> ?_,fun e=>⟨hs e, ?_⟩, ?_,hop⟩
 ·rcases hl with hl|hl|hl
  ·exact hl
  ·exact absurd hl h2
  ·exact absurd hl h1
 ·have e:(formOf x.op).a=10:=by simpa[goesB] using hg
  rw[e] at hn
  simpa using hn
 ·rcases hb with hb|⟨_,hb|⟨_,hb|hb⟩⟩
  ·exact .inl hb
  ·exact .inr (.inl hb)
  ·exact .inr (.inr (.inl hb))
  ·exact .inr (.inr (.inr hb))
 ·unfold countedP
  by_cases h1:x.op=27∨x.op=29∨x.op=46∨x.op=47∨x.op=48∨x.op=49
  ·rw[if_pos h1]
   simp only
   rcases h1 with e|e|e|e|e|e
   ·have:=hc (by rw[e];rfl);omega
   ·rw[e,show(formOf 29).a=8 from rfl] at hn
    have:0≤x.a∧x.a<31:=by simpa using hn
    omega
   all_goals (have:=hc (by rw[e];rfl);omega)
  ·rw[if_neg h1]
   by_cases h2:x.op=28
   ·rw[if_pos h2]
    have:=hc (by rw[h2];rfl)
    simp only
    omega
   ·rw[if_neg h2]
    by_cases h3:x.op=26
    ·rw[if_pos h3]
     have:=hs h3
     simp only
     split
     ·omega
     ·split<;>omega
    ·rw[if_neg h3]
     by_cases h4:x.op=53
     ·rw[if_pos h4]
      have:=hc (by rw[h4];rfl)
      simp only
      omega
     ·rw[if_neg h4]
      simp only
      omega
theorem dec_len:∀(k u:Nat),u<10^k→0<k→(Lib.decDigits u).length≤k
 |0,_,_,h=>absurd h (Nat.lt_irrefl 0)
 |k+1,u,h,_=>by
  by_cases h10:u<10
  ·rw[Lib.decDigits,dif_pos h10];simp
  ·have hk:0<k:=by
    rcases Nat.eq_zero_or_pos k with rfl|hk
    ·simp at h;omega
    ·exact hk
   rw[Lib.decDigits,dif_neg h10,List.length_append]
   have:=dec_len k (u/10) (by rw[Nat.pow_succ] at h;omega) hk
   simp only[List.length_cons,List.length_nil]
   omega
theorem parseI_ok {s:List UInt8} {n:Int} (h:Lib.parseIntB 64 s= .ok n):okI n:=by
 have e63:(2:Nat)^(64-1)=9223372036854775808:=by decide
 unfold Lib.parseIntB at h
 split at h
 ·cases h
 ·simp only at h
  split at h
  ·cases h
  ·cases h
  ·rename_i u hu
   rw[e63] at h
   split at h
   ·cases h
   ·rename_i h1
    split at h
    ·cases h
    ·rename_i h2
     injection h with h
     subst h
     unfold okI
     split
     ·rename_i hn
      have:¬9223372036854775808<u:=fun e=>h2 ⟨hn,e⟩
      omega
     ·rename_i hn
      have:¬9223372036854775808≤u:=fun e=>h1 ⟨hn,e⟩
      omega
structure Inv (code:List Ci) (c:Cst):Prop where
 at_:c.at_.length=code.length+1
 seen:c.seen.length=code.length
 todo:∀x∈c.todo,∃k:Nat,x=(k:Int)∧k<code.length∧c.at_.getD k none≠none
theorem Inv.hand {code:List Ci} {c:Cst} (h:Inv code c) {k:Nat} (hk:k<code.length) (s:List UInt8):Inv code (handP c k s).1∧(handP c k s).1.mu≤c.mu+1:=by
 obtain⟨h1,h2,h3,h4⟩:=hand_todo c k s
 refine⟨⟨by rw[h4];exact h.at_,by rw[h3];exact h.seen,fun x hx=> ?_⟩, ?_⟩
 ·rcases h1 x hx with hx|hx
  ·obtain⟨j,e1,e2,e3⟩:=h.todo x hx
   exact⟨j,e1,e2,hand_some c k s j (.inl e3)⟩
  ·exact⟨k,hx,hk,hand_some c k s k (.inr ⟨rfl,by rw[h.at_];omega⟩)⟩
 ·unfold Cst.mu
  rw[h3]
  omega
theorem count_set:∀(l:List Bool) (k:Nat),k<l.length→l.getD k false=false→(l.set k true).count false+1=l.count false
 | [],_,h,_=>by simp at h
 |b::l,0,_,h=>by
  simp only[List.getD_cons_zero] at h
  subst h
  simp
 |b::l,k+1,h,h2=>by
  have:=count_set l k (by simpa using h) (by simpa using h2)
  rw[List.set_cons_succ,List.count_cons,List.count_cons]
  omega
theorem pop_at {code:List Ci} {c:Cst} (h:Inv code c) (hne:c.todo≠ []):∃k:Nat,(popL c.todo).1=(k:Int)∧k<code.length∧∃s,c.at_.getD k none=some s:=by
 obtain⟨h1,_,_⟩:=pop_mem hne
 obtain⟨k,e1,e2,e3⟩:=h.todo _ h1
 exact⟨k,e1,e2,Option.ne_none_iff_exists'.1 e3⟩
theorem Inv.pop {code:List Ci} {c:Cst} (h:Inv code c) (hne:c.todo≠ []):Inv code {c with todo:=(popL c.todo).2}∧({c with todo:=(popL c.todo).2}:Cst).mu+1=c.mu:=by
 obtain⟨_,h2,h3⟩:=pop_mem hne
 have h0:0<c.todo.length:=List.length_pos_iff.2 hne
 refine⟨⟨h.at_,h.seen,fun x hx=>h.todo x (h2 x hx)⟩, ?_⟩
 unfold Cst.mu
 simp only
 rw[h3]
 omega
theorem Inv.look {code:List Ci} {c:Cst} (h:Inv code c) {k:Nat} (hk:k<code.length) (hs:c.seen.getD k false=false):Inv code {c with seen:=c.seen.set k true}∧({c with seen:=c.seen.set k true}:Cst).mu+3=c.mu:=by
 refine⟨⟨h.at_,by simp only[List.length_set];exact h.seen,h.todo⟩, ?_⟩
 have:=count_set c.seen k (by rw[h.seen];exact hk) hs
 unfold Cst.mu
 simp only
 omega
theorem Inv.round {code:List Ci} {c:Cst} (h:Inv code c) (hfit:∀(k:Nat) (x:Ci),code[k]? =some x→FitI code k x) (k:Nat):(roundP code c k).1=none→Inv code (roundP code c k).2∧(roundP code c k).2.mu≤c.mu+2:=by
 unfold roundP
 split
 ·rename_i x s hx hs
  have hf:=hfit k x hx
  split
  ·intro h;cases h
  ·rename_i nx th _
   by_cases hj:x.op=34∨x.op=50
   ·simp only[if_pos hj]
    rw[if_neg (by simp)]
    by_cases hg:goesB x.op=true
    ·simp only[if_pos hg]
     obtain⟨g1,g2⟩:=hf.goes hg
     obtain⟨e1,e2⟩:=h.hand (k:=x.a.toNat) (by omega) th
     split
     ·intro h;cases h
     ·intro _;exact⟨e1,by simp only;omega⟩
    ·simp only[if_neg hg]
     rw[if_neg (by simp)]
     intro _;exact⟨h,by simp only;omega⟩
   ·simp only[if_neg hj]
    have hk1:=hf.last (fun e=>hj (.inl e)) (fun e=>hj (.inr e))
    obtain⟨e1,e2⟩:=h.hand (k:=k+1) hk1 nx
    split
    ·intro h;cases h
    ·by_cases hg:goesB x.op=true
     ·simp only[if_pos hg]
      obtain⟨g1,g2⟩:=hf.goes hg
      obtain⟨e3,e4⟩:=e1.hand (k:=x.a.toNat) (by omega) th
      split
      ·intro h;cases h
      ·intro _;exact⟨e3,by simp only;omega⟩
     ·simp only[if_neg hg]
      rw[if_neg (by simp)]
      intro _;exact⟨e1,by simp only;omega⟩
 ·intro _;exact⟨h,by simp only;omega⟩
theorem Inv.begin (code:List Ci) (h0:0<code.length):Inv code ⟨some []::List.replicate code.length none,List.replicate code.length false,[0]⟩∧(⟨some []::List.replicate code.length none,List.replicate code.length false,[0]⟩:Cst).mu=3*code.length+1:=by
 refine⟨⟨by simp,by simp,fun x hx=>⟨0,by simpa using hx,h0,by simp⟩⟩, ?_⟩
 unfold Cst.mu
 simp
def least:Cp:=⟨[⟨⟨#[]⟩,0,1,[],-1,[⟨7,0,0,⟨#[]⟩,0⟩,⟨50,0,0,⟨#[]⟩,0⟩]⟩],[]⟩
def leastB:List UInt8:=[71,67,48,49,0,2,0,0,2,0,1,4,14,0,0,0,0,100,0,0,0,0]
def leastL:List UInt8:=[103,108,111,98,97,108,115,10,102,117,110,99,32,45,32,48,32,49,32,45,49,10,9,110,105,108,32,48,32,48,32,48,10,9,114,101,116,117,114,110,32,48,32,48,32,48,10]
theorem least_bytes:encodeB least=leastB:=by kernel_rfl
theorem itoa_0:Lib.itoa 0=[48]:=by unfold Lib.itoa;rw[if_neg (by decide)];unfold Lib.decDigits;rfl
theorem itoa_1:Lib.itoa 1=[49]:=by unfold Lib.itoa;rw[if_neg (by decide)];unfold Lib.decDigits;rfl
theorem itoa_m1:Lib.itoa (-1)=[45,49]:=by unfold Lib.itoa;rw[if_pos (by decide)];unfold Lib.decDigits;rfl
theorem least_lines:listL least=leastL:=by
 simp only[listL,least,leastL,funcL,instL,wordsL,List.flatMap_cons,List.flatMap_nil,itoa_0,itoa_1,itoa_m1,List.append_nil]
 rfl
theorem int_0:intOfL [48]=some 0:=by
 unfold intOfL
 rw[show Lib.parseIntB 64 [48]= .ok 0 by rfl]
 simp only[itoa_0,if_true]
theorem int_1:intOfL [49]=some 1:=by
 unfold intOfL
 rw[show Lib.parseIntB 64 [49]= .ok 1 by rfl]
 simp only[itoa_1,if_true]
theorem int_m1:intOfL [45,49]=some (-1):=by
 unfold intOfL
 rw[show Lib.parseIntB 64 [45,49]= .ok (-1) by rfl]
 simp only[itoa_m1,if_true]
def digB (c:UInt8):Bool:=decide (48≤c.toNat)&&decide (c.toNat≤57)
theorem dl_append:∀(l:List UInt8) (c:UInt8) (n:Nat),digitsLoop (l++ [c]) n=10*digitsLoop l n+(c.toNat-48)
 | [],c,n=>rfl
 |d::r,c,n=>by
  show digitsLoop (r++ [c]) (10*n+(d.toNat-48))=_
  rw[dl_append r c]
  rfl
theorem dig_val {u:Nat}:(UInt8.ofNat (48+u % 10)).toNat=48+u % 10:=dig_nat (by omega)
theorem dl_dec:∀(k u:Nat),u<k→digitsLoop (Lib.decDigits u) 0=u
 |0,u,h=>by omega
 |k+1,u,h=>by
  rw[Lib.decDigits]
  split
  ·rename_i h10
   show 10*0+((UInt8.ofNat (48+u)).toNat-48)=u
   rw[dig_nat h10]
   omega
  ·rename_i h10
   rw[dl_append,dl_dec k (u/10) (by omega),dig_val]
   omega
theorem dec_first:∀(k u:Nat),u<k→1≤u→∃c r,Lib.decDigits u=c::r∧c≠48
 |0,u,h,_=>by omega
 |k+1,u,h,h1=>by
  by_cases h10:u<10
  ·refine⟨_,[],by rw[Lib.decDigits,dif_pos h10],fun e=> ?_⟩
   have:=congrArg UInt8.toNat e
   rw[dig_nat h10] at this
   have h48:(48:UInt8).toNat=48:=rfl
   omega
  ·obtain⟨c,r,e,hc⟩:=dec_first k (u/10) (by omega) (by omega)
   exact⟨c,_,by rw[Lib.decDigits,dif_neg h10,e,List.cons_append],hc⟩
theorem dl_pos:∀(l:List UInt8) (n:Nat),1≤n→1≤digitsLoop l n
 | [],_,h=>h
 |d::r,n,h=>dl_pos r _ (by omega)
theorem dl_first {c:UInt8} {r:List UInt8} (hc:digB c=true) (h:c≠48):1≤digitsLoop (c::r) 0:=by
 simp only[digB,Bool.and_eq_true,decide_eq_true_eq] at hc
 refine dl_pos r _ ?_
 have:c.toNat≠48:=fun e=>h (UInt8.toNat_inj.1 (by rw[e];rfl))
 omega
theorem u8_dig {c:UInt8} (hc:digB c=true):UInt8.ofNat (48+(c.toNat-48))=c:=by
 simp only[digB,Bool.and_eq_true,decide_eq_true_eq] at hc
 rw[show 48+(c.toNat-48)=c.toNat by omega,UInt8.ofNat_toNat]
theorem dec_of:∀(k:Nat) (l:List UInt8),l.length=k→l≠ []→l.all digB=true→(l.length=1∨l.head? ≠some 48)→Lib.decDigits (digitsLoop l 0)=l
 |0,l,h,h0,_,_=>absurd (List.eq_nil_of_length_eq_zero h) h0
 |k+1,l,h,h0,hd,hf=>by
  obtain⟨m,c,rfl⟩:∃m c,l=m++ [c]:=⟨l.dropLast,l.getLast h0,(List.dropLast_concat_getLast h0).symm⟩
  have hm:m.length=k:=by simpa using h
  rw[List.all_append,Bool.and_eq_true] at hd
  have hc:digB c=true:=by simpa using hd.2
  have hc2:=hc
  simp only[digB,Bool.and_eq_true,decide_eq_true_eq] at hc2
  rw[dl_append]
  by_cases hmn:m=[]
  ·subst hmn
   show Lib.decDigits (10*0+(c.toNat-48))=[c]
   rw[Lib.decDigits,dif_pos (by omega),show 48+(10*0+(c.toNat-48))=48+(c.toNat-48) by omega,u8_dig hc]
  ·obtain⟨a,r,rfl⟩:=List.exists_cons_of_ne_nil hmn
   have hne:(a::r).head? ≠some 48:=by
    rcases hf with e|e
    ·simp at e
    ·simpa using e
   have ha:a≠48:=fun e=>hne (by rw[e];rfl)
   have hp:=dl_first (c:=a) (r:=r) (by have:=hd.1;rw[List.all_cons,Bool.and_eq_true] at this;exact this.1) ha
   have ih:=dec_of k (a::r) hm (by simp) hd.1 (.inr hne)
   rw[Lib.decDigits,dif_neg (by omega),show(10*digitsLoop (a::r) 0+(c.toNat-48))/10=digitsLoop (a::r) 0 by omega,ih,show(10*digitsLoop (a::r) 0+(c.toNat-48)) % 10=c.toNat-48 by omega,u8_dig hc]
theorem dl_lt:∀(l:List UInt8) (n:Nat),l.all digB=true→digitsLoop l n<(n+1)*10^l.length
 | [],n,_=>by simp[digitsLoop]
 |c::r,n,h=>by
  rw[List.all_cons,Bool.and_eq_true] at h
  have hc:=h.1
  simp only[digB,Bool.and_eq_true,decide_eq_true_eq] at hc
  have ih:=dl_lt r (10*n+(c.toNat-48)) h.2
  show digitsLoop r (10*n+(c.toNat-48))<_
  refine Nat.lt_of_lt_of_le ih ?_
  rw[List.length_cons,Nat.pow_succ,Nat.mul_comm (10^r.length) 10,←Nat.mul_assoc]
  exact Nat.mul_le_mul_right _ (by omega)
def wholeR (s:List UInt8):Bool:=
 let neg:=s.head? ==some 45
 let t:=if neg then s.tail else s
 if t.length=0∨19<t.length∨(t.head? =some 48∧(1<t.length∨neg=true)) then false
 else if t.all digB=false then false
 else if t.length<19 then true
 else decide (digitsLoop t 0≤9223372036854775807)||(neg&&decide (digitsLoop t 0=9223372036854775808))
theorem whole_itoa {s:List UInt8} (h:wholeR s=true):∃n,okI n∧Lib.itoa n=s:=by
 unfold wholeR at h
 simp only at h
 obtain⟨neg,hneg⟩:∃neg,(s.head? ==some 45)=neg:=⟨_,rfl⟩
 obtain⟨t,ht⟩:∃t,(if neg=true then s.tail else s)=t:=⟨_,rfl⟩
 rw[hneg,ht] at h
 split at h
 ·cases h
 ·rename_i h1
  split at h
  ·cases h
  ·rename_i h2
   have hall:t.all digB=true:=by simpa using h2
   have hne:t≠ []:=fun e=>h1 (.inl (by rw[e];rfl))
   have hz:t.length=1∨t.head? ≠some 48:=by
    by_cases e:t.head? =some 48
    ·left
     have:¬1<t.length:=fun e2=>h1 (.inr (.inr ⟨e,.inl e2⟩))
     have:t.length≠0:=fun e2=>h1 (.inl e2)
     omega
    ·exact .inr e
   have hd:=dec_of t.length t rfl hne hall hz
   have hlt:=dl_lt t 0 hall
   have hb:digitsLoop t 0≤9223372036854775807∨(neg=true∧digitsLoop t 0=9223372036854775808):=by
    split at h
    ·rename_i h3
     left
     have h18:(10:Nat)^18=1000000000000000000:=by decide
     have h5:10^t.length≤1000000000000000000:=by rw[←h18];exact Nat.pow_le_pow_right (by decide) (by omega)
     rw[Nat.zero_add,Nat.one_mul] at hlt
     omega
    ·simp only[Bool.or_eq_true,Bool.and_eq_true,decide_eq_true_eq] at h
     exact h
   obtain⟨v,hv⟩:∃v,digitsLoop t 0=v:=⟨_,rfl⟩
   rw[hv] at hd hb
   clear hlt
   have hv2:v≤9223372036854775808:=hb.elim (fun e=>by omega) (fun e=>by omega)
   cases neg with
   |true=>
    have hs:s=45::t:=by
     match s,hneg,ht with
     | [],h,_=>cases h
     |c::r,h,ht=>
      have hc:c=45:=by simpa using h
      rw[if_pos rfl] at ht
      rw[hc,←ht]
      rfl
    have hz2:t.head? ≠some 48:=fun e=>h1 (.inr (.inr ⟨e,.inr rfl⟩))
    have hv1:1≤v:=by
     obtain⟨c,r,rfl⟩:=List.exists_cons_of_ne_nil hne
     rw[←hv]
     exact dl_first (by rw[List.all_cons,Bool.and_eq_true] at hall;exact hall.1) (fun e=>hz2 (by rw[e];rfl))
    refine⟨-(v:Int),⟨by omega,by omega⟩, ?_⟩
    unfold Lib.itoa
    rw[if_pos (by omega),show(-(v:Int)).natAbs=v by omega,hd,hs]
   |false=>
    rw[if_neg (by simp)] at ht
    have hv3:v≤9223372036854775807:=hb.elim id (fun e=>by cases e.1)
    refine⟨(v:Int),⟨by omega,by omega⟩, ?_⟩
    unfold Lib.itoa
    rw[if_neg (by omega),Int.toNat_natCast,hd,ht]
theorem lt19 {u:Nat} (h:u≤9223372036854775808):u<10^19:=by
 rw[show(10:Nat)^19=10000000000000000000 by decide]
 omega
theorem itoa_whole {n:Int} (h:okI n):wholeR (Lib.itoa n)=true:=by
 obtain⟨h1,h2⟩:=h
 have key:∀u:Nat,u≤9223372036854775808→(Lib.decDigits u).length≠0∧(Lib.decDigits u).length≤19∧(Lib.decDigits u).all digB=true∧digitsLoop (Lib.decDigits u) 0=u∧(Lib.decDigits u).head? ≠some 45:=fun u hu=>by
  obtain⟨c,r,e,c1,c2⟩:=dec_head (u+1) u (by omega)
  refine⟨by rw[e];simp,dec_len 19 u (lt19 hu) (by decide),List.all_eq_true.2 fun x hx=>by have:=dec_all (u+1) u (by omega) x hx;simp[digB,this],dl_dec (u+1) u (by omega), ?_⟩
  rw[e]
  intro he
  obtain rfl:c=45:=by simpa using he
  have:(45:UInt8).toNat=45:=rfl
  omega
 unfold Lib.itoa wholeR
 by_cases hn:n<0
 ·rw[if_pos hn]
  obtain⟨k1,k2,k3,k4,_⟩:=key n.natAbs (by omega)
  obtain⟨c,r,e,hc⟩:=dec_first (n.natAbs+1) n.natAbs (by omega) (by omega)
  have hh:(Lib.decDigits n.natAbs).head? ≠some 48:=by rw[e];simpa using hc
  simp only[List.head?_cons,beq_self_eq_true,if_true,List.tail_cons]
  rw[if_neg (by
   rintro(h|h|⟨h,_⟩)
   ·exact k1 h
   ·omega
   ·exact hh h),if_neg (by rw[k3];simp),k4]
  split
  ·rfl
  ·simp only[Bool.or_eq_true,Bool.and_eq_true,decide_eq_true_eq,true_and]
   omega
 ·rw[if_neg hn]
  obtain⟨k1,k2,k3,k4,k5⟩:=key n.toNat (by omega)
  have h45:((Lib.decDigits n.toNat).head? ==some 45)=false:=by simpa using k5
  simp only[h45,Bool.false_eq_true,if_false]
  rw[if_neg (by
   rintro(h|h|⟨h,h3⟩)
   ·exact k1 h
   ·omega
   ·rcases h3 with h3|h3
    ·by_cases h0:1≤n.toNat
     ·obtain⟨c,r,e,hc⟩:=dec_first (n.toNat+1) n.toNat (by omega) h0
      rw[e] at h
      exact hc (by simpa using h)
     ·have:n.toNat=0:=by omega
      rw[this] at h3
      have h00:(Lib.decDigits 0).length=1:=by rw[Lib.decDigits,dif_pos (by decide)];rfl
      omega
    ·cases h3),if_neg (by rw[k3];simp),k4]
  split
  ·rfl
  ·simp only[Bool.or_eq_true,decide_eq_true_eq]
   left
   omega
theorem int_ok {s:List UInt8} {n:Int} (h:intOfL s=some n):okI n∧Lib.itoa n=s:=by
 unfold intOfL at h
 split at h
 ·rename_i m hp
  split at h
  ·rename_i he
   obtain rfl:=Option.some.inj h
   refine⟨?_,he⟩
   unfold Lib.parseIntB at hp
   split at hp
   ·cases hp
   ·simp only at hp
    split at hp
    ·cases hp
    ·cases hp
    ·split at hp
     ·cases hp
     ·rename_i h1
      split at hp
      ·cases hp
      ·rename_i h2
       injection hp with hp
       have h63:(2:Nat)^(64-1)=9223372036854775808:=by decide
       rw[h63] at h1 h2
       unfold okI
       split at hp
       ·rename_i hn
        have:¬9223372036854775808<_:=fun e=>h2 ⟨hn,e⟩
        omega
       ·rename_i hn
        have:¬9223372036854775808≤_:=fun e=>h1 ⟨hn,e⟩
        omega
  ·cases h
 ·cases h
theorem wholeR_eq (s:List UInt8):wholeR s=(intOfL s).isSome:=by
 rw[Bool.eq_iff_iff]
 constructor
 ·intro h
  obtain⟨n,hn,rfl⟩:=whole_itoa h
  rw[int_back hn]
  rfl
 ·intro h
  obtain⟨n,hn⟩:=Option.isSome_iff_exists.1 h
  obtain⟨h1,rfl⟩:=int_ok hn
  exact itoa_whole h1
end Go.Proofs.YtagnicbknbmccaaGreatDoor
