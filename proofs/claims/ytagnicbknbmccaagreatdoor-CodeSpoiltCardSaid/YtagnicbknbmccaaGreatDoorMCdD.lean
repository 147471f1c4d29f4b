/- A program of code as lines, in plain form: List, Read; what is right about an instruction. Bridges: a text parted at a byte. What Read takes is what List writes: the lines again. Numbers and quoted texts read back. What Decode takes is what Encode writes: the bytes again. -/
import Derived.Lib.ItoaNum
import Derived.Lib.ParseIntB
import Derived.Lib.SplitLaws
import Derived.Test.YtagnicbknbmccaaGreatDoorMLex1
import Derived.Test.YtagnicbknbmccaaGreatDoorMScanA
namespace Go.Proofs.YtagnicbknbmccaaGreatDoor
def splitC (c:UInt8):List UInt8→List (List UInt8)
 | []=> [[]]
 |x::r=>if x=c then []::splitC c r else match splitC c r with
  | []=> [[x]]
  |y::ys=>(x::y)::ys
def splitM (c:UInt8):Nat→List UInt8→List (List UInt8)
 |0,s=> [s]
 |n+1,s=>match cutAt c s with
  |(t,none)=> [t]
  |(t,some r)=>t::splitM c n r
def intOfL (s:List UInt8):Option Int:=match Lib.parseIntB 64 s with
 | .ok n=>if Lib.itoa n=s then some n else none
 |_=>none
def nodup:List (List UInt8)→Bool
 | []=>true
 |x::r=> !r.contains x&&nodup r
def namesB (s:List UInt8) (n:Int):Bool:=
 (splitC 32 s).all nameL&&(nodup ((splitC 32 s).drop 1)&&decide (((splitC 32 s).length:Int)=n))
def hexV (c:UInt8):Option Nat:=if 48≤c.toNat∧c.toNat≤57 then some (c.toNat-48) else if 97≤c.toNat∧c.toNat≤102 then some (c.toNat-87) else none
def hexNum:List UInt8→Nat→Option Nat
 | [],n=>some n
 |c::r,n=>match hexV c with
  |none=>none
  |some d=>hexNum r (16*n+d)
def floatBitsB (s:List UInt8):Bool:=decide (s.length=16)&&match hexNum s 0 with
 |none=>false
 |some n=> !(n/4503599627370496 % 2048==2047&& !(n % 4503599627370496==0))||n==0x7FF8000000000001
def saysB (x:Ci):Bool:=
 let s:=x.text.data.toList
 match (formOf x.op).text with
 |12=>(intOfL s).isSome
 |13=>floatBitsB s
 |14=>decide (s.length≤65536)
 |15=>typedB s (x.a==1) false
 |16=>amongB unaryW s
 |17=>amongB binaryW s
 |18=>amongB truthW s
 |19=>typedB s false false
 |20=>nameL s
 |21=>namesB s 2
 |22=>namesB s (x.a+1)
 |23=>(x.a==2&&s.isEmpty)||(decide (x.a<2)&&typedB s (x.a==1) true)
 |24=>amongB builtW s
 |_=>s.isEmpty
def numberedB (p:Cp) (f:Nat) (x:Ci):Bool:=
 match p.funcs[f]? with
 |none=>false
 |some o=>
  let below (n:Int):Bool:=decide (0≤x.a)&&decide (x.a<n)
  match (formOf x.op).a with
  |0=>x.a==0
  |1=>below 2
  |2=>below 3
  |3=>below o.slots
  |4=>below p.globals.length
  |5=>below o.taken.length
  |6=>decide (1≤x.a)&&decide (x.a≤7)
  |7=>below 20001
  |8=>below 31
  |9=>decide (0<x.a)&&(match p.funcs[x.a.toNat]? with
   |none=>false
   |some g=>g.around== -1||g.around==f)
  |10=>below o.code.length
  |11=>x.a==2||x.a==3
  |_=>below 0
def fineB (p:Cp) (f:Nat) (code:List Ci) (k:Nat) (x:Ci):Bool:=
 !(formOf x.op).word.isEmpty&&(decide (0≤x.at_)&&(decide (x.at_≤60000)&&(numberedB p f x&&(saysB x&&
  ((x.b==0||(x.op==26&&(x.b==1||(x.a==2&&(x.b==2||x.b==3)))))&&
   ((!goesB x.op||(decide ((k:Int)<x.a)||(match code[x.a.toNat]? with
    |none=>false
    |some y=>y.op==1||y.op==2)))&&
    (decide (k+1<code.length)||(x.op==50||x.op==34))))))))
structure Cwr where
 code:Int
 at_:Int
 ins:Option Int
def headsFrom (fs:List Cf) (i:Nat) (l:List Cf) (old:List (List UInt8)):Option Nat:=match l with
 | []=>none
 |f::r=>if headedB fs i f old then headsFrom fs (i+1) r (if i≠0∧f.around= -1 then f.name.data.toList::old else old) else some i
def fineFrom (p:Cp) (f:Nat) (code:List Ci) (k:Nat) (l:List Ci):Option Nat:=match l with
 | []=>none
 |x::r=>if fineB p f code k x then fineFrom p f code (k+1) r else some k
def codesFrom (p:Cp) (i:Nat) (l:List Cf):Option Cwr:=match l with
 | []=>none
 |f::r=>if f.code=[] then some ⟨130,i,none⟩ else match fineFrom p i f.code 0 f.code with
  |some k=>some ⟨130,i,some k⟩
  |none=>codesFrom p (i+1) r
def fitsFrom (i:Nat) (l:List Cf):Option Cwr:=match l with
 | []=>none
 |f::r=>match fitsP f.code with
  |some k=>some ⟨130,i,some k⟩
  |none=>fitsFrom (i+1) r
def rightC (p:Cp):Option Cwr:=
 if p.funcs.length<1∨20000<p.funcs.length∨20000<p.globals.length∨60000<IntKind.i64.wrap (manySum p.funcs) then some ⟨22,0,none⟩
 else match manyFrom p.funcs 0 with
 |some i=>some ⟨22,i,none⟩
 |none=>if !globalsB [] (p.globals.map fun s=>s.data.toList) then some ⟨130,0,none⟩ else match headsFrom p.funcs 0 p.funcs [] with
  |some i=>some ⟨130,i,none⟩
  |none=>match codesFrom p 0 p.funcs with
   |some w=>some w
   |none=>fitsFrom 0 p.funcs
def wordsL (w:List UInt8) (l:List Int):List UInt8:=w++l.flatMap fun n=>32::Lib.itoa n
def instL (x:Ci):List UInt8:=wordsL (9::(formOf x.op).word) [x.a,x.b,x.at_]++((if x.text.data.toList=[] then [] else 32::(34::quoteL x.text.data.toList++ [34]))++ [10])
def funcL (f:Cf):List UInt8:=wordsL (wordsL ([102,117,110,99,32]++(if f.name.data.toList=[] then [45] else f.name.data.toList)) [f.params,f.slots,f.around]) f.taken++(10::f.code.flatMap instL)
def listL (p:Cp):List UInt8:=[103,108,111,98,97,108,115]++(p.globals.flatMap (fun s=>32::s.data.toList)++(10::p.funcs.flatMap funcL))
def intsL:List (List UInt8)→Option (List Int)
 | []=>some []
 |s::r=>match intOfL s,intsL r with
  |some n,some l=>some (n::l)
  |_,_=>none
def openedL (l:List (List UInt8)):Option Cf:=match l with
 |w::n::a::b::c::r=>if w≠ [102,117,110,99]∨n=[] then none else match intsL (a::b::c::r) with
  |some (p::s::o::t)=>some ⟨⟨⟨if n=[45] then [] else n⟩⟩,p,s,t,o,[]⟩
  |_=>none
 |_=>none
def opFrom (s:List UInt8):Nat→Nat→Nat
 |0,_=>0
 |f+1,op=>if(formOf op).word==s then op else opFrom s f (op+1)
def operationL (s:List UInt8):Nat:=opFrom s 53 1
def unquoteL (s:List UInt8):Option (List UInt8):=match s with
 |34::r=>match litR 0 r 1 [] with
  | .ok (t,next)=>if next<s.length∨65536<t.length then none else some t
  | .bad _ _=>none
 |_=>none
def instR (s:List UInt8):Option Ci:=match splitM 32 4 s with
 |w::a::b::c::t=>match intsL [a,b,c] with
  |some [x,y,z]=>if operationL w=0 then none else match t with
   | []=>some ⟨operationL w,x,y,⟨#[]⟩,z⟩
   |q::_=>match unquoteL q with
    |some u=>if u=[]∨34::quoteL u++ [34]≠q then none else some ⟨operationL w,x,y,⟨⟨u⟩⟩,z⟩
    |none=>none
  |_=>none
 |_=>none
def lineL (p:Cp) (i:Nat) (s:List UInt8):Option Cp:=
 if i=0 then match splitC 32 s with
  |w::r=>if r.contains []∨w≠ [103,108,111,98,97,108,115] then none else some {p with globals:=r.map fun s=>⟨⟨s⟩⟩}
  | []=>none
 else match s with
  |9::r=>match instR r,p.funcs.getLast? with
   |some x,some f=>some {p with funcs:=p.funcs.dropLast++ [{f with code:=f.code++ [x]}]}
   |_,_=>none
  |_=>(openedL (splitC 32 s)).map fun f=> {p with funcs:=p.funcs++ [f]}
def linesL:Nat→List UInt8→Nat→Cp→Cp×Option Nat
 |0,_,i,p=>(p,some i)
 |f+1,s,i,p=>if s=[] then(p,none) else match cutAt 10 s with
  |(_,none)=>(p,some (i+1))
  |(x,some r)=>match lineL p i x with
   |none=>(p,some (i+1))
   |some q=>linesL f r (i+1) q
def readL (s:List UInt8):Cp×Option Nat:=if s=[] then(⟨[],[]⟩,some 1) else linesL (s.length+1) s 0 ⟨[],[]⟩
theorem cutAt_spec (c:UInt8):∀s:List UInt8,((cutAt c s).2=none→(cutAt c s).1=s∧Lib.indexByte s c= -1)∧∀r,(cutAt c s).2=some r→Lib.indexByte s c=((cutAt c s).1.length:Int)∧s=(cutAt c s).1++c::r
 | []=>⟨fun _=>⟨rfl,rfl⟩,fun r h=>(by cases h)⟩
 |x::q=>by
  have ih:=cutAt_spec c q
  by_cases hx:x=c
  ·subst hx
   rw[cutAt,if_pos rfl]
   refine⟨fun h=>(by cases h),fun r h=> ?_⟩
   cases h
   refine⟨?_,rfl⟩
   rw[Lib.indexByte,if_pos (by simp)];rfl
  ·rw[cutAt,if_neg hx]
   have hb:¬(x==c)=true:=by simp[hx]
   refine⟨fun h=> ?_,fun r h=> ?_⟩
   ·obtain⟨h1,h2⟩:=ih.1 h
    refine⟨by rw[h1], ?_⟩
    rw[Lib.indexByte,if_neg hb,if_pos (by rw[h2];rfl)]
   ·obtain⟨h1,h2⟩:=ih.2 r h
    refine⟨?_,by rw[List.cons_append,←h2]⟩
    rw[Lib.indexByte,if_neg hb,h1,if_neg (by simp)]
    simp
theorem cut_one (s:List UInt8) (c:UInt8):Lib.cut s [c]=match cutAt c s with
  |(_,none)=>(s,[],false)
  |(t,some r)=>(t,r,true):=by
 obtain⟨h1,h2⟩:=cutAt_spec c s
 unfold Lib.cut
 rw[Lib.index_one]
 rcases hc:cutAt c s with⟨t,r⟩
 cases r with
 |none=>
  rw[hc] at h1
  rw[(h1 rfl).2,if_neg (by decide)]
 |some r=>
  rw[hc] at h2
  obtain⟨h3,h4⟩:=h2 r rfl
  rw[h3,if_pos (by omega)]
  simp only at h4
  rw[h4]
  simp
theorem splitC_cut (c:UInt8):∀s:List UInt8,splitC c s=match cutAt c s with
  |(t,none)=> [t]
  |(t,some r)=>t::splitC c r
 | []=>rfl
 |x::q=>by
  by_cases hx:x=c
  ·rw[splitC,if_pos hx,cutAt,if_pos hx]
  ·rw[splitC,if_neg hx,cutAt,if_neg hx,splitC_cut c q]
   rcases cutAt c q with⟨t,_|r⟩<;>rfl
theorem splitK_one (c:UInt8):∀(k:Nat) (s:List UInt8),Lib.splitK [c] 0 k s=splitM c k s
 |0,_=>rfl
 |k+1,s=>by
  obtain⟨h1,h2⟩:=cutAt_spec c s
  rw[Lib.splitK,splitM,Lib.index_one]
  rcases hc:cutAt c s with⟨t,r⟩
  rw[hc] at h1 h2
  cases r with
  |none=>rw[(h1 rfl).2,if_pos (by decide)];exact congrArg (fun z=> [z]) (h1 rfl).1.symm
  |some r=>
   obtain⟨h3,h4⟩:=h2 r rfl
   rw[h3,if_neg (by simp),splitK_one c k]
   simp only at h4
   rw[h4]
   simp
theorem count_cut (c:UInt8) (s:List UInt8):((cutAt c s).2=none→s.count c=0)∧∀r,(cutAt c s).2=some r→s.count c=r.count c+1:=by
 induction s with
 |nil=>exact⟨fun _=>rfl,fun r h=>(by cases h)⟩
 |cons x q ih=>
  by_cases hx:x=c
  ·rw[cutAt,if_pos hx]
   refine⟨fun h=>(by cases h),fun r h=> ?_⟩
   cases h
   rw[hx,List.count_cons_self]
  ·rw[cutAt,if_neg hx,List.count_cons_of_ne (by simpa using hx)]
   exact ih
theorem splitM_all (c:UInt8):∀(k:Nat) (s:List UInt8),s.count c≤k→splitM c k s=splitC c s
 |0,s,h=>by
  rw[splitC_cut,splitM]
  have h1:=(cutAt_spec c s).1
  have h2:=(count_cut c s).2
  rcases hc:cutAt c s with⟨t,r⟩
  rw[hc] at h1 h2
  cases r with
  |none=>exact congrArg (fun z=> [z]) (h1 rfl).1.symm
  |some r=>have:=h2 r rfl;omega
 |k+1,s,h=>by
  rw[splitC_cut,splitM]
  have h2:=(count_cut c s).2
  rcases hc:cutAt c s with⟨t,r⟩
  rw[hc] at h2
  cases r with
  |none=>rfl
  |some r=>
   have:=h2 r rfl
   simp only
   rw[splitM_all c k r (by omega)]
theorem split_one (s:ByteArray) (c:UInt8):(Lib.splitB ⟨#[c]⟩ 0 (Lib.countB s ⟨#[c]⟩) s).map (·.data.toList)=splitC c s.data.toList:=by
 rw[Lib.splitB_data,show(⟨#[c]⟩:ByteArray).data.toList=[c] from rfl,splitK_one]
 refine splitM_all c _ _ ?_
 unfold Lib.countB
 rw[show(⟨#[c]⟩:ByteArray).data.toList=[c] from rfl,Lib.count_one]
 exact Nat.le_refl _
theorem cutAt_no {c:UInt8} {s t:List UInt8} (h:cutAt c s=(t,none)):s=t:=by
 have h1:=(cutAt_spec c s).1
 rw[h] at h1
 exact(h1 rfl).1.symm
theorem cutAt_yes {c:UInt8} {s t q:List UInt8} (h:cutAt c s=(t,some q)):s=t++c::q:=by
 have h2:=(cutAt_spec c s).2
 rw[h] at h2
 exact(h2 q rfl).2
theorem splitM_join (c:UInt8):∀(k:Nat) (s w:List UInt8) (t:List (List UInt8)),splitM c k s=w::t→s=w++t.flatMap (c::·)∧t.length≤k
 |0,s,w,t,h=>by
  rw[splitM] at h
  injection h with h1 h2
  subst h1;subst h2
  exact⟨by simp,Nat.le_refl _⟩
 |k+1,s,w,t,h=>by
  rw[splitM] at h
  rcases hc:cutAt c s with⟨x,_|q⟩
  ·rw[hc] at h
   injection h with h1 h2
   subst h1;subst h2
   exact⟨by simpa using cutAt_no hc,Nat.zero_le _⟩
  ·rw[hc] at h
   injection h with h1 h2
   subst h1
   cases t with
   |nil=>
    exfalso
    cases k with
    |zero=>cases h2
    |succ k=>rw[splitM] at h2;split at h2<;>cases h2
   |cons w' t'=>
    obtain⟨e1,e2⟩:=splitM_join c k q w' t' h2
    refine⟨?_,by rw[List.length_cons];omega⟩
    rw[cutAt_yes hc,List.flatMap_cons,e1]
    simp
theorem splitC_join {c:UInt8} {s w:List UInt8} {t:List (List UInt8)} (h:splitC c s=w::t):s=w++t.flatMap (c::·):=
 (splitM_join c (s.count c) s w t (by rw[splitM_all c _ s (Nat.le_refl _)];exact h)).1
theorem intOf_back {s:List UInt8} {n:Int} (h:intOfL s=some n):Lib.itoa n=s:=by
 unfold intOfL at h
 split at h
 ·split at h
  ·rename_i h2;injection h with h;rw[←h];exact h2
  ·cases h
 ·cases h
theorem dig_nat {d:Nat} (h:d<10):(UInt8.ofNat (48+d)).toNat=48+d:=by
 rw[UInt8.toNat_ofNat'];exact Nat.mod_eq_of_lt (by omega)
theorem parseU_dec (M:Nat) (hM:M≤18446744073709551615) (r:List UInt8):∀(k u:Nat),u<k→u≤M→Lib.parseUintM M 0 (Lib.decDigits u++r)=Lib.parseUintM M u r:=by
 intro k
 induction k generalizing r with
 |zero=>intro u hu _;omega
 |succ k ih=>
  intro u hu hm
  by_cases h10:u<10
  ·rw[Lib.decDigits,dif_pos h10,List.cons_append,List.nil_append,Lib.parseUintM,dig_nat h10,if_pos (by omega),if_neg (by omega),if_neg (by omega)]
   congr 1
   omega
  ·rw[Lib.decDigits,dif_neg h10,List.append_assoc,ih _ (u/10) (by omega) (by omega),List.cons_append,List.nil_append,Lib.parseUintM,dig_nat (by omega),if_pos (by omega),if_neg (by omega),if_neg (by omega)]
   congr 1
   omega
theorem dec_head:∀(k u:Nat),u<k→∃c r,Lib.decDigits u=c::r∧48≤c.toNat∧c.toNat≤57:=by
 intro k
 induction k with
 |zero=>intro u hu;omega
 |succ k ih=>
  intro u hu
  by_cases h10:u<10
  ·exact⟨_,[],by rw[Lib.decDigits,dif_pos h10],by rw[dig_nat h10];omega,by rw[dig_nat h10];omega⟩
  ·obtain⟨c,r,h1,h2,h3⟩:=ih (u/10) (by omega)
   exact⟨c,r++ [UInt8.ofNat (48+u % 10)],by rw[Lib.decDigits,dif_neg h10,h1];rfl,h2,h3⟩
theorem int_back {n:Int} (h:okI n):intOfL (Lib.itoa n)=some n:=by
 have hp:Lib.parseIntB 64 (Lib.itoa n)= .ok n:=by
  obtain⟨h1,h2⟩:=h
  have e63:(2:Nat)^(64-1)=9223372036854775808:=by decide
  unfold Lib.itoa
  by_cases hn:n<0
  ·rw[if_pos hn]
   obtain⟨c,r,hd,_,_⟩:=dec_head (n.natAbs+1) n.natAbs (by omega)
   have hpu:Lib.parseUintB 64 (Lib.decDigits n.natAbs)= .ok n.natAbs:=by
    unfold Lib.parseUintB
    rw[if_neg (by rw[hd];simp)]
    have:=parseU_dec (2^64-1) (by decide) [] (n.natAbs+1) n.natAbs (by omega) (by omega)
    rw[List.append_nil] at this
    rw[this];rfl
   unfold Lib.parseIntB
   simp only[show(45:UInt8).toNat=45 from rfl,or_true,if_true,hpu,not_true_eq_false,false_and,if_false,true_and,e63]
   rw[if_neg (by omega)]
   exact congrArg _ (by omega)
  ·rw[if_neg hn]
   obtain⟨c,r,hd,hc1,hc2⟩:=dec_head (n.toNat+1) n.toNat (by omega)
   have hpu:Lib.parseUintB 64 (Lib.decDigits n.toNat)= .ok n.toNat:=by
    unfold Lib.parseUintB
    rw[if_neg (by rw[hd];simp)]
    have:=parseU_dec (2^64-1) (by decide) [] (n.toNat+1) n.toNat (by omega) (by omega)
    rw[List.append_nil] at this
    rw[this];rfl
   rw[hd] at hpu⊢
   have hs:¬c.toNat=43:=by omega
   have hs2:¬c.toNat=45:=by omega
   unfold Lib.parseIntB
   simp only[hs,or_false,if_false,hs2,not_false_eq_true,true_and,false_and,e63]
   rw[hpu]
   simp only
   rw[if_neg (by omega)]
   exact congrArg _ (by omega)
 unfold intOfL
 rw[hp]
 simp
theorem u8_of (c:UInt8) (n:Nat) (h:n=c.toNat):UInt8.ofNat n=c:=by rw[h];exact UInt8.ofNat_toNat
theorem numU_small {f u:Nat} (h:u≤127):numU f u=[UInt8.ofNat u]:=by
 cases f with
 |zero=>rfl
 |succ f=>rw[numU,if_neg (by omega)]
theorem drop_at {b:List UInt8} {i:Nat} {c:UInt8} (h:b[i]? =some c):b.drop i=c::b.drop (i+1):=by
 obtain⟨hi,rfl⟩:=List.getElem?_eq_some_iff.1 h
 exact List.drop_eq_getElem_cons hi
theorem fail_bad (r:Drd) (i:Nat):(r.fail i).bad≠none:=by
 unfold Drd.fail
 split
 ·simp
 ·rename_i h;rw[h];simp
theorem numLoop_ok (b:List UInt8) (frm:Nat):∀(f k u:Nat) (r:Drd),k+f=11→k≤9→r.bad=none→(numLoop b frm f k u r).2.bad=none→
  ∃m:Nat,(numLoop b frm f k u r).1=u+m*2^(7*k)∧(0<k→0<m)∧m<2^(64-7*k)∧b.drop r.at_=numU (10-k) m++b.drop (numLoop b frm f k u r).2.at_
 |0,k,_,_,h,hk,_,_=>by omega
 |f+1,k,u,r,h,hk,hr,hb=>by
  rw[numLoop] at hb⊢
  cases hc:b[r.at_]? with
  |none=>rw[hc] at hb;exact absurd hb (fail_bad _ _)
  |some c=>
   rw[hc] at hb
   simp only at hb⊢
   by_cases h1:(k=9∧1<c.toNat)∨(0<k∧c.toNat=0)
   ·rw[if_pos h1] at hb;exact absurd hb (fail_bad _ _)
   ·rw[if_neg h1] at hb⊢
    have hc8:=c.toNat_lt
    by_cases h2:c.toNat<128
    ·rw[if_pos h2]
     have e:c.toNat % 128=c.toNat:=Nat.mod_eq_of_lt h2
     refine⟨c.toNat,by rw[e],fun h0=>by omega, ?_, ?_⟩
     ·by_cases h9:k=9
      ·subst h9
       have:c.toNat≤1:=by omega
       show c.toNat<2^1
       omega
      ·have:(2:Nat)^7≤2^(64-7*k):=Nat.pow_le_pow_right (by decide) (by omega)
       omega
     ·rw[drop_at hc,numU_small (by omega),u8_of c _ rfl]
      rfl
    ·rw[if_neg h2] at hb⊢
     have hk9:k<9:=by
      rcases Nat.lt_or_ge k 9 with h9|h9
      ·exact h9
      ·exfalso;exact h1 (.inl ⟨by omega,by omega⟩)
     obtain⟨m,e1,e2,e3,e4⟩:=numLoop_ok b frm f (k+1) (u+c.toNat % 128*2^(7*k)) {r with at_:=r.at_+1} (by omega) (by omega) hr hb
     have hm:=e2 (by omega)
     refine⟨c.toNat % 128+128*m, ?_,fun _=>by omega, ?_, ?_⟩
     ·rw[e1,show 7*(k+1)=7*k+7 by omega,Nat.pow_add,Nat.add_mul,Nat.add_assoc]
      congr 2
      rw[show(2:Nat)^7=128 by decide,Nat.mul_comm 128 m,Nat.mul_assoc,Nat.mul_comm 128 (2^(7*k))]
     ·have h3:(2:Nat)^(64-7*k)=128*2^(64-7*(k+1)):=by
       rw[show 64-7*k=7+(64-7*(k+1)) by omega,Nat.pow_add]
      rw[h3]
      omega
     ·have h10:10-k=(10-(k+1))+1:=by omega
      rw[drop_at hc,h10,numU,if_pos (by omega),List.cons_append,show(c.toNat % 128+128*m)/128=m by omega,u8_of c _ (by omega)]
      exact congrArg (c::·) e4
theorem fold_unfold {u:Nat}:foldN (unfoldN u)=u:=by
 unfold foldN unfoldN
 by_cases h:u % 2=0
 ·rw[if_pos h,if_pos (by omega)];omega
 ·rw[if_neg h,if_neg (by omega)];omega
theorem unfold_ok {u:Nat} (h:u<2^64):okI (unfoldN u):=by
 have h64:(2:Nat)^64=18446744073709551616:=by decide
 rw[h64] at h
 unfold okI unfoldN
 by_cases h2:u % 2=0
 ·rw[if_pos h2];omega
 ·rw[if_neg h2];omega
def Reads {α:Type} (b:List UInt8) (g:Drd→α×Drd) (enc:α→List UInt8) (ok:α→Prop):Prop:=
 ∀r,(g r).2.bad=none→r.bad=none∧ok (g r).1∧b.drop r.at_=enc (g r).1++b.drop (g r).2.at_
theorem numD_reads (b:List UInt8):Reads b (numD b) numB okI:=by
 intro r hb
 unfold numD at hb⊢
 cases hr:r.bad with
 |some i=>simp only[hr] at hb;exact absurd hb (by simp)
 |none=>
  simp only[hr] at hb⊢
  by_cases h1:(numLoop b r.at_ 11 0 0 r).2.bad=none
  ·simp only[if_pos h1]
   obtain⟨m,e1,_,e3,e4⟩:=numLoop_ok b r.at_ 11 0 0 r rfl (by decide) hr h1
   rw[Nat.mul_zero,Nat.pow_zero,Nat.mul_one,Nat.zero_add] at e1
   rw[e1]
   refine⟨trivial,unfold_ok e3, ?_⟩
   rw[numB,fold_unfold]
   exact e4
  ·simp only[if_neg h1] at hb;exact absurd hb h1
theorem manyD_reads (b:List UInt8) (r:Drd) (hb:(manyD b r).2.bad=none):r.bad=none∧okI (manyD b r).1∧0≤(manyD b r).1∧(manyD b r).1≤(b.length:Int)-(manyD b r).2.at_∧b.drop r.at_=numB (manyD b r).1++b.drop (manyD b r).2.at_:=by
 unfold manyD at hb⊢
 simp only at hb⊢
 by_cases h:(numD b r).2.bad=none∧((numD b r).1<0∨((b.length:Int)-(numD b r).2.at_)<(numD b r).1)
 ·rw[if_pos h] at hb;exact absurd hb (fail_bad _ _)
 ·rw[if_neg h] at hb⊢
  obtain⟨h1,h2,h3⟩:=numD_reads b r hb
  refine⟨h1,h2, ?_, ?_,h3⟩
  ·exact Int.not_lt.1 fun h'=>h ⟨hb,.inl h'⟩
  ·exact Int.not_lt.1 fun h'=>h ⟨hb,.inr h'⟩
theorem textD_reads (b:List UInt8):Reads b (textD b) textB (fun s=>s.length≤b.length):=by
 intro r hb
 unfold textD at hb⊢
 simp only at hb⊢
 by_cases h:(manyD b r).2.bad=none
 ·rw[if_pos h] at hb⊢
  obtain⟨h1,h2,h3,h4,h5⟩:=manyD_reads b r h
  have hl:((b.drop (manyD b r).2.at_).take (manyD b r).1.toNat).length=(manyD b r).1.toNat:=by rw[List.length_take,List.length_drop];omega
  refine⟨h1,by rw[hl];omega, ?_⟩
  rw[textB,hl,show(((manyD b r).1.toNat:Nat):Int)=(manyD b r).1 by omega,h5,List.append_assoc]
  congr 1
  rw[←List.drop_drop,List.take_append_drop]
 ·rw[if_neg h] at hb;exact absurd hb h
theorem rowD_reads {α:Type} {b:List UInt8} {g:Drd→α×Drd} {enc:α→List UInt8} {ok:α→Prop} (hg:Reads b g enc ok):∀(n:Nat) (r:Drd),(rowD g n r).2.bad=none→
  r.bad=none∧(rowD g n r).1.length=n∧(∀x∈(rowD g n r).1,ok x)∧b.drop r.at_=(rowD g n r).1.flatMap enc++b.drop (rowD g n r).2.at_
 |0,r,hb=>⟨hb,rfl,fun x hx=>(by cases hx),rfl⟩
 |n+1,r,hb=>by
  rw[rowD] at hb⊢
  by_cases h:r.bad=none
  ·rw[if_pos h] at hb⊢
   simp only at hb⊢
   obtain⟨h1,h2,h3,h4⟩:=rowD_reads hg n _ hb
   obtain⟨e1,e2,e3⟩:=hg r h1
   refine⟨e1,by rw[List.length_cons,h2], ?_, ?_⟩
   ·intro x hx
    rcases List.mem_cons.1 hx with hx|hx
    ·rw[hx];exact e2
    ·exact h3 x hx
   ·rw[e3,h4,List.flatMap_cons,List.append_assoc]
  ·rw[if_neg h] at hb;exact absurd hb h
theorem instD_reads (b:List UInt8):Reads b (instD b) instB fun x=>okI x.op∧okI x.a∧okI x.b∧okI x.at_∧x.text.data.toList.length≤b.length:=by
 intro r hb
 unfold instD at hb⊢
 simp only at hb⊢
 obtain⟨e1,e2,e3⟩:=numD_reads b _ hb
 obtain⟨f1,f2,f3⟩:=textD_reads b _ e1
 obtain⟨g1,g2,g3⟩:=numD_reads b _ f1
 obtain⟨i1,i2,i3⟩:=numD_reads b _ g1
 obtain⟨j1,j2,j3⟩:=numD_reads b _ i1
 refine⟨j1,⟨j2,i2,g2,e2,f2⟩, ?_⟩
 rw[j3,i3,g3,f3,e3]
 simp only[instB,List.append_assoc]
def CfLike (b:List UInt8) (f:Cf):Prop:=f.name.data.toList.length≤b.length∧okI f.params∧okI f.slots∧okI f.around∧f.taken.length≤b.length∧f.code.length≤b.length∧(∀t∈f.taken,okI t)∧
 ∀x∈f.code,okI x.op∧okI x.a∧okI x.b∧okI x.at_∧x.text.data.toList.length≤b.length
theorem funcD_reads (b:List UInt8):Reads b (funcD b) funcB (CfLike b):=by
 intro r hb
 unfold funcD at hb⊢
 simp only at hb⊢
 obtain⟨a1,a2,a3,a4⟩:=rowD_reads (instD_reads b) _ _ hb
 obtain⟨c1,c2,c3,c4,c5⟩:=manyD_reads b _ a1
 obtain⟨d1,d2,d3⟩:=numD_reads b _ c1
 obtain⟨e1,e2,e3,e4⟩:=rowD_reads (numD_reads b) _ _ d1
 obtain⟨f1,f2,f3,f4,f5⟩:=manyD_reads b _ e1
 obtain⟨g1,g2,g3⟩:=numD_reads b _ f1
 obtain⟨i1,i2,i3⟩:=numD_reads b _ g1
 obtain⟨j1,j2,j3⟩:=textD_reads b _ i1
 refine⟨j1,⟨j2,i2,g2,d2,by simp only;rw[e2];omega,by simp only;rw[a2];omega,e3,a3⟩, ?_⟩
 rw[j3,i3,g3,f5,e4,d3,c5,a4]
 simp only[funcB,List.append_assoc,e2,a2]
 rw[Int.toNat_of_nonneg f3,Int.toNat_of_nonneg c3]
theorem magic_ok:∀(m b:List UInt8) (i:Nat),magicAt m b i=none→b=m++b.drop m.length
 | [],b,_,_=>rfl
 |_::_,[],_,h=>by cases h
 |m::r,c::b,i,h=>by
  rw[magicAt] at h
  by_cases hc:c=m
  ·rw[if_pos hc] at h
   rw[List.length_cons,List.drop_succ_cons,List.cons_append,←magic_ok r b (i+1) h,hc]
  ·rw[if_neg hc] at h;cases h
theorem decode_back {b:List UInt8} {p:Cp} (h:decodeD b=(p,none)):encodeB p=b∧p.funcs.length≤b.length∧p.globals.length≤b.length∧(∀f∈p.funcs,CfLike b f)∧∀s∈p.globals,s.data.toList.length≤b.length:=by
 unfold decodeD at h
 cases hm:magicAt [71,67,48,49] b 0 with
 |some i=>simp only[hm] at h;cases h
 |none=>
  simp only[hm] at h
  have hb0:=magic_ok _ _ _ hm
  simp only[List.length_cons,List.length_nil] at hb0
  split at h
  ·cases h
  ·rename_i hne
   injection h with h1 h2
   obtain⟨a1,a2,a3,a4⟩:=rowD_reads (funcD_reads b) _ _ h2
   obtain⟨c1,c2,c3,c4,c5⟩:=manyD_reads b _ a1
   obtain⟨e1,e2,e3,e4⟩:=rowD_reads (textD_reads b) _ _ c1
   obtain⟨f1,f2,f3,f4,f5⟩:=manyD_reads b _ e1
   have hend:¬(rowD (funcD b) (manyD b (rowD (textD b) (manyD b ⟨4,none⟩).1.toNat (manyD b ⟨4,none⟩).2).2).1.toNat (manyD b (rowD (textD b) (manyD b ⟨4,none⟩).1.toNat (manyD b ⟨4,none⟩).2).2).2).2.at_<b.length:=fun hlt=>hne ⟨h2,hlt⟩
   rw[←h1]
   refine⟨?_,by simp only;rw[a2];omega,by simp only;rw[List.length_map,e2];omega,a3, ?_⟩
   ·refine Eq.trans ?_ hb0.symm
    unfold encodeB
    refine congrArg ([71,67,48,49]++·) ?_
    simp only[List.length_map,e2,a2,List.flatMap_map]
    rw[Int.toNat_of_nonneg f3,Int.toNat_of_nonneg c3,show b.drop (0+1+1+1+1)=b.drop 4 from rfl,f5,e4,c5,a4,List.drop_of_length_le (by omega),List.append_nil]
   ·intro s hs
    obtain⟨x,hx,rfl⟩:=List.mem_map.1 hs
    exact e3 x hx
end Go.Proofs.YtagnicbknbmccaaGreatDoor
