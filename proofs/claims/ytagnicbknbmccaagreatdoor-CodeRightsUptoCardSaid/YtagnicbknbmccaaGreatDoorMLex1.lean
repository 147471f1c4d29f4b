/- lex.letter, lex.digit, lex.Words, lex.Word, lex.Name: what each returns, at every text. Programs of code in plain form: the table of the operations, and what is right about a program. What is right about a program of code, in plain form: many, globals, heads, instructions, the stack. How a program of code lies in memory. lex.run at every text; lex.wrong; the text 01: lex.number, lex.one, lex.Scan, tree.ints. Whether two programs of code are one. What container/heap does with a row of numbers: nothing comes, nothing goes. A row that is laid and then written whole. -/
import Derived.Lib.LaidTab
import Derived.Lib.Space
import Derived.Laws.RangeAny
import Derived.Great.Walk
import Derived.Laws.Tables
import Derived.Test.YtagnicbknbmccaaGreatDoorCount
namespace Go.Proofs.YtagnicbknbmccaaGreatDoor
open Go.RowKit
def letterB (c:Int):Bool:=(decide (97≤c)&&decide (c≤122))||(decide (65≤c)&&decide (c≤90))||c==95
def digitB (c:Int):Bool:=decide (48≤c)&&decide (c≤57)
def wordsA:List ByteArray:=[⟨#[97,110,121]⟩,⟨#[98,114,101,97,107]⟩,⟨#[99,97,115,101]⟩,⟨#[99,111,110,116,105,110,117,101]⟩,⟨#[100,101,102,97,117,108,116]⟩,⟨#[100,101,102,101,114]⟩,⟨#[101,108,115,101]⟩,⟨#[102,97,108,108,116,104,114,111,117,103,104]⟩,⟨#[102,97,108,115,101]⟩,⟨#[102,111,114]⟩,⟨#[102,117,110,99]⟩,⟨#[105,102]⟩,⟨#[105,110]⟩,⟨#[109,97,112]⟩,⟨#[110,105,108]⟩,⟨#[112,114,111,116,111,99,111,108]⟩,⟨#[114,101,116,117,114,110]⟩,⟨#[115,116,114,117,99,116]⟩,⟨#[115,119,105,116,99,104]⟩,⟨#[116,114,117,101]⟩,⟨#[116,121,112,101]⟩,⟨#[118,97,114]⟩]
def wordsV:Array Value:= #[.string ⟨#[97,110,121]⟩,.string ⟨#[98,114,101,97,107]⟩,.string ⟨#[99,97,115,101]⟩,.string ⟨#[99,111,110,116,105,110,117,101]⟩,.string ⟨#[100,101,102,97,117,108,116]⟩,.string ⟨#[100,101,102,101,114]⟩,.string ⟨#[101,108,115,101]⟩,.string ⟨#[102,97,108,108,116,104,114,111,117,103,104]⟩,.string ⟨#[102,97,108,115,101]⟩,.string ⟨#[102,111,114]⟩,.string ⟨#[102,117,110,99]⟩,.string ⟨#[105,102]⟩,.string ⟨#[105,110]⟩,.string ⟨#[109,97,112]⟩,.string ⟨#[110,105,108]⟩,.string ⟨#[112,114,111,116,111,99,111,108]⟩,.string ⟨#[114,101,116,117,114,110]⟩,.string ⟨#[115,116,114,117,99,116]⟩,.string ⟨#[115,119,105,116,99,104]⟩,.string ⟨#[116,114,117,101]⟩,.string ⟨#[116,121,112,101]⟩,.string ⟨#[118,97,114]⟩]
def spaceV:Array Value:=(Lib.asciiSpaceTab.map fun z=>Value.int .u8 z).toArray
def wordB (s:ByteArray):Bool:=wordsA.any (fun x=>s.toList==x.toList)
def idxFrom:List ByteArray→ByteArray→Int→Int
 | [],_,_=> -1
 |x::xs,s,i=>if s.toList==x.toList then i else idxFrom xs s (i+1)
theorem idxFrom_word:∀(l:List ByteArray) (s:ByteArray) (i:Int),0≤i→decide (0≤idxFrom l s i)=l.any (fun x=>s.toList==x.toList)
 | [],s,i,_=>by simp[idxFrom]
 |x::xs,s,i,hi=>by
  unfold idxFrom
  have ih:=idxFrom_word xs s (i+1) (by omega)
  rw[List.any_cons]
  split
  ·rename_i h
   rw[h]
   simp[hi]
  ·rename_i h
   rw[ih]
   simp at h
   simp[h]
def nameLoop:List UInt8→Bool→Bool
 | [],_=>true
 |c::r,first=>if !letterB c.toNat&&(first|| !digitB c.toNat) then false else nameLoop r false
def nameB (s:ByteArray):Bool:=nameLoop s.data.toList true&&(!s.data.toList.isEmpty&&(decide (s.size≤40)&& !wordB s))
theorem drop_byte (s:ByteArray) (pos:Nat) (h:pos<s.size):s.data.toList.drop pos=(s[pos]'h)::s.data.toList.drop (pos+1):=by
 have h':pos<s.data.toList.length:=by simpa using h
 rw[List.drop_eq_getElem_cons h']
 rfl
theorem nameLoop_stop {c:UInt8} {r:List UInt8} {first:Bool} (h:letterB c.toNat=false) (h2:first=true∨digitB c.toNat=false):nameLoop (c::r) first=false:=by
 unfold nameLoop;rcases h2 with h2|h2<;>simp[h,h2]
theorem nameLoop_go {c:UInt8} {r:List UInt8} {first:Bool} (h:letterB c.toNat=true∨(first=false∧digitB c.toNat=true)):nameLoop (c::r) first=nameLoop r false:=by
 rw[nameLoop,if_neg];rcases h with h|⟨h,h2⟩<;>simp_all
theorem nameB_false {s:ByteArray} (h:nameLoop s.data.toList true=false):nameB s=false:=by simp[nameB,h]
theorem data_toList (s:ByteArray):s.toList=s.data.toList:=ByteArray.toList_eq s
theorem letter_high {c:Int} (h:128≤c):letterB c=false:=by simp[letterB];omega
theorem digit_high {c:Int} (h:128≤c):digitB c=false:=by simp[digitB];omega
structure Ci where
 op:Int
 a:Int
 b:Int
 text:ByteArray
 at_:Int
structure Cf where
 name:ByteArray
 params:Int
 slots:Int
 taken:List Int
 around:Int
 code:List Ci
structure Cp where
 funcs:List Cf
 globals:List ByteArray
structure Cform where
 word:List UInt8
 a:Nat
 text:Nat
 takes:List UInt8
 lays:List UInt8
def Cform.no:Cform:=⟨[],0,0,[],[]⟩
def formsT:List Cform:=[
⟨[],0,0,[],[]⟩,
 ⟨[115,116,101,112],0,0,[],[]⟩,
 ⟨[116,105,99,107],0,0,[],[]⟩,
 ⟨[105,110,116],0,12,[],[118]⟩,
 ⟨[102,108,111,97,116],0,13,[],[118]⟩,
 ⟨[116,101,120,116],0,14,[],[118]⟩,
 ⟨[98,111,111,108],1,0,[],[118]⟩,
 ⟨[110,105,108],0,0,[],[118]⟩,
 ⟨[110,105,108,111,102],1,15,[],[118]⟩,
 ⟨[108,111,97,100],3,0,[],[118]⟩,
 ⟨[103,108,111,98,97,108],4,0,[],[118]⟩,
 ⟨[116,97,107,101,110],5,0,[],[118]⟩,
 ⟨[102,114,101,115,104],3,0,[118],[]⟩,
 ⟨[115,116,111,114,101],3,0,[118],[]⟩,
 ⟨[115,116,111,114,101,103,108,111,98,97,108],4,0,[118],[]⟩,
 ⟨[115,116,111,114,101,116,97,107,101,110],5,0,[118],[]⟩,
 ⟨[112,111,112],0,0,[118],[]⟩,
 ⟨[100,117,112],0,0,[118],[118,118]⟩,
 ⟨[117,110,97,114,121],0,16,[118],[118]⟩,
 ⟨[98,105,110,97,114,121],0,17,[118,118],[118]⟩,
 ⟨[116,114,117,116,104],0,18,[118],[118]⟩,
 ⟨[99,111,110,118,101,114,116],6,19,[118],[118]⟩,
 ⟨[115,101,108,101,99,116],1,20,[118],[118]⟩,
 ⟨[101,120,112,114,101,115,115,105,111,110],1,21,[],[118]⟩,
 ⟨[105,110,100,101,120],0,0,[118,118],[118]⟩,
 ⟨[105,110,100,101,120,116,119,111],0,0,[118,118],[118,118]⟩,
 ⟨[115,108,105,99,101],11,0,[],[118]⟩,
 ⟨[108,105,115,116],7,0,[],[118]⟩,
 ⟨[109,97,112],7,0,[],[118]⟩,
 ⟨[115,116,114,117,99,116],8,22,[],[118]⟩,
 ⟨[111,98,106,101,99,116],0,0,[118],[118]⟩,
 ⟨[108,105,116,101,114,97,108],9,0,[],[118]⟩,
 ⟨[97,115,115,101,114,116],1,23,[118],[118]⟩,
 ⟨[104,111,108,100,115],2,23,[118],[118,118]⟩,
 ⟨[106,117,109,112],10,0,[],[]⟩,
 ⟨[98,114,97,110,99,104],10,0,[118],[]⟩,
 ⟨[97,110,100],10,0,[118],[]⟩,
 ⟨[111,114],10,0,[118],[]⟩,
 ⟨[112,108,97,99,101,115,108,111,116],3,0,[],[112]⟩,
 ⟨[112,108,97,99,101,103,108,111,98,97,108],4,0,[],[112]⟩,
 ⟨[112,108,97,99,101,116,97,107,101,110],5,0,[],[112]⟩,
 ⟨[112,108,97,99,101,111,102],0,0,[118],[112]⟩,
 ⟨[112,108,97,99,101,105,110,100,101,120],0,0,[118,118],[112]⟩,
 ⟨[112,108,97,99,101,102,105,101,108,100],0,20,[63],[112]⟩,
 ⟨[102,101,116,99,104],0,0,[112],[112,118]⟩,
 ⟨[112,117,116],0,0,[112,118],[]⟩,
 ⟨[99,97,108,108],7,0,[118],[118]⟩,
 ⟨[98,117,105,108,116],7,24,[],[118]⟩,
 ⟨[100,101,102,101,114],7,0,[118],[]⟩,
 ⟨[100,101,102,101,114,98,117,105,108,116],7,24,[],[]⟩,
 ⟨[114,101,116,117,114,110],0,0,[118],[]⟩,
 ⟨[116,117,114,110],0,0,[118],[116]⟩,
 ⟨[110,101,120,116],10,0,[116],[116,118,118]⟩,
 ⟨[100,114,111,112],7,0,[],[]⟩]
def formOf (op:Int):Cform:=if 1≤op∧op≤53 then formsT.getD op.toNat .no else .no
def cutAt (c:UInt8):List UInt8→List UInt8×Option (List UInt8)
 | []=>([],none)
 |x::r=>if x=c then([],some r) else(x::(cutAt c r).1,(cutAt c r).2)
def nameL (s:List UInt8):Bool:=nameB ⟨⟨s⟩⟩
def declaredB (s:List UInt8):Bool:=match cutAt 46 s with
 |(t,none)=>nameL t
 |(t,some m)=>nameL t&&nameL m
def typedB (s:List UInt8) (ptr any:Bool):Bool:=nameL s||(!ptr&&(s==[109,97,112]||s==[102,117,110,99]||(any&&s==[97,110,121])))
def amongB (l:List (List UInt8)) (s:List UInt8):Bool:= !s.isEmpty&&l.any (fun x=>x==s)
def unaryW:List (List UInt8):=[[45],[33],[94],[42],[43,43],[45,45]]
def binaryW:List (List UInt8):=[[43],[45],[42],[47],[37],[38],[124],[94],[60,60],[62,62],[61,61],[33,61],[60],[60,61],[62],[62,61]]
def truthW:List (List UInt8):=[[38,38],[124,124]]
def builtW:List (List UInt8):=[[97,112,112,101,110,100],[99,97,112],[99,111,112,121],[100,101,108,101,116,101],[108,101,110],[109,97,107,101],[112,97,110,105,99],[112,114,105,110,116],[114,101,99,111,118,101,114],[115,104,111,119],[116,121,112,101,111,102]]
def manySum:List Cf→Int
 | []=>0
 |f::r=>manySum r+f.code.length
def manyFrom (l:List Cf) (i:Nat):Option Nat:=match l with
 | []=>none
 |f::r=>if 20000<f.slots∨20000<f.taken.length then some i else manyFrom r (i+1)
def globalsB:List (List UInt8)→List (List UInt8)→Bool
 |_,[]=>true
 |old,s::r=>nameL s&& !old.contains s&&globalsB (s::old) r
def headedB (fs:List Cf) (i:Nat) (f:Cf) (old:List (List UInt8)):Bool:=
 if f.params<0∨13<f.params∨f.slots<f.params then false
 else if i=0 then f.name.data.toList==[]&&(f.params==0&&(f.taken.length==0&&f.around== -1))
 else if f.around= -1 then f.taken.length==0&&(declaredB f.name.data.toList&& !old.contains f.name.data.toList)
 else if f.name.data.toList≠ [102,117,110,99]∨f.around<0∨(i:Int)≤f.around then false
 else match fs[f.around.toNat]? with
  |none=>false
  |some o=>f.taken.all fun t=>decide (t<o.slots)&&decide (-(o.taken.length:Int)≤t)
def digitsLoop:List UInt8→Nat→Nat
 | [],n=>n
 |c::r,n=>digitsLoop r (10*n+(c.toNat-48))
def countedP (x:Ci):UInt8×Int:=
 if x.op=27∨x.op=29∨x.op=46∨x.op=47∨x.op=48∨x.op=49 then(118,x.a)
 else if x.op=28 then(118,2*x.a)
 else if x.op=26 then(118,if x.b=0 then x.a+1 else if x.b=3 then x.a-1 else x.a)
 else if x.op=53 then(116,x.a)
 else(118,0)
def lessP (s:List UInt8) (c:UInt8):Nat→Option (List UInt8)
 |0=>some s
 |n+1=>match s with
  | []=>none
  |t::r=>if t=c∨(c=63∧(t=118∨t=112)) then lessP r c n else none
def takesP:List UInt8→List UInt8→Option (List UInt8)
 |s,[]=>some s
 |s,c::r=>match lessP s c 1 with
  |none=>none
  |some s'=>takesP s' r
def laysP:List UInt8→List UInt8→Option (List UInt8)
 |s,[]=>some s
 |s,c::r=>if 30000<s.length+1 then none else laysP (c::s) r
def leavesP (x:Ci) (s:List UInt8):Option (List UInt8×List UInt8):=
 match lessP s (countedP x).1 (countedP x).2.toNat with
 |none=>none
 |some s1=>match takesP s1 (formOf x.op).takes.reverse with
  |none=>none
  |some s2=>match laysP s2 (formOf x.op).lays with
   |none=>none
   |some s3=>some (s3,if x.op=36∨x.op=37 then 118::s2 else s2)
def swapL (l:List Int) (i j:Nat):List Int:=(l.set i (l.getD j 0)).set j (l.getD i 0)
def upL:Nat→List Int→Nat→List Int
 |0,l,_=>l
 |f+1,l,j=>if(j-1)/2=j∨¬l.getD j 0<l.getD ((j-1)/2) 0 then l else upL f (swapL l ((j-1)/2) j) ((j-1)/2)
def downL:Nat→List Int→Nat→Nat→List Int
 |0,l,_,_=>l
 |f+1,l,i,n=>
  if n≤2*i+1 then l
  else
   let j:=if 2*i+2<n∧l.getD (2*i+2) 0<l.getD (2*i+1) 0 then 2*i+2 else 2*i+1
   if l.getD j 0<l.getD i 0 then downL f (swapL l i j) j n else l
def pushL (l:List Int) (n:Int):List Int:=upL (l.length+1) (l++ [n]) l.length
def popL (l:List Int):Int×List Int:=
 let l':=downL l.length (swapL l 0 (l.length-1)) 0 (l.length-1)
 (l'.getD (l.length-1) 0,l'.take (l.length-1))
structure Cst where
 at_:List (Option (List UInt8))
 seen:List Bool
 todo:List Int
def handP (c:Cst) (k:Nat) (s:List UInt8):Cst×Bool:=match c.at_.getD k none with
 |none=>({c with at_:=c.at_.set k (some s),todo:=pushL c.todo k},true)
 |some t=>(c,t==s)
def goesB (op:Int):Bool:=(formOf op).a==10
def roundP (code:List Ci) (c:Cst) (k:Nat):Option Int×Cst:=match code[k]?,c.at_.getD k none with
 |some x,some s=>match leavesP x s with
  |none=>(some k,c)
  |some (nx,th)=>
   let h1:=if x.op=34∨x.op=50 then(c,true) else handP c (k+1) nx
   if h1.2=false then(some (k+1),h1.1) else
   let h2:=if goesB x.op then handP h1.1 x.a.toNat th else(h1.1,true)
   if h2.2=false then(some x.a,h2.1) else(none,h2.1)
 |_,_=>(none,c)
def fitsLoop (code:List Ci):Nat→Cst→Option Int
 |0,_=>none
 |f+1,c=>if c.todo=[] then none
  else if c.seen.getD (popL c.todo).1.toNat false then fitsLoop code f {c with todo:=(popL c.todo).2}
  else match roundP code {c with todo:=(popL c.todo).2,seen:=c.seen.set (popL c.todo).1.toNat true} (popL c.todo).1.toNat with
   |(some e,_)=>some e
   |(none,c')=>fitsLoop code f c'
def fitsP (code:List Ci):Option Int:=fitsLoop code (4*code.length+4) ⟨some []::List.replicate code.length none,List.replicate code.length false,[0]⟩
def RowIs (w:World) (B:Nat) (A:Option Addr) (cs:List Value):Prop:=
 cs=[]∨∃g o,A=some ⟨g,o,none⟩∧g<B∧∀(j:Nat) (v:Value),cs[j]? =some v→w.cell? ⟨g,o+j,none⟩=some v
theorem RowIs.keep {w w':World} {B:Nat} {A:Option Addr} {cs:List Value} (h:RowIs w B A cs) (hk:∀b,b<B→w'.heap[b]? =w.heap[b]?):RowIs w' B A cs:=by
 rcases h with h|⟨g,o,hA,hg,hc⟩
 ·exact .inl h
 ·exact .inr ⟨g,o,hA,hg,fun j v hv=>(World.cell?_of_block (w:=w) (a:=⟨g,o+j,none⟩) (hk g hg)).trans (hc j v hv)⟩
theorem RowIs.more {w:World} {B B':Nat} {A:Option Addr} {cs:List Value} (h:RowIs w B A cs) (hB:B≤B'):RowIs w B' A cs:=by
 rcases h with h|⟨g,o,hA,hg,hc⟩
 ·exact .inl h
 ·exact .inr ⟨g,o,hA,Nat.lt_of_lt_of_le hg hB,hc⟩
theorem RowIs.at {w:World} {B:Nat} {A:Option Addr} {cs:List Value} (h:RowIs w B A cs) (hne:0<cs.length):∃g o,A=some ⟨g,o,none⟩∧g<B∧∀(j:Nat) (v:Value),cs[j]? =some v→w.cell? ⟨g,o+j,none⟩=some v:=by
 rcases h with h|h
 ·rw[h] at hne;exact absurd hne (Nat.lt_irrefl 0)
 ·exact h
theorem flat_len {α:Type} {n:Nat} {f:α→List Value} (hf:∀x,(f x).length=n):∀l:List α,(l.flatMap f).length=l.length*n
 | []=>by simp
 |x::r=>by rw[List.flatMap_cons,List.length_append,hf,flat_len hf r,List.length_cons,Nat.succ_mul,Nat.add_comm]
theorem flat_at {α:Type} {n:Nat} {f:α→List Value} (hf:∀x,(f x).length=n):∀(l:List α) (i:Nat) (x:α),l[i]? =some x→∀k,k<n→(l.flatMap f)[i*n+k]? =(f x)[k]?
 | [],i,x,h,_,_=>by simp at h
 |y::r,0,x,h,k,hk=>by
  simp only[List.getElem?_cons_zero,Option.some.injEq] at h
  subst h
  rw[List.flatMap_cons,List.getElem?_append_left (by rw[hf];omega),Nat.zero_mul,Nat.zero_add]
 |y::r,i+1,x,h,k,hk=>by
  rw[List.getElem?_cons_succ] at h
  rw[List.flatMap_cons,List.getElem?_append_right (by rw[hf,Nat.succ_mul];omega),hf,←flat_at hf r i x h k hk]
  congr 1
  rw[Nat.succ_mul];omega
theorem row5 {w:World} {g o n:Nat} {a b c d e:Value} {cs:List Value} (h:∀(j:Nat) (v:Value),cs[j]? =some v→w.cell? ⟨g,o+j,none⟩=some v) (h0:∀k,k<5→cs[n+k]? =[a,b,c,d,e][k]?):
  w.cell? ⟨g,o+n,none⟩=some a∧w.cell? ⟨g,o+n+1,none⟩=some b∧w.cell? ⟨g,o+n+2,none⟩=some c∧w.cell? ⟨g,o+n+3,none⟩=some d∧w.cell? ⟨g,o+n+4,none⟩=some e:=
 ⟨h n a (h0 0 (by decide)),h (n+1) b (h0 1 (by decide)),h (n+2) c (h0 2 (by decide)),h (n+3) d (h0 3 (by decide)),h (n+4) e (h0 4 (by decide))⟩
theorem row6 {w:World} {g o n:Nat} {a b c d e f:Value} {cs:List Value} (h:∀(j:Nat) (v:Value),cs[j]? =some v→w.cell? ⟨g,o+j,none⟩=some v) (h0:∀k,k<6→cs[n+k]? =[a,b,c,d,e,f][k]?):
  w.cell? ⟨g,o+n,none⟩=some a∧w.cell? ⟨g,o+n+1,none⟩=some b∧w.cell? ⟨g,o+n+2,none⟩=some c∧w.cell? ⟨g,o+n+3,none⟩=some d∧w.cell? ⟨g,o+n+4,none⟩=some e∧w.cell? ⟨g,o+n+5,none⟩=some f:=
 ⟨h n a (h0 0 (by decide)),h (n+1) b (h0 1 (by decide)),h (n+2) c (h0 2 (by decide)),h (n+3) d (h0 3 (by decide)),h (n+4) e (h0 4 (by decide)),h (n+5) f (h0 5 (by decide))⟩
structure Fv where
 ta:Option Addr
 tc:Nat
 ca:Option Addr
 cc:Nat
def insCells (x:Ci):List Value:=[.int .i64 x.op,.int .i64 x.a,.int .i64 x.b,.string x.text,.int .i64 x.at_]
def fnCells (f:Cf×Fv):List Value:=[.string f.1.name,.int .i64 f.1.params,.int .i64 f.1.slots,.slice f.2.ta f.1.taken.length f.2.tc,.int .i64 f.1.around,.slice f.2.ca f.1.code.length f.2.cc]
theorem ins_len (x:Ci):(insCells x).length=5:=rfl
theorem fn_len (x:Cf×Fv):(fnCells x).length=6:=rfl
theorem fn_at {w:World} {g o:Nat} {xs:List (Cf×Fv)} (h:∀(j:Nat) (v:Value),(xs.flatMap fnCells)[j]? =some v→w.cell? ⟨g,o+j,none⟩=some v) {i:Nat} {f:Cf} {x:Fv} (hi:xs[i]? =some (f,x)):
  w.cell? ⟨g,o+i*6,none⟩=some (.string f.name)∧w.cell? ⟨g,o+i*6+1,none⟩=some (.int .i64 f.params)∧w.cell? ⟨g,o+i*6+2,none⟩=some (.int .i64 f.slots)∧w.cell? ⟨g,o+i*6+3,none⟩=some (.slice x.ta f.taken.length x.tc)∧
   w.cell? ⟨g,o+i*6+4,none⟩=some (.int .i64 f.around)∧w.cell? ⟨g,o+i*6+5,none⟩=some (.slice x.ca f.code.length x.cc):=
 row6 h fun k hk=>flat_at fn_len xs i (f,x) hi k hk
theorem ins_at {w:World} {g o:Nat} {xs:List Ci} (h:∀(j:Nat) (v:Value),(xs.flatMap insCells)[j]? =some v→w.cell? ⟨g,o+j,none⟩=some v) {i:Nat} {x:Ci} (hi:xs[i]? =some x):
  w.cell? ⟨g,o+i*5,none⟩=some (.int .i64 x.op)∧w.cell? ⟨g,o+i*5+1,none⟩=some (.int .i64 x.a)∧w.cell? ⟨g,o+i*5+2,none⟩=some (.int .i64 x.b)∧w.cell? ⟨g,o+i*5+3,none⟩=some (.string x.text)∧w.cell? ⟨g,o+i*5+4,none⟩=some (.int .i64 x.at_):=
 row5 h fun k hk=>flat_at ins_len xs i x hi k hk
def CiOk (x:Ci):Prop:=okI x.op∧okI x.a∧okI x.b∧okI x.at_∧x.text.size≤140737488351232
def CfOk (f:Cf):Prop:=f.name.size≤140737488351232∧okI f.params∧okI f.slots∧okI f.around∧f.taken.length≤140737488351232∧f.code.length≤140737488351232∧(∀t∈f.taken,okI t)∧∀x∈f.code,CiOk x
def CpOk (p:Cp):Prop:=p.funcs.length≤140737488351232∧p.globals.length≤140737488351232∧(∀f∈p.funcs,CfOk f)∧∀s∈p.globals,s.size≤140737488351232
def LiesF (w:World) (B:Nat) (x:Cf×Fv):Prop:=RowIs w B x.2.ta (x.1.taken.map (Value.int .i64))∧RowIs w B x.2.ca (x.1.code.flatMap insCells)∧x.1.taken.length≤x.2.tc∧x.1.code.length≤x.2.cc
def LiesC (w:World) (B:Nat) (p:Cp) (v:Value):Prop:=∃(fa:Option Addr) (fc:Nat) (ga:Option Addr) (gc:Nat) (xs:List (Cf×Fv)),xs.map Prod.fst=p.funcs∧
 v= .agg #[.slice fa p.funcs.length fc,.slice ga p.globals.length gc]∧RowIs w B fa (xs.flatMap fnCells)∧RowIs w B ga (p.globals.map Value.string)∧p.funcs.length≤fc∧p.globals.length≤gc∧∀x∈xs,LiesF w B x
theorem LiesF.keep {w w':World} {B:Nat} {x:Cf×Fv} (h:LiesF w B x) (hk:∀b,b<B→w'.heap[b]? =w.heap[b]?):LiesF w' B x:=⟨h.1.keep hk,h.2.1.keep hk,h.2.2⟩
theorem LiesC.keep {w w':World} {B:Nat} {p:Cp} {v:Value} (h:LiesC w B p v) (hk:∀b,b<B→w'.heap[b]? =w.heap[b]?):LiesC w' B p v:=by
 obtain⟨fa,fc,ga,gc,xs,h1,h2,h3,h4,h5,h6,h7⟩:=h
 exact⟨fa,fc,ga,gc,xs,h1,h2,h3.keep hk,h4.keep hk,h5,h6,fun x hx=>(h7 x hx).keep hk⟩
def sameI (x y:Ci):Bool:=x.op==y.op&&(x.a==y.a&&(x.b==y.b&&(decide (x.text=y.text)&&x.at_==y.at_)))
def sameIs:List Ci→List Ci→Bool
 | [],[]=>true
 |x::l,y::r=>sameI x y&&sameIs l r
 |_,_=>false
def sameF (x y:Cf):Bool:=decide (x.name=y.name)&&(x.params==y.params&&(x.slots==y.slots&&(x.around==y.around&&(x.taken==y.taken&&sameIs x.code y.code))))
def sameFs:List Cf→List Cf→Bool
 | [],[]=>true
 |x::l,y::r=>sameF x y&&sameFs l r
 |_,_=>false
def sameC (p q:Cp):Bool:=decide (p.globals=q.globals)&&sameFs p.funcs q.funcs
theorem sameI_iff {x y:Ci}:sameI x y=true ↔ x=y:=by
 cases x;cases y
 simp[sameI]
theorem sameIs_iff:∀ {l r:List Ci},sameIs l r=true ↔ l=r
 | [],[]=>by simp[sameIs]
 | [],_::_=>by simp[sameIs]
 |_::_,[]=>by simp[sameIs]
 |x::l,y::r=>by rw[sameIs,Bool.and_eq_true,sameI_iff,sameIs_iff,List.cons.injEq]
theorem sameF_iff {x y:Cf}:sameF x y=true ↔ x=y:=by
 cases x;cases y
 simp only[sameF,Bool.and_eq_true,decide_eq_true_eq,beq_iff_eq,sameIs_iff,Cf.mk.injEq]
 constructor
 ·rintro⟨a,b,c,d,e,f⟩;exact⟨a,b,c,e,d,f⟩
 ·rintro⟨a,b,c,d,e,f⟩;exact⟨a,b,c,e,d,f⟩
theorem sameFs_iff:∀ {l r:List Cf},sameFs l r=true ↔ l=r
 | [],[]=>by simp[sameFs]
 | [],_::_=>by simp[sameFs]
 |_::_,[]=>by simp[sameFs]
 |x::l,y::r=>by rw[sameFs,Bool.and_eq_true,sameF_iff,sameFs_iff,List.cons.injEq]
theorem sameC_iff {p q:Cp}:sameC p q=true ↔ p=q:=by
 cases p;cases q
 simp[sameC,sameFs_iff,and_comm]
theorem sameC_self (p:Cp):sameC p p=true:=sameC_iff.2 rfl
theorem getD_mem {l:List Int} {i:Nat} (h:i<l.length):l.getD i 0∈l:=by
 rw[List.getD_eq_getElem?_getD,List.getElem?_eq_getElem h]
 exact List.getElem_mem h
theorem swap_len (l:List Int) (i j:Nat):(swapL l i j).length=l.length:=by simp[swapL]
theorem swap_mem {l:List Int} {i j:Nat} (hi:i<l.length) (hj:j<l.length) {x:Int} (h:x∈swapL l i j):x∈l:=by
 rcases List.mem_or_eq_of_mem_set h with h|h
 ·rcases List.mem_or_eq_of_mem_set h with h|h
  ·exact h
  ·rw[h];exact getD_mem hj
 ·rw[h];exact getD_mem hi
theorem up_mem:∀(f:Nat) (l:List Int) (j:Nat),j<l.length→(∀x∈upL f l j,x∈l)∧(upL f l j).length=l.length
 |0,l,j,_=>⟨fun _ h=>h,rfl⟩
 |f+1,l,j,hj=>by
  rw[upL]
  split
  ·exact⟨fun _ h=>h,rfl⟩
  ·obtain⟨h1,h2⟩:=up_mem f (swapL l ((j-1)/2) j) ((j-1)/2) (by rw[swap_len];omega)
   exact⟨fun x hx=>swap_mem (by omega) hj (h1 x hx),by rw[h2,swap_len]⟩
theorem down_mem:∀(f:Nat) (l:List Int) (i n:Nat),n≤l.length→(∀x∈downL f l i n,x∈l)∧(downL f l i n).length=l.length
 |0,l,i,n,_=>⟨fun _ h=>h,rfl⟩
 |f+1,l,i,n,hn=>by
  rw[downL]
  split
  ·exact⟨fun _ h=>h,rfl⟩
  ·rename_i h1
   simp only
   obtain⟨j,hj⟩:∃j,(if 2*i+2<n∧l.getD (2*i+2) 0<l.getD (2*i+1) 0 then 2*i+2 else 2*i+1)=j:=⟨_,rfl⟩
   have hjn:j<n:=by rw[←hj];split<;>omega
   rw[hj]
   by_cases hlt:l.getD j 0<l.getD i 0
   ·rw[if_pos hlt]
    obtain⟨e1,e2⟩:=down_mem f (swapL l i j) j n (by rw[swap_len];exact hn)
    exact⟨fun x hx=>swap_mem (by omega) (by omega) (e1 x hx),by rw[e2,swap_len]⟩
   ·rw[if_neg hlt]
    exact⟨fun _ h=>h,rfl⟩
theorem push_mem (l:List Int) (n:Int):(∀x∈pushL l n,x∈l∨x=n)∧(pushL l n).length=l.length+1:=by
 obtain⟨h1,h2⟩:=up_mem (l.length+1) (l++ [n]) l.length (by simp)
 refine⟨fun x hx=> ?_,by rw[pushL,h2];simp⟩
 have:=h1 x hx
 simpa using this
theorem pop_mem {l:List Int} (h:l≠ []):(popL l).1∈l∧(∀x∈(popL l).2,x∈l)∧(popL l).2.length=l.length-1:=by
 have h0:0<l.length:=List.length_pos_iff.2 h
 obtain⟨h1,h2⟩:=down_mem l.length (swapL l 0 (l.length-1)) 0 (l.length-1) (by rw[swap_len];omega)
 rw[swap_len] at h2
 have hs:∀x∈downL l.length (swapL l 0 (l.length-1)) 0 (l.length-1),x∈l:=fun x hx=>swap_mem h0 (by omega) (h1 x hx)
 refine⟨hs _ (getD_mem (by rw[h2];omega)),fun x hx=>hs x (List.mem_of_mem_take hx), ?_⟩
 show(List.take (l.length-1) _).length=_
 rw[List.length_take,h2]
 omega
def Cst.mu (c:Cst):Nat:=3*c.seen.count false+c.todo.length
theorem hand_todo (c:Cst) (k:Nat) (s:List UInt8):(∀x∈(handP c k s).1.todo,x∈c.todo∨x=(k:Int))∧(handP c k s).1.todo.length≤c.todo.length+1∧(handP c k s).1.seen=c.seen∧(handP c k s).1.at_.length=c.at_.length:=by
 unfold handP
 split
 ·refine⟨fun x hx=>(push_mem _ _).1 x hx,by simp only;rw[(push_mem _ _).2];exact Nat.le_refl _,rfl,by simp⟩
 ·exact⟨fun x hx=> .inl hx,Nat.le_succ _,rfl,rfl⟩
theorem hand_some (c:Cst) (k:Nat) (s:List UInt8) (j:Nat) (hj:c.at_.getD j none≠none∨(j=k∧k<c.at_.length)):(handP c k s).1.at_.getD j none≠none:=by
 unfold handP
 split
 ·rename_i hn
  simp only
  rw[List.getD_eq_getElem?_getD,List.getElem?_set]
  by_cases hjk:k=j
  ·subst hjk
   rw[if_pos rfl]
   split
   ·simp
   ·rename_i hlt
    rcases hj with hj|⟨_,hj⟩
    ·exact absurd hn hj
    ·exact absurd hj hlt
  ·rw[if_neg hjk,←List.getD_eq_getElem?_getD]
   rcases hj with hj|⟨hj,_⟩
   ·exact hj
   ·exact absurd hj.symm hjk
 ·rename_i t ht
  rcases hj with hj|⟨hj,_⟩
  ·exact hj
  ·subst hj;rw[ht];simp
theorem setRow_facts (w:World) (cs Z T:Array Value) (t0 t:TypeId) (W2:World) (h:((w.alloc (.cells cs t0)).alloc (.cells Z t)).setRow (w.heap.size+1) T=W2):
  W2.heap.size=w.heap.size+2∧W2.heap[w.heap.size+1]? =some (.cells T t (0,0))∧W2.heap[w.heap.size]? =some (.cells cs t0 (0,0))∧Below w.heap.size w W2:=by
 have hg:=heap_alloc_new (w.alloc (.cells cs t0)) (.cells Z t)
 rw[World.size_alloc] at hg
 have hk:∀b,b≠w.heap.size+1→W2.heap[b]? =((w.alloc (.cells cs t0)).alloc (.cells Z t)).heap[b]? :=by
  intro b hb
  rw[←h]
  simp only[World.setRow,Array.getElem?_modify]
  rw[if_neg (Ne.symm hb)]
 have hb2:=((Below.refl w.heap.size w).alloc (Nat.le_refl _) (.cells cs t0)).alloc (by rw[World.size_alloc];omega) (.cells Z t)
 have hs:W2.heap.size=w.heap.size+2:=by
  rw[←h]
  show(Array.modify _ _ _).size=_
  rw[Array.size_modify,World.size_alloc,World.size_alloc]
 refine⟨hs, ?_, ?_, ?_⟩
 ·rw[←h];exact setRow_heap _ _ _ _ _ _ hg
 ·rw[hk _ (by omega)]
  have h1:=((Below.refl (w.heap.size+1) (w.alloc (.cells cs t0))).alloc (by rw[World.size_alloc];exact Nat.le_refl _) (.cells Z t)).block w.heap.size (by omega)
  rw[h1]
  exact heap_alloc_new w (.cells cs t0)
 ·refine⟨?_, ?_, ?_,by omega,fun k hk2=> ?_⟩
  ·rw[←h];exact hb2.os
  ·rw[←h];exact hb2.tape
  ·rw[←h];exact hb2.output
  ·rw[hk k (by omega)];exact hb2.block k hk2
end Go.Proofs.YtagnicbknbmccaaGreatDoor
