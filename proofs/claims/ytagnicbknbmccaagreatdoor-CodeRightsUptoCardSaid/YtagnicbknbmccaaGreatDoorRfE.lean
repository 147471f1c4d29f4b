/- What guiseref13 says of an instruction is what the program says. -/
import Derived.Test.YtagnicbknbmccaaGreatDoorMRfA
namespace Go.Proofs.YtagnicbknbmccaaGreatDoor
def betw (a n:Int):Bool:=decide (0≤a)&&decide (a<n)
def textR (x:Ci):Bool:=
 let s:=x.text.data.toList
 if x.op=3 then wholeR s else if x.op=4 then floatR s else if x.op=5 then decide (s.length≤65536) else if x.op=8 then someR s x.a false
 else if x.op=18 then unaryW.any (·==s) else if x.op=19 then binaryW.any (·==s) else if x.op=20 then s==[38,38]||s==[124,124] else if x.op=21 then someR s 0 false
 else if x.op=22∨x.op=43 then nameL s else if x.op=23 then namesR s 2 2 else if x.op=29 then namesR s (x.a+1) 1 else if x.op=32 then someR s x.a true
 else if x.op=33 then(if x.a=2 then s==[] else someR s x.a true) else if x.op=47∨x.op=49 then builtW.any (·==s) else s==[]
def numbersR (p:Cp) (f:Nat) (o:Cf) (x:Ci):Bool:=
 (x.op==26||x.b==0)&&
 if x.op=6∨x.op=8∨x.op=22∨x.op=23∨x.op=32 then x.a==0||x.a==1 else if x.op=33 then betw x.a 3
 else if x.op=9∨x.op=12∨x.op=13∨x.op=38 then betw x.a o.slots else if x.op=10∨x.op=14∨x.op=39 then betw x.a p.globals.length
 else if x.op=11∨x.op=15∨x.op=40 then betw x.a o.taken.length else if x.op=21 then decide (1≤x.a)&&decide (x.a≤7)
 else if x.op=26 then(x.a==2||x.a==3)&&(betw x.b 4&&(x.a==2||decide (x.b<2)))
 else if x.op=27∨x.op=28∨x.op=46∨x.op=47∨x.op=48∨x.op=49∨x.op=53 then betw x.a 20001 else if x.op=29 then betw x.a 31
 else if x.op=31 then betw x.a p.funcs.length&&(decide (0<x.a)&&(match p.funcs[x.a.toNat]? with
  |none=>false
  |some g=>g.around== -1||g.around==f))
 else if x.op=34∨x.op=35∨x.op=36∨x.op=37∨x.op=52 then betw x.a o.code.length else x.a==0
theorem beq_swap (a b:List UInt8):(a==b)=(b==a):=by
 rw[Bool.eq_iff_iff]
 simp only[beq_iff_eq]
 exact⟨Eq.symm,Eq.symm⟩
theorem any_ne {l:List (List UInt8)} (h:l.all (fun x=> !x.isEmpty)=true) (s:List UInt8):amongB l s=l.any (·==s):=by
 unfold amongB
 cases s with
 |cons c r=>simp
 |nil=>
  cases ha:l.any (·==([]:List UInt8)) with
  |false=>rfl
  |true=>
   obtain⟨x,hx,e⟩:=List.any_eq_true.1 ha
   have:=List.all_eq_true.1 h x hx
   obtain rfl:x=[]:=by simpa using e
   cases this
theorem empty_eq (s:List UInt8):s.isEmpty=(s==[]):=by cases s<;>rfl
def numbersA (op a:Int):Bool:=if op=29 then betw a 31 else if op=32 then a==0||a==1 else if op=33 then betw a 3 else true
theorem ha29 {a:Int} (h:numbersA 29 a=true):0≤a∧a<31:=by simpa[numbersA,betw] using h
theorem ha32 {a:Int} (h:numbersA 32 a=true):a=0∨a=1:=by simpa[numbersA] using h
theorem ha33 {a:Int} (h:numbersA 33 a=true):a=0∨a=1∨a=2:=by
 have:0≤a∧a<3:=by simpa[numbersA,betw] using h
 omega
theorem says_1 (a b p:Int) (t:ByteArray):saysB ⟨1,a,b,t,p⟩=textR ⟨1,a,b,t,p⟩:=empty_eq t.data.toList
theorem says_2 (a b p:Int) (t:ByteArray):saysB ⟨2,a,b,t,p⟩=textR ⟨2,a,b,t,p⟩:=empty_eq t.data.toList
theorem says_3 (a b p:Int) (t:ByteArray):saysB ⟨3,a,b,t,p⟩=textR ⟨3,a,b,t,p⟩:=(wholeR_eq t.data.toList).symm
theorem says_4 (a b p:Int) (t:ByteArray):saysB ⟨4,a,b,t,p⟩=textR ⟨4,a,b,t,p⟩:=(floatR_eq t.data.toList).symm
theorem says_5 (a b p:Int) (t:ByteArray):saysB ⟨5,a,b,t,p⟩=textR ⟨5,a,b,t,p⟩:=rfl
theorem says_6 (a b p:Int) (t:ByteArray):saysB ⟨6,a,b,t,p⟩=textR ⟨6,a,b,t,p⟩:=empty_eq t.data.toList
theorem says_7 (a b p:Int) (t:ByteArray):saysB ⟨7,a,b,t,p⟩=textR ⟨7,a,b,t,p⟩:=empty_eq t.data.toList
theorem says_8 (a b p:Int) (t:ByteArray):saysB ⟨8,a,b,t,p⟩=textR ⟨8,a,b,t,p⟩:=(someR_eq t.data.toList a false).symm
theorem says_9 (a b p:Int) (t:ByteArray):saysB ⟨9,a,b,t,p⟩=textR ⟨9,a,b,t,p⟩:=empty_eq t.data.toList
theorem says_10 (a b p:Int) (t:ByteArray):saysB ⟨10,a,b,t,p⟩=textR ⟨10,a,b,t,p⟩:=empty_eq t.data.toList
theorem says_11 (a b p:Int) (t:ByteArray):saysB ⟨11,a,b,t,p⟩=textR ⟨11,a,b,t,p⟩:=empty_eq t.data.toList
theorem says_12 (a b p:Int) (t:ByteArray):saysB ⟨12,a,b,t,p⟩=textR ⟨12,a,b,t,p⟩:=empty_eq t.data.toList
theorem says_13 (a b p:Int) (t:ByteArray):saysB ⟨13,a,b,t,p⟩=textR ⟨13,a,b,t,p⟩:=empty_eq t.data.toList
theorem says_14 (a b p:Int) (t:ByteArray):saysB ⟨14,a,b,t,p⟩=textR ⟨14,a,b,t,p⟩:=empty_eq t.data.toList
theorem says_15 (a b p:Int) (t:ByteArray):saysB ⟨15,a,b,t,p⟩=textR ⟨15,a,b,t,p⟩:=empty_eq t.data.toList
theorem says_16 (a b p:Int) (t:ByteArray):saysB ⟨16,a,b,t,p⟩=textR ⟨16,a,b,t,p⟩:=empty_eq t.data.toList
theorem says_17 (a b p:Int) (t:ByteArray):saysB ⟨17,a,b,t,p⟩=textR ⟨17,a,b,t,p⟩:=empty_eq t.data.toList
theorem says_18 (a b p:Int) (t:ByteArray):saysB ⟨18,a,b,t,p⟩=textR ⟨18,a,b,t,p⟩:=any_ne rfl t.data.toList
theorem says_19 (a b p:Int) (t:ByteArray):saysB ⟨19,a,b,t,p⟩=textR ⟨19,a,b,t,p⟩:=any_ne rfl t.data.toList
theorem says_20 (a b p:Int) (t:ByteArray):saysB ⟨20,a,b,t,p⟩=textR ⟨20,a,b,t,p⟩:=(any_ne rfl t.data.toList).trans (by
 show([38,38]==t.data.toList||([124,124]==t.data.toList||false))=(t.data.toList==[38,38]||t.data.toList==[124,124])
 rw[beq_swap [38,38],beq_swap [124,124],Bool.or_false])
theorem says_21 (a b p:Int) (t:ByteArray):saysB ⟨21,a,b,t,p⟩=textR ⟨21,a,b,t,p⟩:=(someR_eq t.data.toList 0 false).symm
theorem says_22 (a b p:Int) (t:ByteArray):saysB ⟨22,a,b,t,p⟩=textR ⟨22,a,b,t,p⟩:=rfl
theorem says_23 (a b p:Int) (t:ByteArray):saysB ⟨23,a,b,t,p⟩=textR ⟨23,a,b,t,p⟩:=(namesR_two t.data.toList).symm
theorem says_24 (a b p:Int) (t:ByteArray):saysB ⟨24,a,b,t,p⟩=textR ⟨24,a,b,t,p⟩:=empty_eq t.data.toList
theorem says_25 (a b p:Int) (t:ByteArray):saysB ⟨25,a,b,t,p⟩=textR ⟨25,a,b,t,p⟩:=empty_eq t.data.toList
theorem says_26 (a b p:Int) (t:ByteArray):saysB ⟨26,a,b,t,p⟩=textR ⟨26,a,b,t,p⟩:=empty_eq t.data.toList
theorem says_27 (a b p:Int) (t:ByteArray):saysB ⟨27,a,b,t,p⟩=textR ⟨27,a,b,t,p⟩:=empty_eq t.data.toList
theorem says_28 (a b p:Int) (t:ByteArray):saysB ⟨28,a,b,t,p⟩=textR ⟨28,a,b,t,p⟩:=empty_eq t.data.toList
theorem says_29 (a b p:Int) (t:ByteArray) (ha:numbersA 29 a=true):saysB ⟨29,a,b,t,p⟩=textR ⟨29,a,b,t,p⟩:=(namesR_fields t.data.toList (a+1) (by have:=ha29 ha;omega)).symm
theorem says_30 (a b p:Int) (t:ByteArray):saysB ⟨30,a,b,t,p⟩=textR ⟨30,a,b,t,p⟩:=empty_eq t.data.toList
theorem says_31 (a b p:Int) (t:ByteArray):saysB ⟨31,a,b,t,p⟩=textR ⟨31,a,b,t,p⟩:=empty_eq t.data.toList
theorem says_32 (a b p:Int) (t:ByteArray) (ha:numbersA 32 a=true):saysB ⟨32,a,b,t,p⟩=textR ⟨32,a,b,t,p⟩:=by
 show((a==2&&t.data.toList.isEmpty)||(decide (a<2)&&typedB t.data.toList (a==1) true))=someR t.data.toList a true
 have h:=ha32 ha
 rw[someR_eq]
 rcases h with rfl|rfl<;>simp
theorem says_33 (a b p:Int) (t:ByteArray) (ha:numbersA 33 a=true):saysB ⟨33,a,b,t,p⟩=textR ⟨33,a,b,t,p⟩:=by
 show((a==2&&t.data.toList.isEmpty)||(decide (a<2)&&typedB t.data.toList (a==1) true))=(if a=2 then _ else someR t.data.toList a true)
 have h:=ha33 ha
 rw[someR_eq]
 rcases h with rfl|rfl|rfl<;>simp
theorem says_34 (a b p:Int) (t:ByteArray):saysB ⟨34,a,b,t,p⟩=textR ⟨34,a,b,t,p⟩:=empty_eq t.data.toList
theorem says_35 (a b p:Int) (t:ByteArray):saysB ⟨35,a,b,t,p⟩=textR ⟨35,a,b,t,p⟩:=empty_eq t.data.toList
theorem says_36 (a b p:Int) (t:ByteArray):saysB ⟨36,a,b,t,p⟩=textR ⟨36,a,b,t,p⟩:=empty_eq t.data.toList
theorem says_37 (a b p:Int) (t:ByteArray):saysB ⟨37,a,b,t,p⟩=textR ⟨37,a,b,t,p⟩:=empty_eq t.data.toList
theorem says_38 (a b p:Int) (t:ByteArray):saysB ⟨38,a,b,t,p⟩=textR ⟨38,a,b,t,p⟩:=empty_eq t.data.toList
theorem says_39 (a b p:Int) (t:ByteArray):saysB ⟨39,a,b,t,p⟩=textR ⟨39,a,b,t,p⟩:=empty_eq t.data.toList
theorem says_40 (a b p:Int) (t:ByteArray):saysB ⟨40,a,b,t,p⟩=textR ⟨40,a,b,t,p⟩:=empty_eq t.data.toList
theorem says_41 (a b p:Int) (t:ByteArray):saysB ⟨41,a,b,t,p⟩=textR ⟨41,a,b,t,p⟩:=empty_eq t.data.toList
theorem says_42 (a b p:Int) (t:ByteArray):saysB ⟨42,a,b,t,p⟩=textR ⟨42,a,b,t,p⟩:=empty_eq t.data.toList
theorem says_43 (a b p:Int) (t:ByteArray):saysB ⟨43,a,b,t,p⟩=textR ⟨43,a,b,t,p⟩:=rfl
theorem says_44 (a b p:Int) (t:ByteArray):saysB ⟨44,a,b,t,p⟩=textR ⟨44,a,b,t,p⟩:=empty_eq t.data.toList
theorem says_45 (a b p:Int) (t:ByteArray):saysB ⟨45,a,b,t,p⟩=textR ⟨45,a,b,t,p⟩:=empty_eq t.data.toList
theorem says_46 (a b p:Int) (t:ByteArray):saysB ⟨46,a,b,t,p⟩=textR ⟨46,a,b,t,p⟩:=empty_eq t.data.toList
theorem says_47 (a b p:Int) (t:ByteArray):saysB ⟨47,a,b,t,p⟩=textR ⟨47,a,b,t,p⟩:=any_ne rfl t.data.toList
theorem says_48 (a b p:Int) (t:ByteArray):saysB ⟨48,a,b,t,p⟩=textR ⟨48,a,b,t,p⟩:=empty_eq t.data.toList
theorem says_49 (a b p:Int) (t:ByteArray):saysB ⟨49,a,b,t,p⟩=textR ⟨49,a,b,t,p⟩:=any_ne rfl t.data.toList
theorem says_50 (a b p:Int) (t:ByteArray):saysB ⟨50,a,b,t,p⟩=textR ⟨50,a,b,t,p⟩:=empty_eq t.data.toList
theorem says_51 (a b p:Int) (t:ByteArray):saysB ⟨51,a,b,t,p⟩=textR ⟨51,a,b,t,p⟩:=empty_eq t.data.toList
theorem says_52 (a b p:Int) (t:ByteArray):saysB ⟨52,a,b,t,p⟩=textR ⟨52,a,b,t,p⟩:=empty_eq t.data.toList
theorem says_53 (a b p:Int) (t:ByteArray):saysB ⟨53,a,b,t,p⟩=textR ⟨53,a,b,t,p⟩:=empty_eq t.data.toList
def bcond (x:Ci):Bool:=x.b==0||(x.op==26&&(x.b==1||(x.a==2&&(x.b==2||x.b==3))))
section
variable {p:Cp} {f:Nat} {o:Cf} (ho:p.funcs[f]? =some o) (a b q:Int) (t:ByteArray)
include ho
theorem num_1:(numberedB p f ⟨1,a,b,t,q⟩&&bcond ⟨1,a,b,t,q⟩)=numbersR p f o ⟨1,a,b,t,q⟩:=by
 have h:numberedB p f ⟨1,a,b,t,q⟩=(a==0):=by unfold numberedB;rw[ho];rfl
 rw[h]
 show((a==0)&&(b==0||(false&&_)))=((false||b==0)&&(a==0))
 simp[Bool.and_comm]
theorem num_2:(numberedB p f ⟨2,a,b,t,q⟩&&bcond ⟨2,a,b,t,q⟩)=numbersR p f o ⟨2,a,b,t,q⟩:=by
 have h:numberedB p f ⟨2,a,b,t,q⟩=(a==0):=by unfold numberedB;rw[ho];rfl
 rw[h]
 show((a==0)&&(b==0||(false&&_)))=((false||b==0)&&(a==0))
 simp[Bool.and_comm]
theorem num_3:(numberedB p f ⟨3,a,b,t,q⟩&&bcond ⟨3,a,b,t,q⟩)=numbersR p f o ⟨3,a,b,t,q⟩:=by
 have h:numberedB p f ⟨3,a,b,t,q⟩=(a==0):=by unfold numberedB;rw[ho];rfl
 rw[h]
 show((a==0)&&(b==0||(false&&_)))=((false||b==0)&&(a==0))
 simp[Bool.and_comm]
theorem num_4:(numberedB p f ⟨4,a,b,t,q⟩&&bcond ⟨4,a,b,t,q⟩)=numbersR p f o ⟨4,a,b,t,q⟩:=by
 have h:numberedB p f ⟨4,a,b,t,q⟩=(a==0):=by unfold numberedB;rw[ho];rfl
 rw[h]
 show((a==0)&&(b==0||(false&&_)))=((false||b==0)&&(a==0))
 simp[Bool.and_comm]
theorem num_5:(numberedB p f ⟨5,a,b,t,q⟩&&bcond ⟨5,a,b,t,q⟩)=numbersR p f o ⟨5,a,b,t,q⟩:=by
 have h:numberedB p f ⟨5,a,b,t,q⟩=(a==0):=by unfold numberedB;rw[ho];rfl
 rw[h]
 show((a==0)&&(b==0||(false&&_)))=((false||b==0)&&(a==0))
 simp[Bool.and_comm]
theorem num_6:(numberedB p f ⟨6,a,b,t,q⟩&&bcond ⟨6,a,b,t,q⟩)=numbersR p f o ⟨6,a,b,t,q⟩:=by
 have h:numberedB p f ⟨6,a,b,t,q⟩=(decide (0≤a)&&decide (a<2)):=by unfold numberedB;rw[ho];rfl
 rw[h]
 show((decide (0≤a)&&decide (a<2))&&(b==0||(false&&_)))=((false||b==0)&&(a==0||a==1))
 rw[Bool.eq_iff_iff]
 simp
 omega
theorem num_7:(numberedB p f ⟨7,a,b,t,q⟩&&bcond ⟨7,a,b,t,q⟩)=numbersR p f o ⟨7,a,b,t,q⟩:=by
 have h:numberedB p f ⟨7,a,b,t,q⟩=(a==0):=by unfold numberedB;rw[ho];rfl
 rw[h]
 show((a==0)&&(b==0||(false&&_)))=((false||b==0)&&(a==0))
 simp[Bool.and_comm]
theorem num_8:(numberedB p f ⟨8,a,b,t,q⟩&&bcond ⟨8,a,b,t,q⟩)=numbersR p f o ⟨8,a,b,t,q⟩:=by
 have h:numberedB p f ⟨8,a,b,t,q⟩=(decide (0≤a)&&decide (a<2)):=by unfold numberedB;rw[ho];rfl
 rw[h]
 show((decide (0≤a)&&decide (a<2))&&(b==0||(false&&_)))=((false||b==0)&&(a==0||a==1))
 rw[Bool.eq_iff_iff]
 simp
 omega
theorem num_9:(numberedB p f ⟨9,a,b,t,q⟩&&bcond ⟨9,a,b,t,q⟩)=numbersR p f o ⟨9,a,b,t,q⟩:=by
 have h:numberedB p f ⟨9,a,b,t,q⟩=(decide (0≤a)&&decide (a<o.slots)):=by unfold numberedB;rw[ho];rfl
 rw[h]
 show((decide (0≤a)&&decide (a<o.slots))&&(b==0||(false&&_)))=((false||b==0)&&(decide (0≤a)&&decide (a<o.slots)))
 simp[Bool.and_comm]
theorem num_10:(numberedB p f ⟨10,a,b,t,q⟩&&bcond ⟨10,a,b,t,q⟩)=numbersR p f o ⟨10,a,b,t,q⟩:=by
 have h:numberedB p f ⟨10,a,b,t,q⟩=(decide (0≤a)&&decide (a<(p.globals.length:Int))):=by unfold numberedB;rw[ho];rfl
 rw[h]
 show((decide (0≤a)&&decide (a<(p.globals.length:Int)))&&(b==0||(false&&_)))=((false||b==0)&&(decide (0≤a)&&decide (a<(p.globals.length:Int))))
 simp[Bool.and_comm]
theorem num_11:(numberedB p f ⟨11,a,b,t,q⟩&&bcond ⟨11,a,b,t,q⟩)=numbersR p f o ⟨11,a,b,t,q⟩:=by
 have h:numberedB p f ⟨11,a,b,t,q⟩=(decide (0≤a)&&decide (a<(o.taken.length:Int))):=by unfold numberedB;rw[ho];rfl
 rw[h]
 show((decide (0≤a)&&decide (a<(o.taken.length:Int)))&&(b==0||(false&&_)))=((false||b==0)&&(decide (0≤a)&&decide (a<(o.taken.length:Int))))
 simp[Bool.and_comm]
theorem num_12:(numberedB p f ⟨12,a,b,t,q⟩&&bcond ⟨12,a,b,t,q⟩)=numbersR p f o ⟨12,a,b,t,q⟩:=by
 have h:numberedB p f ⟨12,a,b,t,q⟩=(decide (0≤a)&&decide (a<o.slots)):=by unfold numberedB;rw[ho];rfl
 rw[h]
 show((decide (0≤a)&&decide (a<o.slots))&&(b==0||(false&&_)))=((false||b==0)&&(decide (0≤a)&&decide (a<o.slots)))
 simp[Bool.and_comm]
theorem num_13:(numberedB p f ⟨13,a,b,t,q⟩&&bcond ⟨13,a,b,t,q⟩)=numbersR p f o ⟨13,a,b,t,q⟩:=by
 have h:numberedB p f ⟨13,a,b,t,q⟩=(decide (0≤a)&&decide (a<o.slots)):=by unfold numberedB;rw[ho];rfl
 rw[h]
 show((decide (0≤a)&&decide (a<o.slots))&&(b==0||(false&&_)))=((false||b==0)&&(decide (0≤a)&&decide (a<o.slots)))
 simp[Bool.and_comm]
theorem num_14:(numberedB p f ⟨14,a,b,t,q⟩&&bcond ⟨14,a,b,t,q⟩)=numbersR p f o ⟨14,a,b,t,q⟩:=by
 have h:numberedB p f ⟨14,a,b,t,q⟩=(decide (0≤a)&&decide (a<(p.globals.length:Int))):=by unfold numberedB;rw[ho];rfl
 rw[h]
 show((decide (0≤a)&&decide (a<(p.globals.length:Int)))&&(b==0||(false&&_)))=((false||b==0)&&(decide (0≤a)&&decide (a<(p.globals.length:Int))))
 simp[Bool.and_comm]
theorem num_15:(numberedB p f ⟨15,a,b,t,q⟩&&bcond ⟨15,a,b,t,q⟩)=numbersR p f o ⟨15,a,b,t,q⟩:=by
 have h:numberedB p f ⟨15,a,b,t,q⟩=(decide (0≤a)&&decide (a<(o.taken.length:Int))):=by unfold numberedB;rw[ho];rfl
 rw[h]
 show((decide (0≤a)&&decide (a<(o.taken.length:Int)))&&(b==0||(false&&_)))=((false||b==0)&&(decide (0≤a)&&decide (a<(o.taken.length:Int))))
 simp[Bool.and_comm]
theorem num_16:(numberedB p f ⟨16,a,b,t,q⟩&&bcond ⟨16,a,b,t,q⟩)=numbersR p f o ⟨16,a,b,t,q⟩:=by
 have h:numberedB p f ⟨16,a,b,t,q⟩=(a==0):=by unfold numberedB;rw[ho];rfl
 rw[h]
 show((a==0)&&(b==0||(false&&_)))=((false||b==0)&&(a==0))
 simp[Bool.and_comm]
theorem num_17:(numberedB p f ⟨17,a,b,t,q⟩&&bcond ⟨17,a,b,t,q⟩)=numbersR p f o ⟨17,a,b,t,q⟩:=by
 have h:numberedB p f ⟨17,a,b,t,q⟩=(a==0):=by unfold numberedB;rw[ho];rfl
 rw[h]
 show((a==0)&&(b==0||(false&&_)))=((false||b==0)&&(a==0))
 simp[Bool.and_comm]
theorem num_18:(numberedB p f ⟨18,a,b,t,q⟩&&bcond ⟨18,a,b,t,q⟩)=numbersR p f o ⟨18,a,b,t,q⟩:=by
 have h:numberedB p f ⟨18,a,b,t,q⟩=(a==0):=by unfold numberedB;rw[ho];rfl
 rw[h]
 show((a==0)&&(b==0||(false&&_)))=((false||b==0)&&(a==0))
 simp[Bool.and_comm]
theorem num_19:(numberedB p f ⟨19,a,b,t,q⟩&&bcond ⟨19,a,b,t,q⟩)=numbersR p f o ⟨19,a,b,t,q⟩:=by
 have h:numberedB p f ⟨19,a,b,t,q⟩=(a==0):=by unfold numberedB;rw[ho];rfl
 rw[h]
 show((a==0)&&(b==0||(false&&_)))=((false||b==0)&&(a==0))
 simp[Bool.and_comm]
theorem num_20:(numberedB p f ⟨20,a,b,t,q⟩&&bcond ⟨20,a,b,t,q⟩)=numbersR p f o ⟨20,a,b,t,q⟩:=by
 have h:numberedB p f ⟨20,a,b,t,q⟩=(a==0):=by unfold numberedB;rw[ho];rfl
 rw[h]
 show((a==0)&&(b==0||(false&&_)))=((false||b==0)&&(a==0))
 simp[Bool.and_comm]
theorem num_21:(numberedB p f ⟨21,a,b,t,q⟩&&bcond ⟨21,a,b,t,q⟩)=numbersR p f o ⟨21,a,b,t,q⟩:=by
 have h:numberedB p f ⟨21,a,b,t,q⟩=(decide (1≤a)&&decide (a≤7)):=by unfold numberedB;rw[ho];rfl
 rw[h]
 show((decide (1≤a)&&decide (a≤7))&&(b==0||(false&&_)))=((false||b==0)&&(decide (1≤a)&&decide (a≤7)))
 simp[Bool.and_comm]
theorem num_22:(numberedB p f ⟨22,a,b,t,q⟩&&bcond ⟨22,a,b,t,q⟩)=numbersR p f o ⟨22,a,b,t,q⟩:=by
 have h:numberedB p f ⟨22,a,b,t,q⟩=(decide (0≤a)&&decide (a<2)):=by unfold numberedB;rw[ho];rfl
 rw[h]
 show((decide (0≤a)&&decide (a<2))&&(b==0||(false&&_)))=((false||b==0)&&(a==0||a==1))
 rw[Bool.eq_iff_iff]
 simp
 omega
theorem num_23:(numberedB p f ⟨23,a,b,t,q⟩&&bcond ⟨23,a,b,t,q⟩)=numbersR p f o ⟨23,a,b,t,q⟩:=by
 have h:numberedB p f ⟨23,a,b,t,q⟩=(decide (0≤a)&&decide (a<2)):=by unfold numberedB;rw[ho];rfl
 rw[h]
 show((decide (0≤a)&&decide (a<2))&&(b==0||(false&&_)))=((false||b==0)&&(a==0||a==1))
 rw[Bool.eq_iff_iff]
 simp
 omega
theorem num_24:(numberedB p f ⟨24,a,b,t,q⟩&&bcond ⟨24,a,b,t,q⟩)=numbersR p f o ⟨24,a,b,t,q⟩:=by
 have h:numberedB p f ⟨24,a,b,t,q⟩=(a==0):=by unfold numberedB;rw[ho];rfl
 rw[h]
 show((a==0)&&(b==0||(false&&_)))=((false||b==0)&&(a==0))
 simp[Bool.and_comm]
theorem num_25:(numberedB p f ⟨25,a,b,t,q⟩&&bcond ⟨25,a,b,t,q⟩)=numbersR p f o ⟨25,a,b,t,q⟩:=by
 have h:numberedB p f ⟨25,a,b,t,q⟩=(a==0):=by unfold numberedB;rw[ho];rfl
 rw[h]
 show((a==0)&&(b==0||(false&&_)))=((false||b==0)&&(a==0))
 simp[Bool.and_comm]
theorem num_26:(numberedB p f ⟨26,a,b,t,q⟩&&bcond ⟨26,a,b,t,q⟩)=numbersR p f o ⟨26,a,b,t,q⟩:=by
 have h:numberedB p f ⟨26,a,b,t,q⟩=(a==2||a==3):=by unfold numberedB;rw[ho];rfl
 rw[h]
 show((a==2||a==3)&&(b==0||(true&&(b==1||(a==2&&(b==2||b==3))))))=(true&&((a==2||a==3)&&(betw b 4&&(a==2||decide (b<2)))))
 rw[Bool.eq_iff_iff]
 simp[betw]
 omega
theorem num_27:(numberedB p f ⟨27,a,b,t,q⟩&&bcond ⟨27,a,b,t,q⟩)=numbersR p f o ⟨27,a,b,t,q⟩:=by
 have h:numberedB p f ⟨27,a,b,t,q⟩=(decide (0≤a)&&decide (a<20001)):=by unfold numberedB;rw[ho];rfl
 rw[h]
 show((decide (0≤a)&&decide (a<20001))&&(b==0||(false&&_)))=((false||b==0)&&(decide (0≤a)&&decide (a<20001)))
 simp[Bool.and_comm]
theorem num_28:(numberedB p f ⟨28,a,b,t,q⟩&&bcond ⟨28,a,b,t,q⟩)=numbersR p f o ⟨28,a,b,t,q⟩:=by
 have h:numberedB p f ⟨28,a,b,t,q⟩=(decide (0≤a)&&decide (a<20001)):=by unfold numberedB;rw[ho];rfl
 rw[h]
 show((decide (0≤a)&&decide (a<20001))&&(b==0||(false&&_)))=((false||b==0)&&(decide (0≤a)&&decide (a<20001)))
 simp[Bool.and_comm]
theorem num_29:(numberedB p f ⟨29,a,b,t,q⟩&&bcond ⟨29,a,b,t,q⟩)=numbersR p f o ⟨29,a,b,t,q⟩:=by
 have h:numberedB p f ⟨29,a,b,t,q⟩=(decide (0≤a)&&decide (a<31)):=by unfold numberedB;rw[ho];rfl
 rw[h]
 show((decide (0≤a)&&decide (a<31))&&(b==0||(false&&_)))=((false||b==0)&&(decide (0≤a)&&decide (a<31)))
 simp[Bool.and_comm]
theorem num_30:(numberedB p f ⟨30,a,b,t,q⟩&&bcond ⟨30,a,b,t,q⟩)=numbersR p f o ⟨30,a,b,t,q⟩:=by
 have h:numberedB p f ⟨30,a,b,t,q⟩=(a==0):=by unfold numberedB;rw[ho];rfl
 rw[h]
 show((a==0)&&(b==0||(false&&_)))=((false||b==0)&&(a==0))
 simp[Bool.and_comm]
theorem num_31:(numberedB p f ⟨31,a,b,t,q⟩&&bcond ⟨31,a,b,t,q⟩)=numbersR p f o ⟨31,a,b,t,q⟩:=by
 have h:numberedB p f ⟨31,a,b,t,q⟩=(decide (0<a)&&(match p.funcs[a.toNat]? with|none=>false|some g=>g.around== -1||g.around==f)):=by unfold numberedB;rw[ho];rfl
 rw[h]
 show((decide (0<a)&&_)&&(b==0||(false&&_)))=((false||b==0)&&(betw a p.funcs.length&&(decide (0<a)&&_)))
 cases hg:p.funcs[a.toNat]? with
 |none=>simp
 |some g=>
  have hl:=(List.getElem?_eq_some_iff.1 hg).1
  by_cases h0:0<a
  ·have h1:betw a p.funcs.length=true:=by simp[betw];omega
   rw[h1]
   simp[Bool.and_comm]
  ·simp[h0]
theorem num_32:(numberedB p f ⟨32,a,b,t,q⟩&&bcond ⟨32,a,b,t,q⟩)=numbersR p f o ⟨32,a,b,t,q⟩:=by
 have h:numberedB p f ⟨32,a,b,t,q⟩=(decide (0≤a)&&decide (a<2)):=by unfold numberedB;rw[ho];rfl
 rw[h]
 show((decide (0≤a)&&decide (a<2))&&(b==0||(false&&_)))=((false||b==0)&&(a==0||a==1))
 rw[Bool.eq_iff_iff]
 simp
 omega
theorem num_33:(numberedB p f ⟨33,a,b,t,q⟩&&bcond ⟨33,a,b,t,q⟩)=numbersR p f o ⟨33,a,b,t,q⟩:=by
 have h:numberedB p f ⟨33,a,b,t,q⟩=(decide (0≤a)&&decide (a<3)):=by unfold numberedB;rw[ho];rfl
 rw[h]
 show((decide (0≤a)&&decide (a<3))&&(b==0||(false&&_)))=((false||b==0)&&(decide (0≤a)&&decide (a<3)))
 simp[Bool.and_comm]
theorem num_34:(numberedB p f ⟨34,a,b,t,q⟩&&bcond ⟨34,a,b,t,q⟩)=numbersR p f o ⟨34,a,b,t,q⟩:=by
 have h:numberedB p f ⟨34,a,b,t,q⟩=(decide (0≤a)&&decide (a<(o.code.length:Int))):=by unfold numberedB;rw[ho];rfl
 rw[h]
 show((decide (0≤a)&&decide (a<(o.code.length:Int)))&&(b==0||(false&&_)))=((false||b==0)&&(decide (0≤a)&&decide (a<(o.code.length:Int))))
 simp[Bool.and_comm]
theorem num_35:(numberedB p f ⟨35,a,b,t,q⟩&&bcond ⟨35,a,b,t,q⟩)=numbersR p f o ⟨35,a,b,t,q⟩:=by
 have h:numberedB p f ⟨35,a,b,t,q⟩=(decide (0≤a)&&decide (a<(o.code.length:Int))):=by unfold numberedB;rw[ho];rfl
 rw[h]
 show((decide (0≤a)&&decide (a<(o.code.length:Int)))&&(b==0||(false&&_)))=((false||b==0)&&(decide (0≤a)&&decide (a<(o.code.length:Int))))
 simp[Bool.and_comm]
theorem num_36:(numberedB p f ⟨36,a,b,t,q⟩&&bcond ⟨36,a,b,t,q⟩)=numbersR p f o ⟨36,a,b,t,q⟩:=by
 have h:numberedB p f ⟨36,a,b,t,q⟩=(decide (0≤a)&&decide (a<(o.code.length:Int))):=by unfold numberedB;rw[ho];rfl
 rw[h]
 show((decide (0≤a)&&decide (a<(o.code.length:Int)))&&(b==0||(false&&_)))=((false||b==0)&&(decide (0≤a)&&decide (a<(o.code.length:Int))))
 simp[Bool.and_comm]
theorem num_37:(numberedB p f ⟨37,a,b,t,q⟩&&bcond ⟨37,a,b,t,q⟩)=numbersR p f o ⟨37,a,b,t,q⟩:=by
 have h:numberedB p f ⟨37,a,b,t,q⟩=(decide (0≤a)&&decide (a<(o.code.length:Int))):=by unfold numberedB;rw[ho];rfl
 rw[h]
 show((decide (0≤a)&&decide (a<(o.code.length:Int)))&&(b==0||(false&&_)))=((false||b==0)&&(decide (0≤a)&&decide (a<(o.code.length:Int))))
 simp[Bool.and_comm]
theorem num_38:(numberedB p f ⟨38,a,b,t,q⟩&&bcond ⟨38,a,b,t,q⟩)=numbersR p f o ⟨38,a,b,t,q⟩:=by
 have h:numberedB p f ⟨38,a,b,t,q⟩=(decide (0≤a)&&decide (a<o.slots)):=by unfold numberedB;rw[ho];rfl
 rw[h]
 show((decide (0≤a)&&decide (a<o.slots))&&(b==0||(false&&_)))=((false||b==0)&&(decide (0≤a)&&decide (a<o.slots)))
 simp[Bool.and_comm]
theorem num_39:(numberedB p f ⟨39,a,b,t,q⟩&&bcond ⟨39,a,b,t,q⟩)=numbersR p f o ⟨39,a,b,t,q⟩:=by
 have h:numberedB p f ⟨39,a,b,t,q⟩=(decide (0≤a)&&decide (a<(p.globals.length:Int))):=by unfold numberedB;rw[ho];rfl
 rw[h]
 show((decide (0≤a)&&decide (a<(p.globals.length:Int)))&&(b==0||(false&&_)))=((false||b==0)&&(decide (0≤a)&&decide (a<(p.globals.length:Int))))
 simp[Bool.and_comm]
theorem num_40:(numberedB p f ⟨40,a,b,t,q⟩&&bcond ⟨40,a,b,t,q⟩)=numbersR p f o ⟨40,a,b,t,q⟩:=by
 have h:numberedB p f ⟨40,a,b,t,q⟩=(decide (0≤a)&&decide (a<(o.taken.length:Int))):=by unfold numberedB;rw[ho];rfl
 rw[h]
 show((decide (0≤a)&&decide (a<(o.taken.length:Int)))&&(b==0||(false&&_)))=((false||b==0)&&(decide (0≤a)&&decide (a<(o.taken.length:Int))))
 simp[Bool.and_comm]
theorem num_41:(numberedB p f ⟨41,a,b,t,q⟩&&bcond ⟨41,a,b,t,q⟩)=numbersR p f o ⟨41,a,b,t,q⟩:=by
 have h:numberedB p f ⟨41,a,b,t,q⟩=(a==0):=by unfold numberedB;rw[ho];rfl
 rw[h]
 show((a==0)&&(b==0||(false&&_)))=((false||b==0)&&(a==0))
 simp[Bool.and_comm]
theorem num_42:(numberedB p f ⟨42,a,b,t,q⟩&&bcond ⟨42,a,b,t,q⟩)=numbersR p f o ⟨42,a,b,t,q⟩:=by
 have h:numberedB p f ⟨42,a,b,t,q⟩=(a==0):=by unfold numberedB;rw[ho];rfl
 rw[h]
 show((a==0)&&(b==0||(false&&_)))=((false||b==0)&&(a==0))
 simp[Bool.and_comm]
theorem num_43:(numberedB p f ⟨43,a,b,t,q⟩&&bcond ⟨43,a,b,t,q⟩)=numbersR p f o ⟨43,a,b,t,q⟩:=by
 have h:numberedB p f ⟨43,a,b,t,q⟩=(a==0):=by unfold numberedB;rw[ho];rfl
 rw[h]
 show((a==0)&&(b==0||(false&&_)))=((false||b==0)&&(a==0))
 simp[Bool.and_comm]
theorem num_44:(numberedB p f ⟨44,a,b,t,q⟩&&bcond ⟨44,a,b,t,q⟩)=numbersR p f o ⟨44,a,b,t,q⟩:=by
 have h:numberedB p f ⟨44,a,b,t,q⟩=(a==0):=by unfold numberedB;rw[ho];rfl
 rw[h]
 show((a==0)&&(b==0||(false&&_)))=((false||b==0)&&(a==0))
 simp[Bool.and_comm]
theorem num_45:(numberedB p f ⟨45,a,b,t,q⟩&&bcond ⟨45,a,b,t,q⟩)=numbersR p f o ⟨45,a,b,t,q⟩:=by
 have h:numberedB p f ⟨45,a,b,t,q⟩=(a==0):=by unfold numberedB;rw[ho];rfl
 rw[h]
 show((a==0)&&(b==0||(false&&_)))=((false||b==0)&&(a==0))
 simp[Bool.and_comm]
theorem num_46:(numberedB p f ⟨46,a,b,t,q⟩&&bcond ⟨46,a,b,t,q⟩)=numbersR p f o ⟨46,a,b,t,q⟩:=by
 have h:numberedB p f ⟨46,a,b,t,q⟩=(decide (0≤a)&&decide (a<20001)):=by unfold numberedB;rw[ho];rfl
 rw[h]
 show((decide (0≤a)&&decide (a<20001))&&(b==0||(false&&_)))=((false||b==0)&&(decide (0≤a)&&decide (a<20001)))
 simp[Bool.and_comm]
theorem num_47:(numberedB p f ⟨47,a,b,t,q⟩&&bcond ⟨47,a,b,t,q⟩)=numbersR p f o ⟨47,a,b,t,q⟩:=by
 have h:numberedB p f ⟨47,a,b,t,q⟩=(decide (0≤a)&&decide (a<20001)):=by unfold numberedB;rw[ho];rfl
 rw[h]
 show((decide (0≤a)&&decide (a<20001))&&(b==0||(false&&_)))=((false||b==0)&&(decide (0≤a)&&decide (a<20001)))
 simp[Bool.and_comm]
theorem num_48:(numberedB p f ⟨48,a,b,t,q⟩&&bcond ⟨48,a,b,t,q⟩)=numbersR p f o ⟨48,a,b,t,q⟩:=by
 have h:numberedB p f ⟨48,a,b,t,q⟩=(decide (0≤a)&&decide (a<20001)):=by unfold numberedB;rw[ho];rfl
 rw[h]
 show((decide (0≤a)&&decide (a<20001))&&(b==0||(false&&_)))=((false||b==0)&&(decide (0≤a)&&decide (a<20001)))
 simp[Bool.and_comm]
theorem num_49:(numberedB p f ⟨49,a,b,t,q⟩&&bcond ⟨49,a,b,t,q⟩)=numbersR p f o ⟨49,a,b,t,q⟩:=by
 have h:numberedB p f ⟨49,a,b,t,q⟩=(decide (0≤a)&&decide (a<20001)):=by unfold numberedB;rw[ho];rfl
 rw[h]
 show((decide (0≤a)&&decide (a<20001))&&(b==0||(false&&_)))=((false||b==0)&&(decide (0≤a)&&decide (a<20001)))
 simp[Bool.and_comm]
theorem num_50:(numberedB p f ⟨50,a,b,t,q⟩&&bcond ⟨50,a,b,t,q⟩)=numbersR p f o ⟨50,a,b,t,q⟩:=by
 have h:numberedB p f ⟨50,a,b,t,q⟩=(a==0):=by unfold numberedB;rw[ho];rfl
 rw[h]
 show((a==0)&&(b==0||(false&&_)))=((false||b==0)&&(a==0))
 simp[Bool.and_comm]
theorem num_51:(numberedB p f ⟨51,a,b,t,q⟩&&bcond ⟨51,a,b,t,q⟩)=numbersR p f o ⟨51,a,b,t,q⟩:=by
 have h:numberedB p f ⟨51,a,b,t,q⟩=(a==0):=by unfold numberedB;rw[ho];rfl
 rw[h]
 show((a==0)&&(b==0||(false&&_)))=((false||b==0)&&(a==0))
 simp[Bool.and_comm]
theorem num_52:(numberedB p f ⟨52,a,b,t,q⟩&&bcond ⟨52,a,b,t,q⟩)=numbersR p f o ⟨52,a,b,t,q⟩:=by
 have h:numberedB p f ⟨52,a,b,t,q⟩=(decide (0≤a)&&decide (a<(o.code.length:Int))):=by unfold numberedB;rw[ho];rfl
 rw[h]
 show((decide (0≤a)&&decide (a<(o.code.length:Int)))&&(b==0||(false&&_)))=((false||b==0)&&(decide (0≤a)&&decide (a<(o.code.length:Int))))
 simp[Bool.and_comm]
theorem num_53:(numberedB p f ⟨53,a,b,t,q⟩&&bcond ⟨53,a,b,t,q⟩)=numbersR p f o ⟨53,a,b,t,q⟩:=by
 have h:numberedB p f ⟨53,a,b,t,q⟩=(decide (0≤a)&&decide (a<20001)):=by unfold numberedB;rw[ho];rfl
 rw[h]
 show((decide (0≤a)&&decide (a<20001))&&(b==0||(false&&_)))=((false||b==0)&&(decide (0≤a)&&decide (a<20001)))
 simp[Bool.and_comm]
end
theorem op_53 {n:Int} (h:1≤n∧n≤53):∃k:Fin 53,n=(k.val:Int)+1:=⟨⟨(n-1).toNat,by omega⟩,by simp only;omega⟩
theorem says_all (x:Ci) (h:1≤x.op∧x.op≤53) (ha:numbersA x.op x.a=true):saysB x=textR x:=by
 obtain⟨k,hk⟩:=op_53 h
 obtain⟨op,a,b,t,p⟩:=x
 simp only at hk ha
 subst hk
 match k with
 |⟨0,_⟩=>exact says_1 a b p t
 |⟨1,_⟩=>exact says_2 a b p t
 |⟨2,_⟩=>exact says_3 a b p t
 |⟨3,_⟩=>exact says_4 a b p t
 |⟨4,_⟩=>exact says_5 a b p t
 |⟨5,_⟩=>exact says_6 a b p t
 |⟨6,_⟩=>exact says_7 a b p t
 |⟨7,_⟩=>exact says_8 a b p t
 |⟨8,_⟩=>exact says_9 a b p t
 |⟨9,_⟩=>exact says_10 a b p t
 |⟨10,_⟩=>exact says_11 a b p t
 |⟨11,_⟩=>exact says_12 a b p t
 |⟨12,_⟩=>exact says_13 a b p t
 |⟨13,_⟩=>exact says_14 a b p t
 |⟨14,_⟩=>exact says_15 a b p t
 |⟨15,_⟩=>exact says_16 a b p t
 |⟨16,_⟩=>exact says_17 a b p t
 |⟨17,_⟩=>exact says_18 a b p t
 |⟨18,_⟩=>exact says_19 a b p t
 |⟨19,_⟩=>exact says_20 a b p t
 |⟨20,_⟩=>exact says_21 a b p t
 |⟨21,_⟩=>exact says_22 a b p t
 |⟨22,_⟩=>exact says_23 a b p t
 |⟨23,_⟩=>exact says_24 a b p t
 |⟨24,_⟩=>exact says_25 a b p t
 |⟨25,_⟩=>exact says_26 a b p t
 |⟨26,_⟩=>exact says_27 a b p t
 |⟨27,_⟩=>exact says_28 a b p t
 |⟨28,_⟩=>exact says_29 a b p t ha
 |⟨29,_⟩=>exact says_30 a b p t
 |⟨30,_⟩=>exact says_31 a b p t
 |⟨31,_⟩=>exact says_32 a b p t ha
 |⟨32,_⟩=>exact says_33 a b p t ha
 |⟨33,_⟩=>exact says_34 a b p t
 |⟨34,_⟩=>exact says_35 a b p t
 |⟨35,_⟩=>exact says_36 a b p t
 |⟨36,_⟩=>exact says_37 a b p t
 |⟨37,_⟩=>exact says_38 a b p t
 |⟨38,_⟩=>exact says_39 a b p t
 |⟨39,_⟩=>exact says_40 a b p t
 |⟨40,_⟩=>exact says_41 a b p t
 |⟨41,_⟩=>exact says_42 a b p t
 |⟨42,_⟩=>exact says_43 a b p t
 |⟨43,_⟩=>exact says_44 a b p t
 |⟨44,_⟩=>exact says_45 a b p t
 |⟨45,_⟩=>exact says_46 a b p t
 |⟨46,_⟩=>exact says_47 a b p t
 |⟨47,_⟩=>exact says_48 a b p t
 |⟨48,_⟩=>exact says_49 a b p t
 |⟨49,_⟩=>exact says_50 a b p t
 |⟨50,_⟩=>exact says_51 a b p t
 |⟨51,_⟩=>exact says_52 a b p t
 |⟨52,_⟩=>exact says_53 a b p t
theorem num_all {p:Cp} {f:Nat} {o:Cf} (ho:p.funcs[f]? =some o) (x:Ci) (h:1≤x.op∧x.op≤53):(numberedB p f x&&bcond x)=numbersR p f o x:=by
 obtain⟨k,hk⟩:=op_53 h
 obtain⟨op,a,b,t,q⟩:=x
 simp only at hk
 subst hk
 match k with
 |⟨0,_⟩=>exact num_1 ho a b q t
 |⟨1,_⟩=>exact num_2 ho a b q t
 |⟨2,_⟩=>exact num_3 ho a b q t
 |⟨3,_⟩=>exact num_4 ho a b q t
 |⟨4,_⟩=>exact num_5 ho a b q t
 |⟨5,_⟩=>exact num_6 ho a b q t
 |⟨6,_⟩=>exact num_7 ho a b q t
 |⟨7,_⟩=>exact num_8 ho a b q t
 |⟨8,_⟩=>exact num_9 ho a b q t
 |⟨9,_⟩=>exact num_10 ho a b q t
 |⟨10,_⟩=>exact num_11 ho a b q t
 |⟨11,_⟩=>exact num_12 ho a b q t
 |⟨12,_⟩=>exact num_13 ho a b q t
 |⟨13,_⟩=>exact num_14 ho a b q t
 |⟨14,_⟩=>exact num_15 ho a b q t
 |⟨15,_⟩=>exact num_16 ho a b q t
 |⟨16,_⟩=>exact num_17 ho a b q t
 |⟨17,_⟩=>exact num_18 ho a b q t
 |⟨18,_⟩=>exact num_19 ho a b q t
 |⟨19,_⟩=>exact num_20 ho a b q t
 |⟨20,_⟩=>exact num_21 ho a b q t
 |⟨21,_⟩=>exact num_22 ho a b q t
 |⟨22,_⟩=>exact num_23 ho a b q t
 |⟨23,_⟩=>exact num_24 ho a b q t
 |⟨24,_⟩=>exact num_25 ho a b q t
 |⟨25,_⟩=>exact num_26 ho a b q t
 |⟨26,_⟩=>exact num_27 ho a b q t
 |⟨27,_⟩=>exact num_28 ho a b q t
 |⟨28,_⟩=>exact num_29 ho a b q t
 |⟨29,_⟩=>exact num_30 ho a b q t
 |⟨30,_⟩=>exact num_31 ho a b q t
 |⟨31,_⟩=>exact num_32 ho a b q t
 |⟨32,_⟩=>exact num_33 ho a b q t
 |⟨33,_⟩=>exact num_34 ho a b q t
 |⟨34,_⟩=>exact num_35 ho a b q t
 |⟨35,_⟩=>exact num_36 ho a b q t
 |⟨36,_⟩=>exact num_37 ho a b q t
 |⟨37,_⟩=>exact num_38 ho a b q t
 |⟨38,_⟩=>exact num_39 ho a b q t
 |⟨39,_⟩=>exact num_40 ho a b q t
 |⟨40,_⟩=>exact num_41 ho a b q t
 |⟨41,_⟩=>exact num_42 ho a b q t
 |⟨42,_⟩=>exact num_43 ho a b q t
 |⟨43,_⟩=>exact num_44 ho a b q t
 |⟨44,_⟩=>exact num_45 ho a b q t
 |⟨45,_⟩=>exact num_46 ho a b q t
 |⟨46,_⟩=>exact num_47 ho a b q t
 |⟨47,_⟩=>exact num_48 ho a b q t
 |⟨48,_⟩=>exact num_49 ho a b q t
 |⟨49,_⟩=>exact num_50 ho a b q t
 |⟨50,_⟩=>exact num_51 ho a b q t
 |⟨51,_⟩=>exact num_52 ho a b q t
 |⟨52,_⟩=>exact num_53 ho a b q t
theorem num_a {p:Cp} {f:Nat} {o:Cf} (x:Ci) (h:numbersR p f o x=true):numbersA x.op x.a=true:=by
 unfold numbersA
 split
 ·rename_i e
  unfold numbersR at h
  rw[e] at h
  simpa using (Bool.and_eq_true_iff.1 h).2
 ·split
  ·rename_i e
   unfold numbersR at h
   rw[e] at h
   simpa using (Bool.and_eq_true_iff.1 h).2
  ·split
   ·rename_i e
    unfold numbersR at h
    rw[e] at h
    simpa using (Bool.and_eq_true_iff.1 h).2
   ·rfl
end Go.Proofs.YtagnicbknbmccaaGreatDoor
