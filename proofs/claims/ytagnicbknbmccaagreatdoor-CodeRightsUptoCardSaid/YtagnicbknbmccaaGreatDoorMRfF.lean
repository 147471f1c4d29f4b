/- guiseref13's check of an instruction as a whole is the program's. guiseref1.letter, digit, Words, Word, Name; guiseref13.typeText, some, in, between, jumps, no: what each returns. guiseref1.Name; guiseref13.typeText, some, between, jumps, no: what each returns. guiseref13.typeText, some, no; guiseref6.IsNaN: what each returns. Stacks: taking off and laying down many of one thing. -/
import Derived.Test.YtagnicbknbmccaaGreatDoorRfE
import Derived.Test.YtagnicbknbmccaaGreatDoorSqC
set_option maxRecDepth 100000
set_option maxHeartbeats 4000000
namespace Go.Proofs.YtagnicbknbmccaaGreatDoor
def jumpsR (op:Int):Bool:=(decide (34≤op)&&decide (op≤37))||op==52
theorem jumps_53:∀k:Fin 53,goesB ((k.val:Int)+1)=jumpsR ((k.val:Int)+1):=of_decide_eq_true (by kernel_rfl)
theorem jumps_eq {op:Int} (h:1≤op∧op≤53):goesB op=jumpsR op:=by
 obtain⟨k,rfl⟩:=op_53 h
 exact jumps_53 k
theorem words_53:∀k:Fin 53,(formOf ((k.val:Int)+1)).word.isEmpty=false:=of_decide_eq_true (by kernel_rfl)
theorem word_in {op:Int}:(formOf op).word.isEmpty= !(decide (1≤op)&&decide (op≤53)):=by
 by_cases h:1≤op∧op≤53
 ·have e:(decide (1≤op)&&decide (op≤53))=true:=by simp[h.1,h.2]
  rw[e]
  obtain⟨k,rfl⟩:=op_53 h
  exact words_53 k
 ·have e:(decide (1≤op)&&decide (op≤53))=false:=by
   cases hb:(decide (1≤op)&&decide (op≤53)) with
   |false=>rfl
   |true=>exact absurd (by simpa using hb) h
  rw[e]
  unfold formOf
  rw[if_neg h]
  rfl
def fineR (p:Cp) (f:Nat) (o:Cf) (k:Nat) (x:Ci):Bool:=
 (decide (1≤x.op)&&decide (x.op≤53)&&decide (0≤x.at_)&&decide (x.at_≤60000))&&(numbersR p f o x&&(textR x&&
  (!(jumpsR x.op&&decide (x.a≤(k:Int))&& !(match o.code[x.a.toNat]? with
   |none=>false
   |some y=>y.op==1||y.op==2))&&(decide (k+1<o.code.length)||(x.op==50||x.op==34)))))
theorem fineR_eq {p:Cp} {f:Nat} {o:Cf} (ho:p.funcs[f]? =some o) (k:Nat) (x:Ci):fineB p f o.code k x=fineR p f o k x:=by
 unfold fineB fineR
 rw[word_in]
 by_cases h:1≤x.op∧x.op≤53
 ·have hn:=num_all ho x h
  rw[jumps_eq h]
  cases hnr:numbersR p f o x with
  |false=>
   rw[hnr] at hn
   cases hb:numberedB p f x with
   |false=>simp
   |true=>
    rw[hb,Bool.true_and] at hn
    unfold bcond at hn
    rw[hn]
    simp
  |true=>
   have hs:=says_all x h (num_a x hnr)
   rw[hnr,Bool.and_eq_true] at hn
   have hb:=hn.2
   unfold bcond at hb
   rw[hn.1,hb,hs]
   have e1:decide (1≤x.op)=true:=decide_eq_true h.1
   have e2:decide (x.op≤53)=true:=decide_eq_true h.2
   rw[e1,e2]
   have e3:decide ((k:Int)<x.a)= !decide (x.a≤(k:Int)):=by
    by_cases h3:x.a≤(k:Int)
    ·rw[decide_eq_true h3,decide_eq_false (by omega)];rfl
    ·rw[decide_eq_false h3,decide_eq_true (by omega)];rfl
   rw[e3]
   cases o.code[x.a.toNat]? with
   |none=>
    dsimp only
    cases jumpsR x.op<;>cases decide (x.a≤(k:Int))<;>cases textR x<;>cases decide (0≤x.at_)<;>cases decide (x.at_≤60000)<;>rfl
   |some y=>
    dsimp only
    generalize (y.op==1||y.op==2)=M
    cases jumpsR x.op<;>cases decide (x.a≤(k:Int))<;>cases M<;>cases textR x<;>cases decide (0≤x.at_)<;>cases decide (x.at_≤60000)<;>rfl
 ·have e:(decide (1≤x.op)&&decide (x.op≤53))=false:=by
   cases hb:(decide (1≤x.op)&&decide (x.op≤53)) with
   |false=>rfl
   |true=>exact absurd (by simpa using hb) h
  rw[e]
  rfl
open Go.RowKit
theorem r1_letter (c:Int) (w:World):Calls Tryz.prog 90 #[.int .u8 c] w fun e w'=>e= .returned (.bool (letterB c))∧w'=w:=by
 have HF:Hid (letterB c=((decide (97≤c)&&decide (c≤122))||(decide (65≤c)&&decide (c≤90))||c==95)):=rfl
 go_enter Tryz.func90,Tryz.ntmps90
 go_wp2
 all_goals
  go_ret
  exact⟨ret_bool (by rw[HF.out];try (first|(simp[*];done)|(simp[*];omega)|(rw[Bool.eq_iff_iff];simp;omega)|(rw[Bool.eq_iff_iff];simp[*];omega))),rfl⟩
theorem r1_digit (c:Int) (w:World):Calls Tryz.prog 91 #[.int .u8 c] w fun e w'=>e= .returned (.bool (digitB c))∧w'=w:=by
 have HF:Hid (digitB c=(decide (48≤c)&&decide (c≤57))):=rfl
 go_enter Tryz.func91,Tryz.ntmps91
 go_wp2
 all_goals
  go_ret
  exact⟨ret_bool (by rw[HF.out];try (first|(simp[*];done)|(simp[*];omega)|(rw[Bool.eq_iff_iff];simp;omega)|(rw[Bool.eq_iff_iff];simp[*];omega))),rfl⟩
theorem r1_Words (w:World):Calls Tryz.prog 132 #[] w fun e w'=>e= .returned (.slice (some ⟨w.heap.size,0,none⟩) 22 22)∧Below w.heap.size w w'∧∀(j:Nat) (x:ByteArray),wordsA[j]? =some x→w'.cell? ⟨w.heap.size,j,none⟩=some (.string x):=by
 go_enter Tryz.func132,Tryz.ntmps132
 go_wp2_with fail
 go_ret
 refine⟨rfl,(Below.refl _ _).alloc (Nat.le_refl _) _,fun j x hj=> ?_⟩
 rw[cell_of_row _ w.heap.size j _ _ _ (heap_alloc_new _ _)]
 have hv:wordsV=(wordsA.map Value.string).toArray:=rfl
 show wordsV[j]? =_
 rw[hv]
 simp[hj]
def hasS (ts:List ByteArray) (s:ByteArray):Bool:=ts.any fun x=>x.toList==s.toList
theorem hasS_go {ts:List ByteArray} {s x:ByteArray} {j:Nat} (hx:ts[j]? =some x) (h:(x.toList==s.toList)=false):hasS (ts.drop j) s=hasS (ts.drop (j+1)) s:=by
 unfold hasS
 rw[drop_cons hx,List.any_cons,h,Bool.false_or]
theorem hasS_hit {ts:List ByteArray} {s x:ByteArray} {j:Nat} (hx:ts[j]? =some x) (h:(x.toList==s.toList)=true):hasS (ts.drop j) s=true:=by
 unfold hasS
 rw[drop_cons hx,List.any_cons,h,Bool.true_or]
theorem hasS_word (s:ByteArray):hasS wordsA s=wordB s:=by
 unfold hasS wordB
 congr 1
 funext x
 rw[Bool.eq_iff_iff]
 simp only[beq_iff_eq]
 exact⟨Eq.symm,Eq.symm⟩
theorem r13_in {w:World} {b n:Nat} {ts:List ByteArray} (hc:∀(j:Nat) (x:ByteArray),ts[j]? =some x→w.cell? ⟨b,j,none⟩=some (.string x)) (hn:ts.length=n) (hn2:n≤1000000) (s:ByteArray) (c:Nat):
  Calls Tryz.prog 137 #[.string s,.slice (some ⟨b,0,none⟩) n c] w fun e w'=>e= .returned (.bool (hasS ts s))∧w'=w:=by
 have HC:=Lib.hid hc
 have HL:=Lib.hid hn
 clear hc hn
 go_enter Tryz.func137,Tryz.ntmps137
 go_wp2_with fail
 go_loopw [5] (fun i wr=>∃j:Nat,j≤n∧i= .int .i64 j∧wr=w∧Hid (hasS (ts.drop j) s=hasS ts s)) (fun i _=>n-(intOf i).toNat)
 case atStart=>exact⟨0,by omega,rfl,rfl,rfl⟩
 case round=>
  obtain⟨j,hj,rfl,rfl,HI⟩:=hrel
  by_cases hlt:j<n
  ·obtain⟨x,hx⟩:∃x,ts[j]? =some x:=⟨_,List.getElem?_eq_getElem (by rw[HL.out];exact hlt)⟩
   have hc:=HC.out j x hx
   have HX:=Lib.hid hx
   clear hx
   cases he:x.toList==s.toList
   ·have HE:=Lib.hid he
    go_wp2_with fail
    go_roundw
    case rel=>exact⟨j+1,by omega,by simp,trivial,Lib.hid ((hasS_go HX.out HE.out).symm.trans HI.out)⟩
    case measure=>simp[intOf];omega
   ·have HE:=Lib.hid he
    go_wp2_with fail
    go_ret
    exact⟨ret_bool ((hasS_hit HX.out HE.out).symm.trans HI.out),rfl⟩
  ·obtain rfl:j=n:=by omega
   go_wp2_with fail
   go_ret
   refine⟨ret_bool ?_,rfl⟩
   rw[←HI.out,List.drop_of_length_le (by rw[HL.out];exact Nat.le_refl _)]
   rfl
theorem r1_Word (s:ByteArray) (w:World):Calls Tryz.prog 92 #[.string s] w fun e w'=>e= .returned (.bool (wordB s))∧Below w.heap.size w w':=by
 rw[←hasS_word]
 have HL:Hid (wordsA.length=22):=Lib.hid (by decide)
 go_enter Tryz.func92,Tryz.ntmps92
 go_upto_region 2 with(go_at_call 132;refine(r1_Words _).mono ?_;rintro e w1 ⟨rfl,hb,hc⟩;have HC:=Lib.hid hc;have HB:=Lib.hid hb;clear hc hb)
 obtain⟨b,hb⟩:∃b,w.heap.size=b:=⟨_,rfl⟩
 simp only[hb] at HC HB⊢
 have HWB:=Lib.hid hb
 clear hb
 go_wp2_with fail
 go_loopw [4] (fun i wr=>∃j:Nat,j≤22∧i= .int .i64 j∧wr=w1∧Hid (hasS (wordsA.drop j) s=hasS wordsA s)) (fun i _=>22-(intOf i).toNat)
 case atStart=>exact⟨0,by omega,rfl,rfl,rfl⟩
 case round=>
  obtain⟨j,hj,rfl,rfl,HI⟩:=hrel
  by_cases hlt:j<22
  ·obtain⟨x,hx⟩:∃x,wordsA[j]? =some x:=⟨_,List.getElem?_eq_getElem (by rw[HL.out];exact hlt)⟩
   have hc:=HC.out j x hx
   have HX:=Lib.hid hx
   clear hx
   cases he:x.toList==s.toList
   ·have HE:=Lib.hid he
    go_wp2_with fail
    go_roundw
    case rel=>exact⟨j+1,by omega,by simp,trivial,Lib.hid ((hasS_go HX.out HE.out).symm.trans HI.out)⟩
    case measure=>simp[intOf];omega
   ·have HE:=Lib.hid he
    go_wp2_with fail
    go_ret
    exact⟨ret_bool ((hasS_hit HX.out HE.out).symm.trans HI.out),by rw[HWB.out];exact HB.out⟩
  ·obtain rfl:j=22:=by omega
   go_wp2_with fail
   go_ret
   refine⟨ret_bool ?_,by rw[HWB.out];exact HB.out⟩
   rw[←HI.out,List.drop_of_length_le (by rw[HL.out];exact Nat.le_refl _)]
   rfl
theorem getB (s:ByteArray) (j:Nat) (h:j<s.size):∃c:UInt8,s.data.toList.drop j=c::s.data.toList.drop (j+1)∧∀h',s[j]'h'=c:=⟨_,drop_byte s j h,fun _=>rfl⟩
theorem emptyB {s:ByteArray} {b:Bool} (h:decide (s.size=0)=b):s.toList.isEmpty=b:=by
 have hsz:s.data.toList.length=s.size:=by simp
 rw[data_toList,←h,←hsz]
 cases s.data.toList<;>simp
theorem r1_Name (s:ByteArray) (w:World) (hs:s.size≤140737488351232):Calls Tryz.prog 47 #[.string s] w fun e w'=>e= .returned (.bool (nameB s))∧Below w.heap.size w w':=by
 have HN:Hid (nameB s=(nameLoop s.data.toList true&&(!s.data.toList.isEmpty&&(decide (s.size≤40)&& !wordB s)))):=rfl
 have HW:Hid (Calls Tryz.prog 92 #[.string s] w fun e w'=>e= .returned (.bool (wordB s))∧Below w.heap.size w w'):=Lib.hid (r1_Word s w)
 by_cases h0:s.size=0
 ·have hemp:s.toList.isEmpty=true:=emptyB (decide_eq_true h0)
  have hn:Hid (nameB s=false):=Lib.hid (by rw[HN.out,show s.data.toList.isEmpty=true by rw[←data_toList];exact hemp];simp)
  clear HN HW
  go_enter Tryz.func47,Tryz.ntmps47
  go_wp2_with fail
  go_ret
  exact⟨ret_bool hn.out.symm,Below.refl _ _⟩
 have hemp:s.toList.isEmpty=false:=emptyB (decide_eq_false h0)
 have HEM:Hid (s.data.toList.isEmpty=false):=Lib.hid (by rw[←data_toList];exact hemp)
 by_cases h40:40<s.size
 ·have hn:Hid (nameB s=false):=Lib.hid (by rw[HN.out,decide_eq_false (show¬s.size≤40 by omega)];simp)
  clear HN HW
  go_enter Tryz.func47,Tryz.ntmps47
  go_wp2_with fail
  go_ret
  exact⟨ret_bool hn.out.symm,Below.refl _ _⟩
 have h40':s.size≤40:=by omega
 obtain⟨c,hc,hix⟩:=getB s 0 (by omega)
 have HC:=Lib.hid hc
 clear hc
 cases hl:letterB c.toNat with
 |false=>
  have HL:=Lib.hid hl
  have hn:Hid (nameB s=false):=Lib.hid (nameB_false (by rw[←List.drop_zero (l:=s.data.toList),HC.out];exact nameLoop_stop HL.out (.inl rfl)))
  clear HN HW hl
  go_enter Tryz.func47,Tryz.ntmps47
  go_wp2_with (go_at_call 90;refine(r1_letter _ _).mono ?_;rintro e w1 ⟨rfl,rfl⟩;rw[HL.out])
  go_ret
  exact⟨ret_bool hn.out.symm,Below.refl _ _⟩
 |true=>
  have HL:=Lib.hid hl
  have HI0:Hid (nameLoop (s.data.toList.drop 1) false=nameLoop s.data.toList true):=Lib.hid (by rw[←nameLoop_go (c:=c) (first:=true) (.inl HL.out),show c::s.data.toList.drop 1=s.data.toList.drop 0 from HC.out.symm,List.drop_zero])
  clear hl
  go_enter Tryz.func47,Tryz.ntmps47
  go_upto_region 6 with(go_at_call 90;refine(r1_letter _ _).mono ?_;rintro e w1 ⟨rfl,rfl⟩;rw[HL.out])
  clear hix
  go_wp2_with fail
  go_loopw [4] (fun i wr=>∃j:Nat,1≤j∧j≤s.size∧i= .int .i64 j∧wr=w1∧Hid (nameLoop (s.data.toList.drop j) false=nameLoop s.data.toList true)) (fun i _=>s.size-(intOf i).toNat)
  case atStart=>exact⟨1,by omega,by omega,rfl,rfl,HI0⟩
  case round=>
   obtain⟨j,hj1,hj,rfl,rfl,HI⟩:=hrel
   by_cases hlt:j<s.size
   ·obtain⟨d,hd,hix⟩:=getB s j hlt
    have HD:=Lib.hid hd
    clear hd
    cases e1:letterB d.toNat with
    |true=>
     have HI2:Hid (nameLoop (s.data.toList.drop (j+1)) false=nameLoop s.data.toList true):=Lib.hid (by rw[←HI.out,HD.out,nameLoop_go (.inl e1)])
     have E1:=Lib.hid e1
     clear e1 HD HI
     go_wp2_with (go_at_call 90;refine(r1_letter _ _).mono ?_;rintro e w1 ⟨rfl,rfl⟩;rw[E1.out])
     go_roundw
     case rel=>exact⟨j+1,by omega,by omega,by simp,trivial,HI2⟩
     case measure=>simp[intOf];omega
    |false=>
     cases e2:digitB d.toNat with
     |true=>
      have HI2:Hid (nameLoop (s.data.toList.drop (j+1)) false=nameLoop s.data.toList true):=Lib.hid (by rw[←HI.out,HD.out,nameLoop_go (.inr ⟨rfl,e2⟩)])
      have E1:=Lib.hid e1
      have E2:=Lib.hid e2
      clear e1 e2 HD HI
      go_wp2_with (first
       |(go_at_call 90;refine(r1_letter _ _).mono ?_;rintro e w1 ⟨rfl,rfl⟩;rw[E1.out])
       |(go_at_call 91;refine(r1_digit _ _).mono ?_;rintro e w1 ⟨rfl,rfl⟩;rw[E2.out]))
      go_roundw
      case rel=>exact⟨j+1,by omega,by omega,by simp,trivial,HI2⟩
      case measure=>simp[intOf];omega
     |false=>
      have hn:Hid (nameB s=false):=Lib.hid (nameB_false (by rw[←HI.out,HD.out,nameLoop_stop e1 (.inr e2)]))
      have E1:=Lib.hid e1
      have E2:=Lib.hid e2
      clear e1 e2 HD HI
      go_wp2_with (first
       |(go_at_call 90;refine(r1_letter _ _).mono ?_;rintro e w1 ⟨rfl,rfl⟩;rw[E1.out])
       |(go_at_call 91;refine(r1_digit _ _).mono ?_;rintro e w1 ⟨rfl,rfl⟩;rw[E2.out]))
      go_ret
      exact⟨ret_bool hn.out.symm,Below.refl _ _⟩
   ·obtain rfl:j=s.size:=by omega
    have hn:Hid (nameB s= !wordB s):=Lib.hid (by rw[HN.out,←HI.out,HEM.out,decide_eq_true h40',List.drop_of_length_le (by simp)];simp[nameLoop])
    go_wp2_with (go_at_call 92;refine HW.out.mono ?_;rintro e w1 ⟨rfl,hb⟩)
    go_ret
    exact⟨ret_bool hn.out.symm,hb⟩
theorem r13_between (a n:Int) (w:World):Calls Tryz.prog 133 #[.int .i64 a,.int .i64 n] w fun e w'=>e= .returned (.bool (decide (0≤a)&&decide (a<n)))∧w'=w:=by
 have HF:Hid ((decide (0≤a)&&decide (a<n))=(decide (0≤a)&&decide (a<n))):=rfl
 go_enter Tryz.func133,Tryz.ntmps133
 go_wp2
 all_goals
  go_ret
  exact⟨ret_bool (by first|(simp[*];done)|(simp[*];omega)),rfl⟩
theorem r13_jumps (op:Int) (w:World):Calls Tryz.prog 97 #[.int .i64 op] w fun e w'=>e= .returned (.bool (jumpsR op))∧w'=w:=by
 have HF:Hid (jumpsR op=((decide (34≤op)&&decide (op≤37))||op==52)):=rfl
 go_enter Tryz.func97,Tryz.ntmps97
 go_wp2
 all_goals
  go_ret
  exact⟨ret_bool (by rw[HF.out];first|(simp[*];done)|(simp[*];omega)),rfl⟩
def typeR (s:List UInt8):Bool:=nameL s||s==[97,110,121]||s==[109,97,112]||s==[102,117,110,99]
theorem r13_typeText (s:List UInt8) (w:World) (hs:s.length≤4000000000):Calls Tryz.prog 169 #[.string ⟨⟨s⟩⟩] w fun e w'=>e= .returned (.bool (typeR s))∧Below w.heap.size w w':=by
 have HN:Hid (Calls Tryz.prog 47 #[.string ⟨⟨s⟩⟩] w fun e w'=>e= .returned (.bool (nameL s))∧Below w.heap.size w w'):=Lib.hid (r1_Name ⟨⟨s⟩⟩ w (by show s.length≤_;omega))
 have HR:Hid (typeR s=(nameL s||s==[97,110,121]||s==[109,97,112]||s==[102,117,110,99])):=Lib.hid rfl
 go_enter Tryz.func169,Tryz.ntmps169
 cases e0:nameL s<;>rw[e0] at HN HR
 ·cases e1:(s==[97,110,121])<;>rw[e1] at HR
  ·cases e2:(s==[109,97,112])<;>rw[e2] at HR
   ·cases e3:(s==[102,117,110,99])<;>rw[e3] at HR
    all_goals
     rw[HR.out]
     clear HR
     go_wp2_with (go_at_call 47;refine HN.out.mono ?_;rintro e w' ⟨rfl,hb⟩)
     go_ret
     exact⟨ret_bool (by first|rfl|simp_all),hb⟩
   ·rw[HR.out]
    clear HR
    go_wp2_with (go_at_call 47;refine HN.out.mono ?_;rintro e w' ⟨rfl,hb⟩)
    go_ret
    exact⟨ret_bool (by first|rfl|simp_all),hb⟩
  ·rw[HR.out]
   clear HR
   go_wp2_with (go_at_call 47;refine HN.out.mono ?_;rintro e w' ⟨rfl,hb⟩)
   go_ret
   exact⟨ret_bool (by first|rfl|simp_all),hb⟩
 ·rw[HR.out]
  clear HR
  go_wp2_with (go_at_call 47;refine HN.out.mono ?_;rintro e w' ⟨rfl,hb⟩)
  go_ret
  exact⟨ret_bool (by first|rfl|simp_all),hb⟩
theorem r13_some (s:List UInt8) (p:Int) (a:Bool) (w:World) (hs:s.length≤4000000000):Calls Tryz.prog 136 #[.string ⟨⟨s⟩⟩,.int .i64 p,.bool a] w fun e w'=>e= .returned (.bool (someR s p a))∧Below w.heap.size w w':=by
 have HN:Hid (Calls Tryz.prog 47 #[.string ⟨⟨s⟩⟩] w fun e w'=>e= .returned (.bool (nameL s))∧Below w.heap.size w w'):=Lib.hid (r1_Name ⟨⟨s⟩⟩ w (by show s.length≤_;omega))
 have HT:Hid (Calls Tryz.prog 169 #[.string ⟨⟨s⟩⟩] w fun e w'=>e= .returned (.bool (typeR s))∧Below w.heap.size w w'):=Lib.hid (r13_typeText s w hs)
 by_cases hp:p=1
 ·have HR:Hid (someR s p a=nameL s):=Lib.hid (by unfold someR;rw[if_pos hp])
  rw[HR.out]
  subst hp
  clear HR HT
  go_enter Tryz.func136,Tryz.ntmps136
  go_wp2_with (go_at_call 47;refine HN.out.mono ?_;rintro e w' ⟨rfl,hb⟩)
  go_ret
  exact⟨rfl,hb⟩
 ·have HR:Hid (someR s p a=(typeR s&&(a|| !(s==[97,110,121])))):=Lib.hid (by unfold someR typeR;rw[if_neg hp])
  have hp1:(p==1)=false:=by simpa using hp
  rw[HR.out]
  clear HR HN hp
  go_enter Tryz.func136,Tryz.ntmps136
  cases e0:typeR s<;>rw[e0] at HT
  ·go_wp2_with (go_at_call 169;refine HT.out.mono ?_;rintro e w' ⟨rfl,hb⟩)
   go_ret
   exact⟨rfl,hb⟩
  ·cases a
   ·cases e1:(s==[97,110,121])
    all_goals
     go_wp2_with (go_at_call 169;refine HT.out.mono ?_;rintro e w' ⟨rfl,hb⟩)
     go_ret
     exact⟨ret_bool (by first|rfl|simp_all),hb⟩
   ·go_wp2_with (go_at_call 169;refine HT.out.mono ?_;rintro e w' ⟨rfl,hb⟩)
    go_ret
    exact⟨ret_bool (by first|rfl|simp_all),hb⟩
theorem wrong_result {F:_} {k:Nat} (hres:F.results= #[ResultVar.cell k 46]) (tmps:Array Value) (W:World) (g:Nat) (v0 v1 v2:Value) (h2:tmps.getD k undef= .pointer (some ⟨g,0,none⟩)) (e0:W.cell? ⟨g,0,none⟩=some v0) (e1:W.cell? ⟨g,1,none⟩=some v1) (e2:W.cell? ⟨g,2,none⟩=some v2):
  (results F tmps).run Tryz.prog W= .ok (.agg #[v0,v1,v2]) W:=by
 have h2':tmps[k]?.getD undef= .pointer (some ⟨g,0,none⟩):=by simpa using h2
 simp[results,hres,go_sem,h2',e0,e1,e2]
theorem r13_no (a:Int) (s:ByteArray) (w:World):Calls Tryz.prog 48 #[.int .i64 a,.string s] w fun e w'=>e= .returned (.agg #[.int .i64 130,.int .i64 a,.string s])∧Below w.heap.size w w':=by
 go_enter Tryz.func48,Tryz.ntmps48
 go_wp2_with fail
 have hb:=heap_alloc_new w (.cells #[.int .i64 130,.int .i64 a,.string s] 46)
 exact bodyPost_ret (wrong_result rfl _ _ w.heap.size _ _ _ rfl ((cell_of_row _ _ 0 _ _ _ hb).trans rfl) ((cell_of_row _ _ 1 _ _ _ hb).trans rfl) ((cell_of_row _ _ 2 _ _ _ hb).trans rfl)) rfl ⟨rfl,(Below.refl _ _).alloc (Nat.le_refl _) _⟩
theorem less_add (c:UInt8):∀(m n:Nat) (s:List UInt8),lessP s c (m+n)=match lessP s c m with
  |none=>none
  |some t=>lessP t c n
 |0,n,s=>by rw[Nat.zero_add,lessP]
 |m+1,n,s=>by
  rw[show m+1+n=(m+n)+1 by omega]
  cases s with
  |nil=>rw[lessP,lessP]
  |cons t r=>
   rw[lessP,lessP]
   split
   ·exact less_add c m n r
   ·rfl
theorem takes_rep (c:UInt8):∀(a:Nat) (s:List UInt8),takesP s (List.replicate a c)=lessP s c a
 |0,s=>by rw[List.replicate_zero,takesP,lessP]
 |a+1,s=>by
  rw[List.replicate_succ,takesP,show a+1=1+a by omega,less_add]
  cases lessP s c 1 with
  |none=>rfl
  |some t=>exact takes_rep c a t
theorem less_lenR (c:UInt8):∀(n:Nat) (s t:List UInt8),lessP s c n=some t→t.length+n=s.length
 |0,s,t,h=>by
  rw[lessP] at h
  obtain rfl:=Option.some.inj h
  rfl
 |n+1,[],t,h=>by
  rw[lessP] at h
  cases h
 |n+1,x::r,t,h=>by
  rw[lessP] at h
  split at h
  ·have:=less_lenR c n r t h
   rw[List.length_cons]
   omega
  ·cases h
theorem lays_rep (c:UInt8):∀(b:Nat) (s:List UInt8),laysP s (List.replicate b c)=if b=0∨s.length+b≤30000 then some (List.replicate b c++s) else none
 |0,s=>by simp[laysP]
 |b+1,s=>by
  rw[List.replicate_succ,laysP]
  by_cases h:30000<s.length+1
  ·rw[if_pos h,if_neg (by omega)]
  ·rw[if_neg h,lays_rep c b (c::s),List.length_cons]
   by_cases h2:s.length+(b+1)≤30000
   ·rw[if_pos (.inr (by omega)),if_pos (.inr h2)]
    have e:List.replicate b c++c::s=(List.replicate b c++ [c])++s:=by simp
    rw[e,←List.replicate_succ',List.replicate_succ]
   ·by_cases h0:b=0
    ·subst h0;omega
    ·rw[if_neg (by omega),if_neg (by omega)]
theorem leaves_values {x:Ci} {c a b:Nat} (hc:countedP x=(118,(c:Int))) (ht:(formOf x.op).takes=List.replicate a 118) (hl:(formOf x.op).lays=List.replicate b 118) (s:List UInt8):
  leavesP x s=match lessP s 118 (c+a) with
   |none=>none
   |some t=>if b=0∨t.length+b≤30000 then some (List.replicate b 118++t,if x.op=36∨x.op=37 then 118::t else t) else none:=by
 unfold leavesP
 rw[hc,ht,hl,List.reverse_replicate,less_add]
 simp only[Int.toNat_natCast]
 cases lessP s 118 c with
 |none=>rfl
 |some s1=>
  dsimp only
  rw[takes_rep]
  cases lessP s1 118 a with
  |none=>rfl
  |some t=>
   dsimp only
   rw[lays_rep]
   by_cases hb:b=0∨t.length+b≤30000
   ·rw[if_pos hb,if_pos hb]
   ·rw[if_neg hb,if_neg hb]
end Go.Proofs.YtagnicbknbmccaaGreatDoor
