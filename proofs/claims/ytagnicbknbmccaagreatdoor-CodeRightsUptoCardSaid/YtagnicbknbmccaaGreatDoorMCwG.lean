/- The package-level variables that package code reaches; code.wrong. code.named, declared, typed: what each returns, at every text. code.declared, typed. internal/strconv.ParseUint and strconv.ParseUint at the base sixteen, 64 bits. guiseref13.whole: what it returns. -/
import Derived.Test.YtagnicbknbmccaaGreatDoorShelf
import Derived.BigQuiet
import Derived.Deep.DeepCutAuto
import Derived.Shelf.Strconv.ParseUint10b64
import Derived.Test.YtagnicbknbmccaaGreatDoorMCwF
import Derived.Test.YtagnicbknbmccaaGreatDoorMScanA
import Derived.Test.YtagnicbknbmccaaGreatDoorMRfF
set_option maxRecDepth 100000
set_option maxHeartbeats 32000000
namespace Go.Proofs.YtagnicbknbmccaaGreatDoor
open Go.RowKit
theorem gPow:Tryz.prog.globalNamed "internal/strconv.uint64pow10"=some 4:=by kernel_rfl
def spaceT:Array Value:=(Lib.asciiSpaceTab.map fun z=>Value.int .u8 z).toArray
def IfcAt (w:World) (g:Nat):Prop:=∃ev,w.cell? ⟨g,0,none⟩=some ev∧(ev= .nilIface∨∃te pe,ev= .iface te pe)
structure Gc (w:World):Prop where
 size:13≤w.heap.size
 pow:Lib.TabIs Tryz.prog w "internal/strconv.uint64pow10" .u64 Lib.pow10Tab
 max:∃m,w.cell? ⟨2,0,none⟩=some (.int .i64 m)
 syn:IfcAt w 5
 rng:IfcAt w 6
 space:∃t fr,w.heap[1]? =some (.cells spaceT t fr)
theorem Gc.below {w w':World} {B:Nat} (h:Gc w) (hB:13≤B) (hb:Below B w w'):Gc w':=by
 have hc:∀g,g<13→w'.cell? ⟨g,0,none⟩=w.cell? ⟨g,0,none⟩:=fun g hg=>hb.cell (p:=⟨g,0,none⟩) (show g<B by omega)
 obtain⟨m,h3⟩:=h.max
 obtain⟨e1,h4,h5⟩:=h.syn
 obtain⟨e2,h6,h7⟩:=h.rng
 obtain⟨t,fr,h8⟩:=h.space
 refine⟨Nat.le_trans h.size hb.size, ?_,⟨m,by rw[hc _ (by decide)];exact h3⟩,⟨e1,by rw[hc _ (by decide)];exact h4,h5⟩,⟨e2,by rw[hc _ (by decide)];exact h6,h7⟩,t,fr,by rw[hb.block _ (Nat.lt_of_lt_of_le (by decide) hB)];exact h8⟩
 have h2:=h.pow
 unfold Lib.TabIs World.var? at*
 rw[gPow] at h2⊢
 simp only[Option.bind_some] at h2⊢
 rw[hb.block _ (Nat.lt_of_lt_of_le (by decide) hB)]
 exact h2
theorem Gc.up {w w':World} (h:Gc w) (hb:Below w.heap.size w w'):Gc w':=h.below h.size hb
theorem Gc.foot {w w':World} {B:Nat} {g:Nat→Prop} (h:Gc w) (hf:Foot B g w w') (hB:13≤B) (hg:∀k,g k→13≤k):Gc w':=h.below (Nat.le_refl 13) (hf.to hB hg)
def insName:Option Int→ByteArray
 |none=>⟨#[]⟩
 |some i=>⟨(Lib.itoa i).toArray⟩
def WrAt (w:World) (b:Nat) (c a:Int) (i:Option Int):Prop:=w.heap[b]? =some (.cells #[.int .i64 c,.int .i64 a,.string (insName i)] 46 (0,0))
theorem grow_under {w:World} {k:Nat} {os:Array Obj}:Below w.heap.size w (Go.Sort.grow (w.drewN k) os):=
 ⟨rfl,rfl,rfl,by show w.heap.size≤(w.heap++os).size;rw[Array.size_append];omega,fun j hj=>by show(w.heap++os)[j]? =_;rw[Array.getElem?_append_left hj]⟩
def WrongPost (w:World) (c a:Int) (i:Option Int) (e:Ending) (w':World):Prop:=Below w.heap.size w w'∧∃b,e= .returned (.pointer (some ⟨b,0,none⟩))∧w.heap.size≤b∧WrAt w' b c a i
theorem wrong_facts {c a:Int} {w w1:World} {k:Nat} {os:Array Obj} (h:w1=Go.Sort.grow ((w.alloc (.cells #[.int .i64 c,.int .i64 a,.string ⟨#[]⟩] 46 (0,0))).drewN k) os) (s:ByteArray):
  w1.cell? ⟨w.heap.size,2,none⟩=some (.string ⟨#[]⟩)∧w1.frozen? ⟨w.heap.size,2,none⟩=false∧Below w.heap.size w (w1.setCell ⟨w.heap.size,2,none⟩ (.string s))∧
  (w1.setCell ⟨w.heap.size,2,none⟩ (.string s)).heap[w.heap.size]? =some (.cells #[.int .i64 c,.int .i64 a,.string s] 46 (0,0)):=by
 have hb:Below (w.heap.size+1) (w.alloc (.cells #[.int .i64 c,.int .i64 a,.string ⟨#[]⟩] 46 (0,0))) w1:=by
  rw[h]
  have:=grow_under (w:=w.alloc (.cells #[.int .i64 c,.int .i64 a,.string ⟨#[]⟩] 46 (0,0))) (k:=k) (os:=os)
  rw[World.size_alloc] at this
  exact this
 have hg:w1.heap[w.heap.size]? =some (.cells #[.int .i64 c,.int .i64 a,.string ⟨#[]⟩] 46 (0,0)):=(hb.block _ (by omega)).trans (heap_alloc_new _ _)
 refine⟨cell_of_row w1 _ 2 _ _ _ hg,frozen_of_row w1 _ 2 _ _ hg, ?_,heap_setCell_same w1 _ 2 _ _ _ hg⟩
 exact(((Below.refl w.heap.size w).alloc (Nat.le_refl _) _).trans (hb.mono (by omega))).setCell (p:=⟨w.heap.size,2,none⟩) (Nat.le_refl _) _
theorem wrong_none (c a:Int) (w:World):Calls Tryz.prog 35 #[.int .i64 c,.int .i64 a,.int .i64 (-1)] w (WrongPost w c a none):=by
 go_enter Tryz.func35,Tryz.ntmps35
 go_wp2_with fail
 go_ret
 exact⟨(Below.refl _ _).alloc (Nat.le_refl _) _,w.heap.size,rfl,Nat.le_refl _,heap_alloc_new _ _⟩
theorem wrong_some (c a:Int) (i:Nat) (hi:i≤9223372036854775807) (w:World) (h:Gc w):Calls Tryz.prog 35 #[.int .i64 c,.int .i64 a,.int .i64 i] w (WrongPost w c a (some (i:Int))):=by
 have hT:Lib.TabIs Tryz.prog (w.alloc (.cells #[.int .i64 c,.int .i64 a,.string ⟨#[]⟩] 46 (0,0))) "internal/strconv.uint64pow10" .u64 Lib.pow10Tab:=(h.up ((Below.refl _ _).alloc (Nat.le_refl _) _)).pow
 have HT:=Lib.hid hT
 clear h hT
 have d:decide ((i:Int)<0)=false:=by simp
 go_enter Tryz.func35,Tryz.ntmps35
 go_wp2_with (go_at_call 77;refine(Tryz.strconv_Itoa i (by omega) (by omega) _ HT.out).mono ?_;rintro e w1 ⟨rfl,k,os,hw1⟩;have hf:=wrong_facts hw1 (insName (some (i:Int)));have c2:=hf.1;have f2:=hf.2.1;have HF:=Lib.hid hf.2.2;clear hf hw1)
 go_ret
 exact⟨HF.out.1,w.heap.size,rfl,Nat.le_refl _,HF.out.2⟩
theorem gSpaceTab:Tryz.prog.globalNamed "strings.asciiSpace"=some 1:=by kernel_rfl
theorem Gc.spaceTab {w:World} (h:Gc w):Lib.TabIs Tryz.prog w "strings.asciiSpace" .u8 Lib.asciiSpaceTab:=by
 obtain⟨t,fr,h8⟩:=h.space
 unfold Lib.TabIs World.var?
 rw[gSpaceTab]
 simp only[Option.bind_some]
 rw[h8]
 rfl
def wordsS:ByteArray:=⟨([97,110,121,32,98,114,101,97,107,32,99,97,115,101,32,99,111,110,116,105,110,117,101,32,100,101,102,97,117,108,116,32,100,101,102,101,114,32,101,108,115,101,32,102,97,108,108,116,104,114,111,117,103,104,32,102,97,108,115,101,32,102,111].append [114,32,102,117,110,99,32,105,102,32,105,110,32,109,97,112,32,110,105,108,32,112,114,111,116,111,99,111,108,32,114,101,116,117,114,110,32,115,116,114,117,99,116,32,115,119,105,116,99,104,32,116,114,117,101,32,116,121,112,101,32,118,97,114]).toArray⟩
theorem wordsS_fields:Lib.fields wordsS.data.toList=wordsA.map (fun x=>x.data.toList):=by kernel_rfl
theorem wordsS_ascii:wordsS.data.toList.all (fun b=>decide (b.toNat<128))=true:=by kernel_rfl
theorem fields_words (w:World) (h:Gc w):Calls Tryz.prog 117 #[.string wordsS] w fun e w'=>e= .returned (.slice (some ⟨w.heap.size,0,none⟩) 22 22)∧w'=w.alloc (.cells (wordsA.map Value.string).toArray 9):=by
 refine(Tryz.strings_Fields wordsS w (by rw[show wordsS.size=127 by kernel_rfl];decide) (fun j b hj=> ?_) h.spaceTab).mono ?_
 ·have:=List.all_eq_true.mp wordsS_ascii b (List.mem_of_getElem? hj)
  simpa using this
 ·rintro e w' ⟨rfl,rfl⟩
  rw[wordsS_fields]
  refine⟨by rw[List.length_map];rfl, ?_⟩
  rw[List.map_map]
  rfl
theorem named_any (s:ByteArray) (w:World) (h:Gc w) (hs:s.size≤140737488351232):Calls Tryz.prog 76 #[.string s] w fun e w'=>e= .returned (.bool (nameB s))∧Below w.heap.size w w':=by
 have H:=Lib.hid h
 have HN:Hid (nameB s=(nameLoop s.data.toList true&&(!s.data.toList.isEmpty&&(decide (s.size≤40)&& !wordB s)))):=rfl
 have HK:∀w',Gc w'→Calls Tryz.prog 117 #[.string wordsS] w' fun e w''=>e= .returned (.slice (some ⟨w'.heap.size,0,none⟩) 22 22)∧w''=w'.alloc (.cells (wordsA.map Value.string).toArray 9):=fun w' h'=>fields_words w' h'
 have HKh:=Lib.hid HK
 clear h HK
 go_enter Tryz.func76,Tryz.ntmps76
 go_wp2
 go_loopw [2] (fun v wr=>v= .bool false∧∃pos:Nat,wr=w.iter s pos∧pos≤s.size∧Hid (nameLoop (s.data.toList.drop pos) (pos==0)=nameLoop s.data.toList true)) (fun _ wr=>s.size-wr.iterPos w.heap.size)
 case atStart=>exact⟨rfl,0,rfl,Nat.zero_le _,rfl⟩
 case round=>
  obtain⟨rfl,pos,rfl,hle,HI⟩:=hrel
  by_cases hp:pos<s.size
  ·have hd:=Lib.hid (drop_byte s pos hp)
   by_cases ha:(s[pos]'hp).toNat<128
   ·have hnx:=fun ty=>run_next_ascii (P:=Tryz.prog) w s pos ty hp ha
    obtain⟨c,HC⟩:∃c:Nat,Hid ((s[pos]'hp).toNat=c):=⟨_,rfl⟩
    rw[HC.out] at hnx
    go_wp2
    all_goals first
     |(exfalso;simp_all;done)
     |(exfalso;simp_all;omega)
     |(go_roundw
       case rel=>
        refine⟨by trivial,pos+1,rfl,by omega, ?_⟩
        show _=_
        rw[←HI.out,hd.out,nameLoop_go]
        ·rfl
        ·rw[HC.out];first|(simp[letterB,digitB, *];done)|(simp[letterB,digitB];omega)|(simp_all[letterB,digitB];done)|(simp_all[letterB,digitB];omega)
       case measure=>simp;omega)
     |(go_ret
       refine⟨ret_bool ?_,(Below.refl _ _).alloc (Nat.le_refl _) _⟩
       refine(nameB_false ?_).symm
       rw[←HI.out,hd.out,nameLoop_stop]
       ·rw[HC.out];first|(simp[letterB, *];done)|(simp[letterB];omega)|(simp_all[letterB];done)|(simp_all[letterB];omega)
       ·rw[HC.out];first|(simp[digitB, *];done)|(simp[digitB];omega)|(simp_all[digitB];done)|(simp_all[digitB];omega))
   ·have hnx:=fun ty=>run_next_any (P:=Tryz.prog) w s pos ty hp
    obtain⟨h1,h2⟩:=decode_high s pos hp (by omega)
    obtain⟨c,HC⟩:∃c:Nat,Hid ((Utf8.decode s pos).1=c):=⟨_,rfl⟩
    rw[HC.out] at h1 hnx
    go_wp2
    all_goals first
     |(exfalso;omega)
     |(exfalso;simp_all;done)
     |(exfalso;simp_all;omega)
     |(go_ret
       refine⟨ret_bool ?_,(Below.refl _ _).alloc (Nat.le_refl _) _⟩
       refine(nameB_false ?_).symm
       rw[←HI.out,hd.out,nameLoop_stop (letter_high (by omega)) (.inr (digit_high (by omega)))])
  ·have hnx:=fun ty=>run_next_end (P:=Tryz.prog) w s pos ty hp
   obtain rfl:pos=s.size:=by omega
   have HT:Hid (nameLoop s.data.toList true=true):=by
    show _=_
    rw[←HI.out,List.drop_of_length_le (by simp)]
    rfl
   have HG:Hid (Gc (w.iter s s.size)):=H.out.up ((Below.refl _ _).alloc (Nat.le_refl _) _)
   go_wp2_with (first
    |(go_at_call 117;refine(HKh.out _ HG.out).mono ?_;rintro e w' ⟨rfl,rfl⟩)
    |(go_at_call 116;refine(Contains_list wordsA _ _ _ _ s _ (heap_alloc_new _ _) (by decide)).mono ?_;rintro e w'' ⟨rfl,rfl⟩))
   all_goals
    go_ret
    refine⟨ret_bool ?_, ?_⟩
    ·rw[HN.out,HT.out]
     have hw:wordB s=wordsA.any (fun x=>s.toList==x.toList):=rfl
     rw[hw]
     by_cases h40:s.size≤40
     ·rw[decide_eq_true h40];first|(simp_all[data_toList];done)|omega
     ·rw[decide_eq_false h40];first|(simp_all[data_toList];done)|omega
    ·first
      |exact(Below.refl _ _).alloc (Nat.le_refl _) _
      |exact((Below.refl _ _).alloc (Nat.le_refl _) _).alloc (by simp) _
theorem cut_len {s t:List UInt8} {r:Option (List UInt8)} (h:cutAt 46 s=(t,r)):t.length≤s.length∧∀u,r=some u→u.length≤s.length:=by
 have h1:=cutAt_spec 46 s
 rw[h] at h1
 cases r with
 |none=>
  have h2:t=s:=(h1.1 rfl).1
  exact⟨by rw[h2];exact Nat.le_refl _,fun u hu=>by cases hu⟩
 |some u=>
  have h2:s=t++46::u:=(h1.2 u rfl).2
  have h3:=congrArg List.length h2
  simp at h3
  exact⟨by omega,fun u' hu=>by cases hu;omega⟩
theorem drew_under (w:World) (q:Nat):Below w.heap.size w (w.drewN q):=⟨rfl,rfl,rfl,Nat.le_refl _,fun _ _=>rfl⟩
theorem Gc.drewN {w:World} (h:Gc w) (q:Nat):Gc (w.drewN q):=h.up (drew_under w q)
theorem declared_any (s:List UInt8) (w:World) (h:Gc w) (hs:s.length≤4000000000):Calls Tryz.prog 78 #[.string ⟨⟨s⟩⟩] w fun e w'=>e= .returned (.bool (declaredB s))∧Below w.heap.size w w':=by
 obtain⟨mx,hmx⟩:=h.max
 obtain⟨R,hR⟩:∃R,declaredB s=R:=⟨_,rfl⟩
 rw[hR]
 have hcut:=cut_one s 46
 rcases hc:cutAt 46 s with⟨t,r⟩
 obtain⟨ht,hr⟩:=cut_len hc
 have hts:r=none→t=s:=fun hn=>by
  have h1:=(cutAt_spec 46 s).1
  rw[hc] at h1
  exact(h1 hn).1
 have hK:=Tryz.strings_Cut ⟨⟨s⟩⟩ ⟨⟨[46]⟩⟩ mx w (by show s.length<_;omega) hmx
 rw[show(⟨⟨s⟩⟩:ByteArray).data.toList=s from rfl,show(⟨⟨[46]⟩⟩:ByteArray).data.toList=[46] from rfl,hcut] at hK
 unfold declaredB at hR
 rw[hc] at hK hR
 have HG:=Lib.hid h
 have HR:=Lib.hid hR
 have HN:Hid (∀(t:List UInt8) (W:World),Gc W→t.length≤4000000000→Calls Tryz.prog 76 #[.string ⟨⟨t⟩⟩] W fun e w'=>e= .returned (.bool (nameL t))∧Below W.heap.size W w'):=
  Lib.hid fun t W hW ht=>named_any ⟨⟨t⟩⟩ W hW (by show t.length≤_;omega)
 clear h hR hcut hc hmx
 cases r with
 |none=>
  obtain rfl:=hts rfl
  have HK:Hid (Calls Tryz.prog 65 #[.string ⟨⟨t⟩⟩,.string ⟨#[46]⟩] w fun e w'=>e= .returned (.tuple #[.string ⟨⟨t⟩⟩,.string ⟨#[]⟩,.bool false])∧∃n,w'=w.drewN n):=Lib.hid hK
  clear hK hr
  have hR2:nameL t=R:=HR.out
  go_enter Tryz.func78,Tryz.ntmps78
  cases hn:nameL t<;>rw[hn] at hR2
  all_goals
   have HR2:=Lib.hid hR2
   clear hR2
   go_wp2_with (first
    |(go_at_call 65;refine HK.out.mono ?_;rintro e w' ⟨rfl,q,rfl⟩)
    |(go_at_call 76;refine(HN.out t _ (HG.out.drewN _) (by omega)).mono ?_;rw[hn];rintro e w' ⟨rfl,hb⟩))
   go_ret
   exact⟨ret_bool (by rw[←HR2.out]),(drew_under w _).trans hb⟩
 |some u=>
  have hu:=hr u rfl
  have HK:Hid (Calls Tryz.prog 65 #[.string ⟨⟨s⟩⟩,.string ⟨#[46]⟩] w fun e w'=>e= .returned (.tuple #[.string ⟨⟨t⟩⟩,.string ⟨⟨u⟩⟩,.bool true])∧∃n,w'=w.drewN n):=Lib.hid hK
  clear hK hr
  have hR2:(nameL t&&nameL u)=R:=HR.out
  go_enter Tryz.func78,Tryz.ntmps78
  cases hn:nameL t<;>rw[hn] at hR2
  ·have HR2:=Lib.hid hR2
   clear hR2
   go_wp2_with (first
    |(go_at_call 65;refine HK.out.mono ?_;rintro e w' ⟨rfl,q,rfl⟩)
    |(go_at_call 76;refine(HN.out t _ (HG.out.drewN _) (by omega)).mono ?_;rw[hn];rintro e w' ⟨rfl,hb⟩))
   go_ret
   exact⟨ret_bool (by rw[←HR2.out];rfl),(drew_under w _).trans hb⟩
  ·have HR2:=Lib.hid hR2
   clear hR2
   have tok:True:=trivial
   go_wp2_with (first
    |(go_at_call 65;refine HK.out.mono ?_;rintro e w' ⟨rfl,q,rfl⟩)
    |(go_at_call 76;have _t:=tok;refine(HN.out t _ (HG.out.drewN _) (by omega)).mono ?_;rw[hn];rintro e w' ⟨rfl,hb⟩;clear tok)
    |(go_at_call 76;refine(HN.out u _ ((HG.out.drewN _).up hb) (by omega)).mono ?_;rintro e w' ⟨rfl,hb2⟩))
   go_ret
   exact⟨ret_bool (by rw[←HR2.out];rfl),(drew_under w _).trans (hb.trans (hb2.mono hb.size))⟩
def lowI (n:Nat):Int:=bits .or .u8 (n:Int) 32
def hexA (n:Nat):Option Nat:=if 48≤n∧n≤57 then some (n-48) else if 97≤lowI n∧lowI n≤102 then some ((lowI n).toNat-87) else none
def hexU:List UInt8→Nat→Option Nat
 | [],n=>some n
 |c::r,n=>match hexA c.toNat with
  |none=>none
  |some d=>if 1152921504606846976≤n then none else hexU r (16*n+d)
theorem hexU_bad {c:UInt8} {r:List UInt8} {n:Nat} (h:hexA c.toNat=none):hexU (c::r) n=none:=by rw[hexU,h]
theorem hexU_far {c:UInt8} {r:List UInt8} {n:Nat} (h:1152921504606846976≤n):hexU (c::r) n=none:=by
 rw[hexU];cases hexA c.toNat with
 |none=>rfl
 |some d=>exact if_pos h
theorem hexU_go {c:UInt8} {r:List UInt8} {n d:Nat} (h:hexA c.toNat=some d) (h2:¬1152921504606846976≤n):hexU (c::r) n=hexU r (16*n+d):=by
 rw[hexU,h];exact if_neg h2
def HexPost (w:World) (r:Option Nat) (e:Ending) (w':World):Prop:=Below w.heap.size w w'∧match r with
 |some n=>n<18446744073709551616∧e= .returned (.tuple #[.int .u64 n,.nilIface])
 |none=>∃v k,(k=1∨k=2)∧e= .returned (.tuple #[.int .u64 v,.iface 273 (.int .i64 k)])
theorem hex_inner (t:ByteArray) (hne:t.size≠0) (hmax:t.size≤4000000000) (w:World):
  Calls Tryz.prog 188 #[.string t,.int .i64 16,.int .i64 64] w (HexPost w (hexU t.data.toList 0)):=by
 have hemp:t.toList.isEmpty=false:=by
  rw[←decide_eq_emptyBytes]
  exact decide_eq_false (fun h=>hne (by rw[h];rfl))
 have hcv:=Lib.run_convert_string_bytes (P:=Tryz.prog) w 9 75 5 t (u:= .string) Tryz.underlying9 Tryz.underlying75 Tryz.underlying5
 have hB:∀j,j<t.size→(Lib.bytesWorld w 5 t).cell? ⟨w.heap.size,j,none⟩=some (.int .u8 (t.data.toList.getD j 0).toNat):=fun j hj=>Lib.bytesWorld_cell w 5 t j hj
 have hbl:Below w.heap.size w (Lib.bytesWorld w 5 t):=⟨rfl,rfl,rfl,by rw[Lib.bytesWorld_size];omega,fun j hj=>Lib.bytesWorld_at_old w 5 t j hj⟩
 obtain⟨W1,hW1⟩:∃W1,W1=Lib.bytesWorld w 5 t:=⟨_,rfl⟩
 rw[←hW1] at hcv hB hbl
 have HBL:=Lib.hid hbl
 clear hW1 hbl
 obtain⟨bs,hL⟩:∃bs,bs=t.data.toList:=⟨_,rfl⟩
 have hLn:bs.length=t.size:=by rw[hL,Lib.size_eq]
 rw[←hL] at hB⊢
 clear hL
 have hmv:IntKind.u64.wrap (IntKind.u64.wrap 18446744073709551616-1)=18446744073709551615:=by
  rw[IntKind.wrap_u64,IntKind.wrap_u64]
  decide
 obtain⟨R,hR⟩:∃R,hexU bs 0=R:=⟨_,rfl⟩
 rw[hR]
 go_enter Tryz.func188,Tryz.ntmps188
 go_wp2
 go_loop [12,13,101] (fun vu vn vi=>∃(k acc:Nat) (a:Int),vu= .bool false∧vn= .int .u64 a∧vi= .int .i64 k∧k≤t.size∧Hid (a=(acc:Int)∧acc<18446744073709551616∧hexU (bs.drop k) acc=R))
  (fun _ _ vi=>t.size-(intOf vi).toNat)
 case atStart=>exact⟨0,0,0,rfl,rfl,rfl,by omega,rfl,by omega,hR⟩
 case round=>
  obtain⟨k,acc,a,rfl,rfl,rfl,hk,hh⟩:=hrel
  obtain⟨ha,hacc,hdec⟩:=hh.out
  clear hh
  have a0:0≤a:=by omega
  have a1:a<18446744073709551616:=by omega
  by_cases hkn:k<t.size
  ·have hc:=hB k hkn
   have hdrop:bs.drop k=bs[k]'(by omega)::bs.drop (k+1):=List.drop_eq_getElem_cons (by omega)
   have hget:bs.getD k 0=bs[k]'(by omega):=by simp[List.getD,List.getElem?_eq_getElem (show k<bs.length by omega)]
   rw[hdrop] at hdec
   rw[hget] at hc
   generalize bs[k]'(by omega)=c at hc hdec
   have hc256:c.toNat<256:=c.toNat_lt
   clear hB hdrop hget
   by_cases hdig:48≤c.toNat∧c.toNat≤57
   ·have hA:hexA c.toNat=some (c.toNat-48):=by rw[hexA,if_pos hdig]
    obtain⟨hd0,hd1⟩:=hdig
    by_cases hcut:1152921504606846976≤acc
    ·rw[hexU_far hcut] at hdec
     subst hdec
     have icut:1152921504606846976≤a:=by omega
     clear hcut hacc ha hA
     go_wp2
     go_ret2
     exact⟨HBL.out,_,_,by first|exact .inl rfl|exact .inr rfl,rfl⟩
    ·rw[hexU_go hA hcut] at hdec
     have icut:a<1152921504606846976:=by omega
     have iov:a*16+((c.toNat:Int)-48)<18446744073709551616:=by omega
     have HN:Hid (a*16+((c.toNat:Int)-48)=((16*acc+(c.toNat-48):Nat):Int)∧16*acc+(c.toNat-48)<18446744073709551616∧hexU (bs.drop (k+1)) (16*acc+(c.toNat-48))=R):=Lib.hid ⟨by omega,by omega,hdec⟩
     clear hcut hacc hdec ha hA
     go_wp2
     refine⟨⟨k+1,16*acc+(c.toNat-48),a*16+((c.toNat:Int)-48),rfl,(by first|rfl|(congr 1;omega)),(by first|rfl|(congr 1;omega)),by omega,HN⟩,by simp[intOf];omega⟩
   ·have hv0:0≤lowI c.toNat:=bits_lo_u8 .or (c.toNat:Int) 32
    have hv1:lowI c.toNat≤255:=bits_hi_u8 .or (c.toNat:Int) 32
    have HLW:Hid (∀w',Calls Tryz.prog 212 #[.int .u8 (c.toNat:Int)] w' fun e w''=>e= .returned (.int .u8 (lowI c.toNat))∧w''=w'):=Lib.hid fun w'=>Tryz.internal_strconv_lower _ _
    have hA:hexA c.toNat=if 97≤lowI c.toNat∧lowI c.toNat≤102 then some ((lowI c.toNat).toNat-87) else none:=by rw[hexA,if_neg hdig]
    by_cases h95:c.toNat=95
    ·rw[h95,if_neg (by decide)] at hA
     rw[h95] at hc
     have hc:W1.cell? ⟨w.heap.size,k,none⟩=some (.int .u8 95):=hc
     rw[hexU_bad (by rw[h95];exact hA)] at hdec
     subst hdec
     have HL95:Hid (∀w',Calls Tryz.prog 212 #[.int .u8 95] w' fun e w''=>e= .returned (.int .u8 127)∧w''=w'):=Lib.hid fun w'=>Tryz.internal_strconv_lower 95 _
     clear hA HLW hv0 hv1 hacc ha hdig h95 hc256
     go_wp2_with (go_at_call 212;refine(HL95.out _).mono ?_;rintro e w' ⟨rfl,rfl⟩)
     all_goals
      go_ret2
      exact⟨HBL.out,_,_,by first|exact .inl rfl|exact .inr rfl,rfl⟩
    have e95:((c.toNat:Int)==95)=false:=by simp;omega
    have n95:¬(c.toNat:Int)=95:=by omega
    generalize lowI c.toNat=lo at hv0 hv1 HLW hA
    have hdig2:¬(48≤(c.toNat:Int)∧(c.toNat:Int)≤57):=by omega
    have hnd:(decide (48≤(c.toNat:Int))&&decide ((c.toNat:Int)≤57))=false:=by simpa using hdig2
    by_cases hx:97≤lo∧lo≤102
    ·rw[if_pos hx] at hA
     obtain⟨hx0,hx1⟩:=hx
     have hw1:IntKind.u8.wrap (lo-97)=lo-97:=by rw[IntKind.wrap_u8];omega
     by_cases hcut:1152921504606846976≤acc
     ·rw[hexU_far hcut] at hdec
      subst hdec
      have icut:1152921504606846976≤a:=by omega
      clear hcut hacc ha hA
      go_wp2_with (go_at_call 212;refine(HLW.out _).mono ?_;rintro e w' ⟨rfl,rfl⟩)
      all_goals
       go_ret2
       exact⟨HBL.out,_,_,by first|exact .inl rfl|exact .inr rfl,rfl⟩
     ·rw[hexU_go hA hcut] at hdec
      have icut:a<1152921504606846976:=by omega
      have iov:a*16+(lo-87)<18446744073709551616:=by omega
      have HN:Hid (a*16+(lo-87)=((16*acc+(lo.toNat-87):Nat):Int)∧16*acc+(lo.toNat-87)<18446744073709551616∧hexU (bs.drop (k+1)) (16*acc+(lo.toNat-87))=R):=Lib.hid ⟨by omega,by omega,hdec⟩
      clear hcut hacc hdec ha hA
      go_wp2_with (go_at_call 212;refine(HLW.out _).mono ?_;rintro e w' ⟨rfl,rfl⟩)
      all_goals
       refine⟨⟨k+1,16*acc+(lo.toNat-87),a*16+(lo-87),rfl,(by first|rfl|(congr 1;omega)),(by first|rfl|(congr 1;omega)),by omega,HN⟩,by simp[intOf];omega⟩
    ·rw[if_neg hx] at hA
     rw[hexU_bad hA] at hdec
     subst hdec
     clear hacc ha hA
     by_cases hx2:97≤lo∧lo≤122
     ·obtain⟨hx0,hx1⟩:=hx2
      have hx3:103≤lo:=by omega
      clear hx
      have hw1:IntKind.u8.wrap (lo-97)=lo-97:=by rw[IntKind.wrap_u8];omega
      go_wp2_with (go_at_call 212;refine(HLW.out _).mono ?_;rintro e w' ⟨rfl,rfl⟩)
      all_goals
       go_ret2
       exact⟨HBL.out,_,_,by first|exact .inl rfl|exact .inr rfl,rfl⟩
     ·clear hx
      go_wp2_with (go_at_call 212;refine(HLW.out _).mono ?_;rintro e w' ⟨rfl,rfl⟩)
      all_goals
       go_ret2
       exact⟨HBL.out,_,_,by first|exact .inl rfl|exact .inr rfl,rfl⟩
  ·have hkk:k=t.size:=by omega
   subst hkk
   rw[List.drop_eq_nil_of_le (by omega)] at hdec
   have hdec2:R=some acc:=hdec.symm
   subst hdec2
   subst ha
   have HA:=Lib.hid hacc
   clear hacc a0 a1 hdec
   go_wp2
   go_ret2
   exact⟨HBL.out,HA.out,rfl⟩
theorem tail_ext (c:UInt8) (r:List UInt8) (n:Nat) (h:r.length+1≤n):(⟨⟨c::r⟩⟩:ByteArray).extract 1 n=⟨⟨r⟩⟩:=by
 have e:((⟨⟨c::r⟩⟩:ByteArray).extract 1 n).data=⟨r⟩:=by
  rw[ByteArray.data_extract]
  apply Array.toList_inj.1
  simp
  exact List.take_of_length_le (by omega)
 exact ByteArray.ext e
theorem r13_whole (s:List UInt8) (w:World) (hs:s.length≤4000000000):Calls Tryz.prog 134 #[.string ⟨⟨s⟩⟩] w fun e w'=>e= .returned (.bool (wholeR s))∧w'=w:=by
 obtain⟨R,hR⟩:∃R,wholeR s=R:=⟨_,rfl⟩
 unfold wholeR at hR
 dsimp only at hR
 rw[show wholeR s=R by unfold wholeR;exact hR]
 obtain⟨N,hN⟩:∃N,(s.head? ==some 45)=N:=⟨_,rfl⟩
 rw[hN] at hR
 obtain⟨t,ht⟩:∃t,(if N=true then s.tail else s)=t:=⟨_,rfl⟩
 rw[ht] at hR
 have HR:=Lib.hid hR
 have htl:t.length≤4000000000:=by rw[←ht];split<;>(try rw[List.length_tail])<;>omega
 clear hR
 go_enter Tryz.func134,Tryz.ntmps134
 go_upto_region 2 with fail
 go_cut [4] (fun s4 wx=>s4= .bool N∧wx=w)
 case first=>
  clear ht HR htl
  cases s with
  |nil=>
   obtain rfl:N=false:=by rw[←hN];rfl
   clear hN
   go_wp2_with fail
   go_meet
   exact⟨rfl,rfl⟩
  |cons c r=>
   by_cases hc:c=45
   ·subst hc
    obtain rfl:N=true:=by rw[←hN];rfl
    clear hN
    go_wp2_with fail
    go_meet
    exact⟨rfl,rfl⟩
   ·have hc2:((c.toNat:Int)==45)=false:=by
     simp only[beq_eq_false_iff_ne,ne_eq]
     intro h
     exact hc (UInt8.toNat_inj.1 (by show c.toNat=45;omega))
    have hc3:∀h,((((⟨⟨c::r⟩⟩:ByteArray)[0]'h).toNat:Int)==45)=false:=fun _=>hc2
    obtain rfl:N=false:=by rw[←hN];simpa using hc
    clear hN hc
    go_wp2_with fail
    go_meet
    exact⟨rfl,rfl⟩
 case rest=>
  obtain⟨rfl,rfl⟩:=hcut
  go_upto_if 14 with fail
  go_cut [3] (fun s3 wx=>s3= .string ⟨⟨t⟩⟩∧wx=wc)
  case first=>
   clear HR htl
   cases N with
   |false=>
    obtain rfl:t=s:=ht.symm
    clear hN ht
    go_wp2_with fail
    go_meet
    exact⟨rfl,rfl⟩
   |true=>
    cases s with
    |nil=>cases hN
    |cons c r=>
     obtain rfl:t=r:=ht.symm
     clear hN ht
     go_wp2_with fail
     go_meet
     exact⟨by rw[tail_ext c t _ (Nat.le_refl _)],rfl⟩
  case rest=>
   obtain⟨rfl,rfl⟩:=hcut
   clear hN ht hs
   obtain⟨T,hT⟩:∃T:ByteArray,(⟨⟨t⟩⟩:ByteArray)=T:=⟨_,rfl⟩
   have hTt:T.data.toList=t:=by rw[←hT]
   simp only[hT]
   obtain⟨L,hL⟩:∃L,T.size=L:=⟨_,rfl⟩
   have hLt:t.length=L:=by rw[←hL,←hTt];simp
   rw[hLt] at HR htl
   have HT:=Lib.hid hTt
   have HLT:=Lib.hid hLt
   clear hT hTt hLt
   go_upto_region 5 with fail
   by_cases h0:L=0
   ·have hemp:T.toList.isEmpty=true:=emptyB (decide_eq_true (hL.trans h0))
    have hr:=HR.out
    rw[if_pos (.inl h0)] at hr
    subst hr
    clear HR
    go_wp2_with fail
    go_ret
    exact⟨rfl,rfl⟩
   have hemp:T.toList.isEmpty=false:=emptyB (decide_eq_false (by omega))
   by_cases h19:19<L
   ·have hr:=HR.out
    rw[if_pos (.inr (.inl h19))] at hr
    subst hr
    clear HR
    go_wp2_with fail
    go_ret
    exact⟨rfl,rfl⟩
   have h19':L≤19:=by omega
   obtain⟨c,hc,hix⟩:=getB T 0 (by omega)
   rw[HT.out,List.drop_zero] at hc
   have hhd:t.head? =some c:=by rw[hc];rfl
   have HC:=Lib.hid hc
   clear hc
   have key:(decide (c=48)&&(decide (1<L)||N))=true→R=false:=fun h=>by
    have hr:=HR.out
    simp only[Bool.and_eq_true,Bool.or_eq_true,decide_eq_true_eq] at h
    rw[if_pos (.inr (.inr ⟨by rw[hhd,h.1],h.2⟩))] at hr
    exact hr.symm
   have key2:(decide (c=48)&&(decide (1<L)||N))=false→Hid ((if t.all digB=false then false else if L<19 then true else decide (digitsLoop t 0≤9223372036854775807)||(N&&decide (digitsLoop t 0=9223372036854775808)))=R):=fun h=>Lib.hid (by
    have hr:=HR.out
    rw[if_neg (by
     rintro(h1|h1|⟨h1,h2⟩)
     ·omega
     ·omega
     ·rw[hhd] at h1
      have e:(decide (c=48)&&(decide (1<L)||N))=true:=by
       rw[decide_eq_true (Option.some.inj h1),Bool.true_and,Bool.or_eq_true,decide_eq_true_eq]
       exact h2
      rw[e] at h
      cases h)] at hr
    exact hr)
   have hc48:((c.toNat:Int)==48)=decide (c=48):=by
    rw[Bool.eq_iff_iff]
    simp only[beq_iff_eq,decide_eq_true_eq]
    exact⟨fun h=>UInt8.toNat_inj.1 (by show c.toNat=48;omega),fun h=>by rw[h];rfl⟩
   clear HR hhd
   have HK:Hid ((decide (c=48)&&(decide (1<L)||N))=true→R=false):=Lib.hid key
   have HK2:=Lib.hid key2
   clear key key2
   generalize hB:decide (c=48)=B at hc48 HK HK2
   clear hB
   have h19b:decide (19<(L:Int))=false:=by simp;omega
   go_cut [36] (fun s36 wx=>s36= .bool (B&&(decide (1<L)||N))∧wx=wc)
   case first=>
    cases B with
    |false=>
     go_wp2_with fail
     go_meet
     exact⟨by simp,rfl⟩
    |true=>
     by_cases h1:1<L
     ·have h1b:decide (1<(L:Int))=true:=by simp;omega
      go_wp2_with fail
      go_meet
      exact⟨by simp[h1],rfl⟩
     ·have h1b:decide (1<(L:Int))=false:=by simp;omega
      go_wp2_with fail
      go_meet
      exact⟨by simp[h1],rfl⟩
   case rest=>
    obtain⟨rfl,rfl⟩:=hcut
    cases hBB:(B&&(decide (1<L)||N)) with
    |true=>
     obtain rfl:=HK.out hBB
     go_wp2_with fail
     go_ret
     exact⟨rfl,rfl⟩
    |false=>
     have HR:=HK2.out hBB
     clear HK HK2 hBB hc48 hix
     go_wp2_with fail
     go_loopw [5] (fun i wr=>∃j:Nat,j≤L∧i= .int .i64 j∧wr=wc∧Hid ((t.drop j).all digB=t.all digB)) (fun i _=>L-(intOf i).toNat)
     case atStart=>exact⟨0,by omega,rfl,rfl,rfl⟩
     case round=>
      obtain⟨j,hj,rfl,rfl,HI⟩:=hrel
      by_cases hlt:j<L
      ·obtain⟨d,hd,hix⟩:=getB T j (by omega)
       rw[HT.out] at hd
       cases hg:digB d with
       |true=>
        have hdig:48≤(d.toNat:Int)∧(d.toNat:Int)≤57:=by
         unfold digB at hg
         simp only[Bool.and_eq_true,decide_eq_true_eq] at hg
         omega
        have b1:decide ((d.toNat:Int)<48)=false:=by simp;omega
        have b2:decide (57<(d.toNat:Int))=false:=by simp;omega
        have HI2:Hid ((t.drop (j+1)).all digB=t.all digB):=Lib.hid (by rw[←HI.out,hd,List.all_cons,hg,Bool.true_and])
        clear hd hg HI hdig
        go_wp2_with fail
        go_roundw
        case rel=>exact⟨j+1,by omega,by simp,trivial,HI2⟩
        case measure=>simp[intOf];omega
       |false=>
        have hall:t.all digB=false:=by rw[←HI.out,hd,List.all_cons,hg,Bool.false_and]
        have hr:=HR.out
        rw[if_pos hall] at hr
        subst hr
        have hnd:¬(48≤d.toNat∧d.toNat≤57):=fun h=>by
         unfold digB at hg
         rw[decide_eq_true h.1,decide_eq_true h.2] at hg
         cases hg
        clear HR hd hg HI hall
        by_cases hlo:d.toNat<48
        ·have b1:decide ((d.toNat:Int)<48)=true:=by simp;omega
         go_wp2_with fail
         go_ret
         exact⟨rfl,rfl⟩
        ·have b1:decide ((d.toNat:Int)<48)=false:=by simp;omega
         have b2:decide (57<(d.toNat:Int))=true:=by simp;omega
         go_wp2_with fail
         go_ret
         exact⟨rfl,rfl⟩
      ·obtain rfl:j=L:=by omega
       have hall:t.all digB=true:=by rw[←HI.out,List.drop_of_length_le (by rw[HLT.out];exact Nat.le_refl _)];rfl
       have HR2:Hid ((if j<19 then true else decide (digitsLoop t 0≤9223372036854775807)||(N&&decide (digitsLoop t 0=9223372036854775808)))=R):=Lib.hid (by
        have hr:=HR.out
        rw[if_neg (by rw[hall];decide)] at hr
        exact hr)
       have HA:=Lib.hid hall
       clear HR HI hall
       by_cases hs:j<19
       ·have hr:=HR2.out
        rw[if_pos hs] at hr
        subst hr
        go_wp2_with fail
        go_ret
        exact⟨rfl,rfl⟩
       ·have hr:=HR2.out
        have hj19:j=19:=by omega
        have h19t:t.length=19:=HLT.out.trans hj19
        rw[if_neg hs,←leq_max h19t HA.out,←eq_min h19t HA.out] at hr
        have HR3:=Lib.hid hr
        have hTl:T.toList=t:=by rw[data_toList];exact HT.out
        rw[←hTl] at HR3
        unfold maxW minW at HR3
        clear hr HR2 hTl
        cases b1:Op.bytesLess T.toList [57,50,50,51,51,55,50,48,51,54,56,53,52,55,55,53,56,48,55]<;>cases N<;>rw[b1] at HR3
        all_goals go_wp2_with fail
        all_goals
         go_ret
         exact⟨ret_bool (by rw[←HR3.out];first|(simp;done)|(simp[*];done)|simp_all),rfl⟩
end Go.Proofs.YtagnicbknbmccaaGreatDoor
