/- guiseref13.names: so many names with a blank between, those from a place on unlike. guiseref13.text: is an instruction's text as the table says? guiseref13's stacks in memory: four rows in a box. -/
import Derived.Deep.QuietTactic
import Derived.BigQuiet
import Derived.Deep.DeepCutAuto
import Derived.Test.YtagnicbknbmccaaGreatDoorMRgF
import Derived.Test.YtagnicbknbmccaaGreatDoorMRfF
import Derived.Test.YtagnicbknbmccaaGreatDoorMCwF
import Derived.Test.YtagnicbknbmccaaGreatDoorSqC
import Derived.Test.YtagnicbknbmccaaGreatDoorMCwG
import Derived.Test.YtagnicbknbmccaaGreatDoorMCwX
import Derived.Test.YtagnicbknbmccaaGreatDoorMRfI
set_option maxRecDepth 100000
set_option maxHeartbeats 8000000
namespace Go.Proofs.YtagnicbknbmccaaGreatDoor
open Go.RowKit
theorem StrRow.up {W W':World} {A:Option Addr} {n:Nat} {l:List (List UInt8)} (h:StrRow W A n l) (hb:Below W.heap.size W W'):StrRow W' A n l:=
 ⟨h.1,fun j t hj=>by
  obtain⟨g,e,hc⟩:=h.2 j t hj
  exact⟨g,e,(hb.cell (p:=⟨g,j,none⟩) (World.block_lt_of_cell? W ⟨g,j,none⟩ hc)).trans hc⟩⟩
theorem StrRow.drewN {W:World} {A:Option Addr} {n:Nat} {l:List (List UInt8)} (h:StrRow W A n l) (k:Nat):StrRow (W.drewN k) A n l:=h.up ⟨rfl,rfl,rfl,Nat.le_refl _,fun _ _=>rfl⟩
theorem split_mem_len:∀(s t:List UInt8),t∈splitC 32 s→t.length≤s.length:=fun s t h=>by
 have h1:=split_sum 32 s
 have:∀l:List (List UInt8),t∈l→t.length+1≤(l.map fun x=>x.length+1).sum:=fun l=>by
  induction l with
  |nil=>intro h;cases h
  |cons y r ih=>
   intro h
   rw[List.map_cons,List.sum_cons]
   rcases List.mem_cons.1 h with rfl|h
   ·omega
   ·have:=ih h;omega
 have:=this _ h
 omega
theorem r13_names (s:List UInt8) (hs:s.length≤4000000000) (n:Int) (u:Nat) (_hu:u≤10) (w:World):Calls Tryz.prog 138 #[.string ⟨⟨s⟩⟩,.int .i64 n,.int .i64 u] w fun e w'=>e= .returned (.bool (namesR s n u))∧Below w.heap.size w w':=by
 obtain⟨R,hR⟩:∃R,namesR s n u=R:=⟨_,rfl⟩
 rw[hR]
 unfold namesR at hR
 by_cases h2:2000<s.length
 ·rw[decide_eq_false (by omega),Bool.false_and] at hR
  subst hR
  go_enter Tryz.func138,Tryz.ntmps138
  go_wp2_with fail
  go_ret
  exact⟨rfl,Below.refl _ _⟩
 rw[decide_eq_true (show s.length≤2000 by omega),Bool.true_and] at hR
 have HSP:=Lib.hid (r13_split s hs w)
 obtain⟨l,hl⟩:∃l,splitC 32 s=l:=⟨_,rfl⟩
 rw[hl] at hR HSP
 have hmem:Hid (∀t∈l,t.length≤2000):=Lib.hid fun t ht=>by have:=split_mem_len s t (by rw[hl];exact ht);omega
 have hll:l.length≤2001:=by have:=splitC_len 32 s;rw[hl] at this;omega
 have hsl:decide (2000<(s.length:Int))=false:=by simp;omega
 by_cases hn:(l.length:Int)=n
 ·rw[decide_eq_true hn,Bool.true_and] at hR
  have hf1:Hid (∀(i:Nat) (t:List UInt8),l[i]? =some t→nameL t=false→R=false):=Lib.hid fun i t ht hf=>by
   rw[←hR]
   cases ha:l.all nameL with
   |false=>rfl
   |true=>rw[List.all_eq_true.1 ha t (List.mem_of_getElem? ht)] at hf;cases hf
  have hf2:Hid (∀(k i:Nat) (t:List UInt8),u≤k→k<i→l[k]? =some t→l[i]? =some t→R=false):=Lib.hid fun k i t hk hki h1 h2=>by
   rw[←hR]
   cases hnd:nodup (l.drop u) with
   |false=>exact Bool.and_false _
   |true=>exact absurd rfl ((nodup_iff _).1 hnd (k-u) (i-u) t t (by omega) (by rw[List.getElem?_drop,show u+(k-u)=k by omega];exact h1) (by rw[List.getElem?_drop,show u+(i-u)=i by omega];exact h2))
  have ht0:Hid ((∀(i:Nat) (t:List UInt8),l[i]? =some t→nameL t=true∧∀(k:Nat) (r:List UInt8),u≤k→k<i→l[k]? =some r→r≠t)→R=true):=Lib.hid fun h=>by
   rw[←hR,Bool.and_eq_true]
   refine⟨List.all_eq_true.2 fun t ht=> ?_,(nodup_iff _).2 fun i j a b hij ha hb=> ?_⟩
   ·obtain⟨i,hi⟩:=List.getElem?_of_mem ht
    exact(h i t hi).1
   ·rw[List.getElem?_drop] at ha hb
    exact(h (u+j) b hb).2 (u+i) a (by omega) (by omega) ha
  subst hn
  obtain⟨N,hN⟩:∃N,l.length=N:=⟨_,rfl⟩
  rw[hN] at hll
  have HN:=Lib.hid hN
  rw[hN]
  clear hR hl hN
  go_enter Tryz.func138,Tryz.ntmps138
  go_upto_region 4 with(go_at_call 105;refine HSP.out.mono ?_;rintro e w1 ⟨A,n2,c,rfl,hb,hrow⟩)
  obtain rfl:n2=N:=hrow.1.symm.trans HN.out
  have HB:=Lib.hid hb
  have HRW:=Lib.hid hrow
  clear hb hrow HSP
  go_wp2_with fail
  go_loopw [8] (fun i wr=>∃j:Nat,i= .int .i64 j∧j≤n2∧Hid (Below w.heap.size w wr)∧Hid (StrRow wr A n2 l)∧Hid (∀(i:Nat) (t:List UInt8),i<j→l[i]? =some t→nameL t=true∧∀(k:Nat) (r:List UInt8),u≤k→k<i→l[k]? =some r→r≠t)) (fun i _=>n2-(intOf i).toNat)
  case atStart=>exact⟨0,rfl,Nat.zero_le _,HB,HRW,Lib.hid fun i t h=>by omega⟩
  case round=>
   clear HB HRW
   obtain⟨j,rfl,hj,HB,HRW,HOK⟩:=hrel
   by_cases hlt:j<n2
   ·have b1:decide ((j:Int)<(n2:Int))=true:=by simp;omega
    obtain⟨t,ht⟩:∃t,l[j]? =some t:=⟨_,List.getElem?_eq_getElem (by rw[HN.out];exact hlt)⟩
    obtain⟨g,hA,hc⟩:=HRW.out.2 j t ht
    subst hA
    have HTJ:=Lib.hid ht
    have HNM:Hid (Calls Tryz.prog 47 #[.string ⟨⟨t⟩⟩] wr fun e w'=>e= .returned (.bool (nameL t))∧Below wr.heap.size wr w'):=Lib.hid (r1_Name ⟨⟨t⟩⟩ wr (by have:=hmem.out t (List.mem_of_getElem? ht);show t.length≤_;omega))
    clear ht
    cases hnm:nameL t with
    |false=>
     obtain rfl:=hf1.out j t HTJ.out hnm
     have HF:=Lib.hid hnm
     clear hnm
     go_wp2_with (go_at_call 47;refine HNM.out.mono ?_;rintro e w2 ⟨rfl,hb⟩;rw[HF.out];have HB2:=Lib.hid (HB.out.trans (hb.mono HB.out.size));clear hb)
     go_ret
     exact⟨rfl,HB2.out⟩
    |true=>
     have HF:=Lib.hid hnm
     clear hnm
     go_upto_region 12 with(go_at_call 47;refine HNM.out.mono ?_;rintro e w2 ⟨rfl,hb⟩;rw[HF.out];have HB2:=Lib.hid (HB.out.trans (hb.mono HB.out.size));have HRW2:=Lib.hid (HRW.out.up hb);clear hb)
     clear hc HB HRW HNM
     go_wp2_with fail
     go_loopw [10] (fun k wr=>∃q:Nat,k= .int .i64 q∧u≤q∧(q≤j∨q=u)∧Hid (Below w.heap.size w wr)∧Hid (StrRow wr (some ⟨g,0,none⟩) n2 l)∧Hid (∀(k:Nat) (r:List UInt8),u≤k→k<q→l[k]? =some r→r≠t)) (fun k _=>j-(intOf k).toNat)
     case atStart=>exact⟨u,rfl,Nat.le_refl _,.inr rfl,HB2,HRW2,Lib.hid fun k r h1 h2=>by omega⟩
     case round=>
      clear HB2 HRW2
      obtain⟨q,rfl,huq,hqj,HB,HRW,HQ⟩:=hrel
      by_cases hq:q<j
      ·have b2:decide ((q:Int)<(j:Int))=true:=by simp;omega
       obtain⟨r,hr⟩:∃r,l[q]? =some r:=⟨_,List.getElem?_eq_getElem (by rw[HN.out];omega)⟩
       obtain⟨g',hg',c1⟩:=HRW.out.2 q r hr
       obtain⟨g2,hg2,c2⟩:=HRW.out.2 j t HTJ.out
       injection hg' with hg'
       injection hg' with hg'
       injection hg2 with hg2
       injection hg2 with hg2
       subst hg' hg2
       have hqn:q<n2:=by omega
       have HRQ:=Lib.hid hr
       have HBk:Hid (∀k,Below w.heap.size w (wr.drewN k)):=Lib.hid fun k=>⟨HB.out.os,HB.out.tape,HB.out.output,HB.out.size,HB.out.block⟩
       have HRk:Hid (∀k,StrRow (wr.drewN k) (some ⟨g,0,none⟩) n2 l):=Lib.hid fun k=>HRW.out.drewN k
       clear hr HB HRW
       by_cases hrt:r=t
       ·obtain rfl:=hf2.out q j t huq hq (by rw[HRQ.out,hrt]) HTJ.out
        subst hrt
        go_upto_region 15 with fail
        go_quiet (fail)
        go_wp2_with fail
        go_ret
        exact⟨rfl,HBk.out _⟩
       ·have he:(r==t)=false:=by simpa using hrt
        have HQ2:Hid (∀(k:Nat) (r:List UInt8),u≤k→k<q+1→l[k]? =some r→r≠t):=Lib.hid fun k r' h1 h2 h3=>by
         by_cases hkq:k=q
         ·subst hkq
          rw[HRQ.out] at h3
          obtain rfl:=Option.some.inj h3
          exact hrt
         ·exact HQ.out k r' h1 (by omega) h3
        have HRT:=Lib.hid hrt
        clear hrt HQ
        go_upto_region 15 with fail
        go_quiet (fail)
        go_wp2_with fail
        go_roundw
        case rel=>exact⟨q+1,by simp,by omega,by omega,HBk.out _,HRk.out _,HQ2⟩
        case measure=>simp[intOf];omega
      ·have b2:decide ((q:Int)<(j:Int))=false:=by simp;omega
       have HOK2:Hid (∀(i:Nat) (t:List UInt8),i<j+1→l[i]? =some t→nameL t=true∧∀(k:Nat) (r:List UInt8),u≤k→k<i→l[k]? =some r→r≠t):=Lib.hid fun i t' h1 h2=>by
        by_cases hij:i=j
        ·subst hij
         rw[HTJ.out] at h2
         obtain rfl:=Option.some.inj h2
         exact⟨HF.out,fun k r h3 h4 h5=>HQ.out k r h3 (by omega) h5⟩
        ·exact HOK.out i t' (by omega) h2
       clear HOK HQ
       go_wp2_with fail
       go_roundw
       case rel=>exact⟨j+1,by simp,by omega,HB,HRW,HOK2⟩
       case measure=>simp[intOf];omega
   ·obtain rfl:j=n2:=by omega
    have b1:decide ((j:Int)<(j:Int))=false:=by simp
    have hRt:=ht0.out fun i t hi=>HOK.out i t (by have:=(List.getElem?_eq_some_iff.1 hi).1;rw[HN.out] at this;exact this) hi
    subst hRt
    go_wp2_with fail
    go_ret
    exact⟨rfl,HB.out⟩
 ·rw[decide_eq_false hn,Bool.false_and] at hR
  subst hR
  obtain⟨N,hN⟩:∃N,l.length=N:=⟨_,rfl⟩
  rw[hN] at hn
  have HN:=Lib.hid hN
  have b1:((N:Int) !=n)=true:=by simp;omega
  clear hl hN
  go_enter Tryz.func138,Tryz.ntmps138
  go_wp2_with (go_at_call 105;refine HSP.out.mono ?_;rintro e w1 ⟨A,n2,c,rfl,hb,hrow⟩;obtain rfl:n2=N:=hrow.1.symm.trans HN.out)
  go_ret
  exact⟨rfl,hb⟩
theorem row_new (W:World) (ts:List (List UInt8)) (cs:Array Value) (h:cs=(ts.map fun t=>Value.string ⟨⟨t⟩⟩).toArray):∀(j:Nat) (x:ByteArray),(ts.map fun t=>(⟨⟨t⟩⟩:ByteArray))[j]? =some x→(W.alloc (.cells cs 9 (0,0))).cell? ⟨W.heap.size,j,none⟩=some (.string x):=by
 intro j x hj
 rw[cell_of_row _ _ j _ _ _ (heap_alloc_new _ _),h]
 rw[List.getElem?_map] at hj
 simp only[List.getElem?_toArray,List.getElem?_map]
 cases ht:ts[j]? with
 |none=>rw[ht] at hj;cases hj
 |some t=>rw[ht] at hj;exact congrArg some (congrArg Value.string (Option.some.inj hj))
theorem row_newb {W:World} {b:Nat} (hb:W.heap.size=b) (ts:List (List UInt8)) (cs:Array Value) (h:cs=(ts.map fun t=>Value.string ⟨⟨t⟩⟩).toArray):∀(j:Nat) (x:ByteArray),(ts.map fun t=>(⟨⟨t⟩⟩:ByteArray))[j]? =some x→(W.alloc (.cells cs 9 (0,0))).cell? ⟨b,j,none⟩=some (.string x):=by
 subst hb
 exact row_new W ts cs h
theorem hasS_w (ts:List (List UInt8)) (s:List UInt8):hasS (ts.map fun t=>(⟨⟨t⟩⟩:ByteArray)) ⟨⟨s⟩⟩=ts.any (·==s):=by
 unfold hasS
 rw[List.any_map]
 congr 1
 funext t
 show((⟨⟨t⟩⟩:ByteArray).toList==(⟨⟨s⟩⟩:ByteArray).toList)=_
 rw[data_toList,data_toList]
theorem r13_inW {W:World} {b:Nat} {ts:List (List UInt8)} (s:List UInt8) (n c:Nat) (hn:ts.length=n) (hn2:n≤1000000) (hc:∀(j:Nat) (x:ByteArray),(ts.map fun t=>(⟨⟨t⟩⟩:ByteArray))[j]? =some x→W.cell? ⟨b,j,none⟩=some (.string x)):
  Calls Tryz.prog 137 #[.string ⟨⟨s⟩⟩,.slice (some ⟨b,0,none⟩) n c] W fun e w'=>e= .returned (.bool (ts.any (·==s)))∧w'=W:=by
 have:=r13_in (n:=n) hc (by rw[List.length_map];exact hn) hn2 ⟨⟨s⟩⟩ c
 rwa [hasS_w] at this
theorem r13_builts (w:World):Calls Tryz.prog 139 #[] w fun e w'=>e= .returned (.slice (some ⟨w.heap.size,0,none⟩) 11 11)∧Below w.heap.size w w'∧∀(j:Nat) (x:ByteArray),(builtW.map fun t=>(⟨⟨t⟩⟩:ByteArray))[j]? =some x→w'.cell? ⟨w.heap.size,j,none⟩=some (.string x):=by
 go_enter Tryz.func139,Tryz.ntmps139
 go_wp2_with fail
 go_ret
 exact⟨rfl,(Below.refl _ _).alloc (Nat.le_refl _) _,row_new w builtW _ (by rfl)⟩
def TxtPost (op a b q:Int) (s:List UInt8) (w:World) (e:Ending) (w':World):Prop:=e= .returned (.bool (textR ⟨op,a,b,⟨⟨s⟩⟩,q⟩))∧Below w.heap.size w w'
section
variable (a b q:Int) (s:List UInt8) (w:World)
theorem txt_3 (hs:s.length≤4000000000):Calls Tryz.prog 96 #[.agg #[.int .i64 3,.int .i64 a,.int .i64 b,.string ⟨⟨s⟩⟩,.int .i64 q]] w (TxtPost 3 a b q s w):=by
 have HR:Hid (textR ⟨3,a,b,⟨⟨s⟩⟩,q⟩=wholeR s):=Lib.hid (by first|rfl|(unfold textR;simp[*]))
 unfold TxtPost
 rw[HR.out]
 clear HR
 go_enter Tryz.func96,Tryz.ntmps96
 go_wp2_with (go_at_call 134;refine(r13_whole s _ hs).mono ?_;rintro e w1 ⟨rfl,rfl⟩)
 go_ret
 exact⟨rfl,((Below.refl _ _).alloc (Nat.le_refl _) _)⟩
theorem txt_4 (hs:s.length≤4000000000):Calls Tryz.prog 96 #[.agg #[.int .i64 4,.int .i64 a,.int .i64 b,.string ⟨⟨s⟩⟩,.int .i64 q]] w (TxtPost 4 a b q s w):=by
 have HR:Hid (textR ⟨4,a,b,⟨⟨s⟩⟩,q⟩=floatR s):=Lib.hid (by first|rfl|(unfold textR;simp[*]))
 unfold TxtPost
 rw[HR.out]
 clear HR
 go_enter Tryz.func96,Tryz.ntmps96
 go_wp2_with (go_at_call 135;refine(r13_float s _ hs).mono ?_;rintro e w1 ⟨rfl,rfl⟩)
 go_ret
 exact⟨rfl,((Below.refl _ _).alloc (Nat.le_refl _) _)⟩
theorem txt_5 (hs:s.length≤4000000000):Calls Tryz.prog 96 #[.agg #[.int .i64 5,.int .i64 a,.int .i64 b,.string ⟨⟨s⟩⟩,.int .i64 q]] w (TxtPost 5 a b q s w):=by
 have HR:Hid (textR ⟨5,a,b,⟨⟨s⟩⟩,q⟩=decide (s.length≤65536)):=Lib.hid (by first|rfl|(unfold textR;simp[*]))
 unfold TxtPost
 rw[HR.out]
 clear HR
 go_enter Tryz.func96,Tryz.ntmps96
 go_wp2_with fail
 go_ret
 exact⟨ret_bool (by rw[Bool.eq_iff_iff];simp;omega),((Below.refl _ _).alloc (Nat.le_refl _) _)⟩
theorem txt_8 (hs:s.length≤4000000000):Calls Tryz.prog 96 #[.agg #[.int .i64 8,.int .i64 a,.int .i64 b,.string ⟨⟨s⟩⟩,.int .i64 q]] w (TxtPost 8 a b q s w):=by
 have HR:Hid (textR ⟨8,a,b,⟨⟨s⟩⟩,q⟩=someR s a false):=Lib.hid (by first|rfl|(unfold textR;simp[*]))
 unfold TxtPost
 rw[HR.out]
 clear HR
 go_enter Tryz.func96,Tryz.ntmps96
 go_wp2_with (go_at_call 136;refine(r13_some s a false _ hs).mono ?_;rintro e w1 ⟨rfl,hb⟩)
 go_ret
 exact⟨rfl,((Below.refl _ _).alloc (Nat.le_refl _) _).trans (hb.mono (by simp))⟩
theorem txt_21 (hs:s.length≤4000000000):Calls Tryz.prog 96 #[.agg #[.int .i64 21,.int .i64 a,.int .i64 b,.string ⟨⟨s⟩⟩,.int .i64 q]] w (TxtPost 21 a b q s w):=by
 have HR:Hid (textR ⟨21,a,b,⟨⟨s⟩⟩,q⟩=someR s 0 false):=Lib.hid (by first|rfl|(unfold textR;simp[*]))
 unfold TxtPost
 rw[HR.out]
 clear HR
 go_enter Tryz.func96,Tryz.ntmps96
 go_wp2_with (go_at_call 136;refine(r13_some s 0 false _ hs).mono ?_;rintro e w1 ⟨rfl,hb⟩)
 go_ret
 exact⟨rfl,((Below.refl _ _).alloc (Nat.le_refl _) _).trans (hb.mono (by simp))⟩
theorem txt_32 (hs:s.length≤4000000000):Calls Tryz.prog 96 #[.agg #[.int .i64 32,.int .i64 a,.int .i64 b,.string ⟨⟨s⟩⟩,.int .i64 q]] w (TxtPost 32 a b q s w):=by
 have HR:Hid (textR ⟨32,a,b,⟨⟨s⟩⟩,q⟩=someR s a true):=Lib.hid (by first|rfl|(unfold textR;simp[*]))
 unfold TxtPost
 rw[HR.out]
 clear HR
 go_enter Tryz.func96,Tryz.ntmps96
 go_wp2_with (go_at_call 136;refine(r13_some s a true _ hs).mono ?_;rintro e w1 ⟨rfl,hb⟩)
 go_ret
 exact⟨rfl,((Below.refl _ _).alloc (Nat.le_refl _) _).trans (hb.mono (by simp))⟩
theorem txt_33b (hs:s.length≤4000000000) (h2:(a==2)=false):Calls Tryz.prog 96 #[.agg #[.int .i64 33,.int .i64 a,.int .i64 b,.string ⟨⟨s⟩⟩,.int .i64 q]] w (TxtPost 33 a b q s w):=by
 have HR:Hid (textR ⟨33,a,b,⟨⟨s⟩⟩,q⟩=someR s a true):=Lib.hid (by have h:¬a=2:=(by simpa using h2);unfold textR;dsimp only;simp only[if_neg h];rfl)
 unfold TxtPost
 rw[HR.out]
 clear HR
 go_enter Tryz.func96,Tryz.ntmps96
 go_wp2_with (go_at_call 136;refine(r13_some s a true _ hs).mono ?_;rintro e w1 ⟨rfl,hb⟩)
 go_ret
 exact⟨rfl,((Below.refl _ _).alloc (Nat.le_refl _) _).trans (hb.mono (by simp))⟩
theorem txt_22 (hs:s.length≤4000000000):Calls Tryz.prog 96 #[.agg #[.int .i64 22,.int .i64 a,.int .i64 b,.string ⟨⟨s⟩⟩,.int .i64 q]] w (TxtPost 22 a b q s w):=by
 have HR:Hid (textR ⟨22,a,b,⟨⟨s⟩⟩,q⟩=nameL s):=Lib.hid (by first|rfl|(unfold textR;simp[*]))
 unfold TxtPost
 rw[HR.out]
 clear HR
 go_enter Tryz.func96,Tryz.ntmps96
 go_wp2_with (go_at_call 47;refine(r1_Name ⟨⟨s⟩⟩ _ (by show s.length≤_;omega)).mono ?_;rintro e w1 ⟨rfl,hb⟩)
 go_ret
 exact⟨rfl,((Below.refl _ _).alloc (Nat.le_refl _) _).trans (hb.mono (by simp))⟩
theorem txt_43 (hs:s.length≤4000000000):Calls Tryz.prog 96 #[.agg #[.int .i64 43,.int .i64 a,.int .i64 b,.string ⟨⟨s⟩⟩,.int .i64 q]] w (TxtPost 43 a b q s w):=by
 have HR:Hid (textR ⟨43,a,b,⟨⟨s⟩⟩,q⟩=nameL s):=Lib.hid (by first|rfl|(unfold textR;simp[*]))
 unfold TxtPost
 rw[HR.out]
 clear HR
 go_enter Tryz.func96,Tryz.ntmps96
 go_wp2_with (go_at_call 47;refine(r1_Name ⟨⟨s⟩⟩ _ (by show s.length≤_;omega)).mono ?_;rintro e w1 ⟨rfl,hb⟩)
 go_ret
 exact⟨rfl,((Below.refl _ _).alloc (Nat.le_refl _) _).trans (hb.mono (by simp))⟩
theorem txt_23 (hs:s.length≤4000000000):Calls Tryz.prog 96 #[.agg #[.int .i64 23,.int .i64 a,.int .i64 b,.string ⟨⟨s⟩⟩,.int .i64 q]] w (TxtPost 23 a b q s w):=by
 have HR:Hid (textR ⟨23,a,b,⟨⟨s⟩⟩,q⟩=namesR s 2 2):=Lib.hid (by first|rfl|(unfold textR;simp[*]))
 unfold TxtPost
 rw[HR.out]
 clear HR
 go_enter Tryz.func96,Tryz.ntmps96
 go_wp2_with (go_at_call 138;refine(r13_names s hs 2 2 (by decide) _).mono ?_;rintro e w1 ⟨rfl,hb⟩)
 go_ret
 exact⟨rfl,((Below.refl _ _).alloc (Nat.le_refl _) _).trans (hb.mono (by simp))⟩
theorem txt_29 (hs:s.length≤4000000000) (h29:0≤a∧a≤1000):Calls Tryz.prog 96 #[.agg #[.int .i64 29,.int .i64 a,.int .i64 b,.string ⟨⟨s⟩⟩,.int .i64 q]] w (TxtPost 29 a b q s w):=by
 have HR:Hid (textR ⟨29,a,b,⟨⟨s⟩⟩,q⟩=namesR s (a+1) 1):=Lib.hid (by first|rfl|(unfold textR;simp[*]))
 unfold TxtPost
 rw[HR.out]
 clear HR
 have hw1:IntKind.i64.wrap (a+1)=a+1:=by rw[IntKind.wrap_i64];omega
 go_enter Tryz.func96,Tryz.ntmps96
 go_wp2_with (go_at_call 138;refine(r13_names s hs (a+1) 1 (by decide) _).mono ?_;rintro e w1 ⟨rfl,hb⟩)
 go_ret
 exact⟨rfl,((Below.refl _ _).alloc (Nat.le_refl _) _).trans (hb.mono (by simp))⟩
theorem txt_18:Calls Tryz.prog 96 #[.agg #[.int .i64 18,.int .i64 a,.int .i64 b,.string ⟨⟨s⟩⟩,.int .i64 q]] w (TxtPost 18 a b q s w):=by
 have HR:Hid (textR ⟨18,a,b,⟨⟨s⟩⟩,q⟩=unaryW.any (·==s)):=Lib.hid (by first|rfl|(unfold textR;simp[*]))
 unfold TxtPost
 rw[HR.out]
 clear HR
 go_enter Tryz.func96,Tryz.ntmps96
 go_wp2_with (go_at_call 137;refine(r13_inW (ts:=unaryW) s 6 6 (by rfl) (by decide) (row_newb (by simp) unaryW _ (by kernel_rfl))).mono ?_;rintro e w1 ⟨rfl,rfl⟩)
 go_ret
 exact⟨rfl,((Below.refl _ _).alloc (Nat.le_refl _) _).alloc (by simp) _⟩
theorem txt_19:Calls Tryz.prog 96 #[.agg #[.int .i64 19,.int .i64 a,.int .i64 b,.string ⟨⟨s⟩⟩,.int .i64 q]] w (TxtPost 19 a b q s w):=by
 have HR:Hid (textR ⟨19,a,b,⟨⟨s⟩⟩,q⟩=binaryW.any (·==s)):=Lib.hid (by first|rfl|(unfold textR;simp[*]))
 unfold TxtPost
 rw[HR.out]
 clear HR
 go_enter Tryz.func96,Tryz.ntmps96
 go_wp2_with (go_at_call 137;refine(r13_inW (ts:=binaryW) s 16 16 (by rfl) (by decide) (row_newb (by simp) binaryW _ (by kernel_rfl))).mono ?_;rintro e w1 ⟨rfl,rfl⟩)
 go_ret
 exact⟨rfl,((Below.refl _ _).alloc (Nat.le_refl _) _).alloc (by simp) _⟩
theorem txt_20:Calls Tryz.prog 96 #[.agg #[.int .i64 20,.int .i64 a,.int .i64 b,.string ⟨⟨s⟩⟩,.int .i64 q]] w (TxtPost 20 a b q s w):=by
 have HR:Hid (textR ⟨20,a,b,⟨⟨s⟩⟩,q⟩=(s==[38,38]||s==[124,124])):=Lib.hid (by first|rfl|(unfold textR;simp[*]))
 unfold TxtPost
 rw[HR.out]
 clear HR
 cases e1:(s==[38,38])
 ·cases e2:(s==[124,124])
  all_goals
   go_enter Tryz.func96,Tryz.ntmps96
   go_wp2_with fail
   go_ret
   exact⟨ret_bool (by first|rfl|simp_all),((Below.refl _ _).alloc (Nat.le_refl _) _)⟩
 ·go_enter Tryz.func96,Tryz.ntmps96
  go_wp2_with fail
  go_ret
  exact⟨ret_bool (by first|rfl|simp_all),((Below.refl _ _).alloc (Nat.le_refl _) _)⟩
theorem txt_33a (h2:(a==2)=true):Calls Tryz.prog 96 #[.agg #[.int .i64 33,.int .i64 a,.int .i64 b,.string ⟨⟨s⟩⟩,.int .i64 q]] w (TxtPost 33 a b q s w):=by
 have HR:Hid (textR ⟨33,a,b,⟨⟨s⟩⟩,q⟩=(s==[])):=Lib.hid (by have h:a=2:=(by simpa using h2);subst h;rfl)
 unfold TxtPost
 rw[HR.out]
 clear HR
 obtain rfl:a=2:=by simpa using h2
 clear h2
 cases e1:(s==[])
 all_goals
  go_enter Tryz.func96,Tryz.ntmps96
  go_wp2_with fail
  go_ret
  exact⟨ret_bool (by first|rfl|simp_all),((Below.refl _ _).alloc (Nat.le_refl _) _)⟩
theorem txt_no {op:Int} (h3:(op==3)=false) (h4:(op==4)=false) (h5:(op==5)=false) (h8:(op==8)=false) (h18:(op==18)=false) (h19:(op==19)=false) (h20:(op==20)=false) (h21:(op==21)=false) (h22:(op==22)=false) (h43:(op==43)=false) (h23:(op==23)=false) (h29:(op==29)=false) (h32:(op==32)=false) (h33:(op==33)=false) (h47:(op==47)=false) (h49:(op==49)=false):Calls Tryz.prog 96 #[.agg #[.int .i64 op,.int .i64 a,.int .i64 b,.string ⟨⟨s⟩⟩,.int .i64 q]] w (TxtPost op a b q s w):=by
 have HR:Hid (textR ⟨op,a,b,⟨⟨s⟩⟩,q⟩=(s==[])):=Lib.hid (by have g3:¬op=3:=(by simpa using h3);have g4:¬op=4:=(by simpa using h4);have g5:¬op=5:=(by simpa using h5);have g8:¬op=8:=(by simpa using h8);have g18:¬op=18:=(by simpa using h18);have g19:¬op=19:=(by simpa using h19);have g20:¬op=20:=(by simpa using h20);have g21:¬op=21:=(by simpa using h21);have g22:¬op=22:=(by simpa using h22);have g43:¬op=43:=(by simpa using h43);have g23:¬op=23:=(by simpa using h23);have g29:¬op=29:=(by simpa using h29);have g32:¬op=32:=(by simpa using h32);have g33:¬op=33:=(by simpa using h33);have g47:¬op=47:=(by simpa using h47);have g49:¬op=49:=(by simpa using h49);unfold textR;dsimp only;rw[if_neg g3,if_neg g4,if_neg g5,if_neg g8,if_neg g18,if_neg g19,if_neg g20,if_neg g21,if_neg (by omega),if_neg g23,if_neg g29,if_neg g32,if_neg g33,if_neg (by omega)])
 unfold TxtPost
 rw[HR.out]
 clear HR
 cases e1:(s==[])
 all_goals
  go_enter Tryz.func96,Tryz.ntmps96
  go_wp2_with fail
  go_ret
  exact⟨ret_bool (by first|rfl|simp_all),((Below.refl _ _).alloc (Nat.le_refl _) _)⟩
theorem txt_47:Calls Tryz.prog 96 #[.agg #[.int .i64 47,.int .i64 a,.int .i64 b,.string ⟨⟨s⟩⟩,.int .i64 q]] w (TxtPost 47 a b q s w):=by
 have HR:Hid (textR ⟨47,a,b,⟨⟨s⟩⟩,q⟩=builtW.any (·==s)):=Lib.hid (by first|rfl|(unfold textR;simp[*]))
 unfold TxtPost
 rw[HR.out]
 clear HR
 go_enter Tryz.func96,Tryz.ntmps96
 go_upto_region 34 with fail
 obtain⟨bb,hbb⟩:∃bb,w.heap.size=bb:=⟨_,rfl⟩
 have hx:=heap_alloc_new w (.cells #[.int .i64 47,.int .i64 a,.int .i64 b,.string ⟨⟨s⟩⟩,.int .i64 q] 36 (0,0))
 have hB:Below w.heap.size w (w.alloc (.cells #[.int .i64 47,.int .i64 a,.int .i64 b,.string ⟨⟨s⟩⟩,.int .i64 q] 36 (0,0))):=(Below.refl _ _).alloc (Nat.le_refl _) _
 obtain⟨W1,hW1⟩:∃W1,w.alloc (.cells #[.int .i64 47,.int .i64 a,.int .i64 b,.string ⟨⟨s⟩⟩,.int .i64 q] 36 (0,0))=W1:=⟨_,rfl⟩
 simp only[hbb,hW1] at hx hB⊢
 have HBB:=Lib.hid hbb
 have HB:Hid (Below bb w W1.drew):=Lib.hid ⟨hB.os,hB.tape,hB.output,hB.size,hB.block⟩
 have y3:W1.drew.cell? ⟨bb,3,none⟩=some (.string ⟨⟨s⟩⟩):=(cell_of_row W1 bb 3 _ _ _ hx).trans rfl
 have hlt:bb<W1.drew.heap.size:=(Array.getElem?_eq_some_iff.1 hx).1
 clear hbb hx hB hW1
 refine wp_region_G [3] (fun u=>u.cell? ⟨bb,3,none⟩=some (.string ⟨⟨s⟩⟩)) (by rfl) ?_ (fun hHeld=> ?_)
 ·exact y3
 generalize hwd:World.drew W1=wd at HB y3 hlt hHeld⊢
 refine rd2 0 2 (fun KK hKK=> ?_) fun KK hKK=> ?_
 ·go_simp
  refine hKK.out _ _ (y3) (fun hHeld=> ?_)
  clear hKK KK
  try simp only[nmC]
  refine tk 1 (h:= ?_)
  try simp only[nmC]
  refine rd1 2 fun KK hKK=> ?_
  go_simp
  go_at_call 139
  refine(r13_builts _).mono ?_
  rintro e w1 ⟨rfl,hb,hc⟩
  have y3:w1.cell? ⟨bb,3,none⟩=some (.string ⟨⟨s⟩⟩):=(hb.cell (p:=⟨bb,3,none⟩) hlt).trans y3
  have HC:=Lib.hid hc
  have HB2:=Lib.hid (HB.out.trans (hb.mono (by rw[←HBB.out];exact HB.out.size)))
  clear hc hb
  refine hKK.out _ _ (y3) (fun hHeld=> ?_)
  clear hKK KK
  try simp only[nmC]
  refine rl1 3 fun KK hKK=> ?_
  go_simp
  go_at_call 137
  refine(r13_inW (ts:=builtW) s 11 11 (by rfl) (by decide) HC.out).mono ?_
  rintro e w2 ⟨rfl,rfl⟩
  refine hKK.out _ _ ?_
  clear hKK KK
  try simp only[nmC]
  refine tq 4 (h:= ?_)
  try simp only[nmC]
  refine wpAny_done (by kernel_rfl) ?_ _
  go_wp2_with fail
  go_ret
  exact⟨rfl,by rw[HBB.out];exact HB2.out⟩
 ·go_simp
  go_at_call 139
  refine(r13_builts _).mono ?_
  rintro e w1 ⟨rfl,hb,hc⟩
  have y3:w1.cell? ⟨bb,3,none⟩=some (.string ⟨⟨s⟩⟩):=(hb.cell (p:=⟨bb,3,none⟩) hlt).trans y3
  have HC:=Lib.hid hc
  have HB2:=Lib.hid (HB.out.trans (hb.mono (by rw[←HBB.out];exact HB.out.size)))
  clear hc hb
  refine hKK.out _ _ (y3) (fun hHeld=> ?_)
  clear hKK KK
  try simp only[nmC]
  refine rd1 0 fun KK hKK=> ?_
  go_simp
  refine hKK.out _ _ (y3) (fun hHeld=> ?_)
  clear hKK KK
  try simp only[nmC]
  refine tk 1 (h:= ?_)
  try simp only[nmC]
  refine rl1 3 fun KK hKK=> ?_
  go_simp
  go_at_call 137
  refine(r13_inW (ts:=builtW) s 11 11 (by rfl) (by decide) HC.out).mono ?_
  rintro e w2 ⟨rfl,rfl⟩
  refine hKK.out _ _ ?_
  clear hKK KK
  try simp only[nmC]
  refine tq 4 (h:= ?_)
  try simp only[nmC]
  refine wpAny_done (by kernel_rfl) ?_ _
  go_wp2_with fail
  go_ret
  exact⟨rfl,by rw[HBB.out];exact HB2.out⟩
theorem txt_49:Calls Tryz.prog 96 #[.agg #[.int .i64 49,.int .i64 a,.int .i64 b,.string ⟨⟨s⟩⟩,.int .i64 q]] w (TxtPost 49 a b q s w):=by
 have HR:Hid (textR ⟨49,a,b,⟨⟨s⟩⟩,q⟩=builtW.any (·==s)):=Lib.hid (by first|rfl|(unfold textR;simp[*]))
 unfold TxtPost
 rw[HR.out]
 clear HR
 go_enter Tryz.func96,Tryz.ntmps96
 go_upto_region 34 with fail
 obtain⟨bb,hbb⟩:∃bb,w.heap.size=bb:=⟨_,rfl⟩
 have hx:=heap_alloc_new w (.cells #[.int .i64 49,.int .i64 a,.int .i64 b,.string ⟨⟨s⟩⟩,.int .i64 q] 36 (0,0))
 have hB:Below w.heap.size w (w.alloc (.cells #[.int .i64 49,.int .i64 a,.int .i64 b,.string ⟨⟨s⟩⟩,.int .i64 q] 36 (0,0))):=(Below.refl _ _).alloc (Nat.le_refl _) _
 obtain⟨W1,hW1⟩:∃W1,w.alloc (.cells #[.int .i64 49,.int .i64 a,.int .i64 b,.string ⟨⟨s⟩⟩,.int .i64 q] 36 (0,0))=W1:=⟨_,rfl⟩
 simp only[hbb,hW1] at hx hB⊢
 have HBB:=Lib.hid hbb
 have HB:Hid (Below bb w W1.drew):=Lib.hid ⟨hB.os,hB.tape,hB.output,hB.size,hB.block⟩
 have y3:W1.drew.cell? ⟨bb,3,none⟩=some (.string ⟨⟨s⟩⟩):=(cell_of_row W1 bb 3 _ _ _ hx).trans rfl
 have hlt:bb<W1.drew.heap.size:=(Array.getElem?_eq_some_iff.1 hx).1
 clear hbb hx hB hW1
 refine wp_region_G [3] (fun u=>u.cell? ⟨bb,3,none⟩=some (.string ⟨⟨s⟩⟩)) (by rfl) ?_ (fun hHeld=> ?_)
 ·exact y3
 generalize hwd:World.drew W1=wd at HB y3 hlt hHeld⊢
 refine rd2 0 2 (fun KK hKK=> ?_) fun KK hKK=> ?_
 ·go_simp
  refine hKK.out _ _ (y3) (fun hHeld=> ?_)
  clear hKK KK
  try simp only[nmC]
  refine tk 1 (h:= ?_)
  try simp only[nmC]
  refine rd1 2 fun KK hKK=> ?_
  go_simp
  go_at_call 139
  refine(r13_builts _).mono ?_
  rintro e w1 ⟨rfl,hb,hc⟩
  have y3:w1.cell? ⟨bb,3,none⟩=some (.string ⟨⟨s⟩⟩):=(hb.cell (p:=⟨bb,3,none⟩) hlt).trans y3
  have HC:=Lib.hid hc
  have HB2:=Lib.hid (HB.out.trans (hb.mono (by rw[←HBB.out];exact HB.out.size)))
  clear hc hb
  refine hKK.out _ _ (y3) (fun hHeld=> ?_)
  clear hKK KK
  try simp only[nmC]
  refine rl1 3 fun KK hKK=> ?_
  go_simp
  go_at_call 137
  refine(r13_inW (ts:=builtW) s 11 11 (by rfl) (by decide) HC.out).mono ?_
  rintro e w2 ⟨rfl,rfl⟩
  refine hKK.out _ _ ?_
  clear hKK KK
  try simp only[nmC]
  refine tq 4 (h:= ?_)
  try simp only[nmC]
  refine wpAny_done (by kernel_rfl) ?_ _
  go_wp2_with fail
  go_ret
  exact⟨rfl,by rw[HBB.out];exact HB2.out⟩
 ·go_simp
  go_at_call 139
  refine(r13_builts _).mono ?_
  rintro e w1 ⟨rfl,hb,hc⟩
  have y3:w1.cell? ⟨bb,3,none⟩=some (.string ⟨⟨s⟩⟩):=(hb.cell (p:=⟨bb,3,none⟩) hlt).trans y3
  have HC:=Lib.hid hc
  have HB2:=Lib.hid (HB.out.trans (hb.mono (by rw[←HBB.out];exact HB.out.size)))
  clear hc hb
  refine hKK.out _ _ (y3) (fun hHeld=> ?_)
  clear hKK KK
  try simp only[nmC]
  refine rd1 0 fun KK hKK=> ?_
  go_simp
  refine hKK.out _ _ (y3) (fun hHeld=> ?_)
  clear hKK KK
  try simp only[nmC]
  refine tk 1 (h:= ?_)
  try simp only[nmC]
  refine rl1 3 fun KK hKK=> ?_
  go_simp
  go_at_call 137
  refine(r13_inW (ts:=builtW) s 11 11 (by rfl) (by decide) HC.out).mono ?_
  rintro e w2 ⟨rfl,rfl⟩
  refine hKK.out _ _ ?_
  clear hKK KK
  try simp only[nmC]
  refine tq 4 (h:= ?_)
  try simp only[nmC]
  refine wpAny_done (by kernel_rfl) ?_ _
  go_wp2_with fail
  go_ret
  exact⟨rfl,by rw[HBB.out];exact HB2.out⟩
end
theorem r13_text (a b q:Int) (s:List UInt8) (hs:s.length≤4000000000) (w:World) (op:Int) (h29:op=29→0≤a∧a≤1000):Calls Tryz.prog 96 #[.agg #[.int .i64 op,.int .i64 a,.int .i64 b,.string ⟨⟨s⟩⟩,.int .i64 q]] w (TxtPost op a b q s w):=by
 by_cases h3:op=3
 ·subst h3
  exact txt_3 a b q s w hs
 by_cases h4:op=4
 ·subst h4
  exact txt_4 a b q s w hs
 by_cases h5:op=5
 ·subst h5
  exact txt_5 a b q s w hs
 by_cases h8:op=8
 ·subst h8
  exact txt_8 a b q s w hs
 by_cases h18:op=18
 ·subst h18
  exact txt_18 a b q s w
 by_cases h19:op=19
 ·subst h19
  exact txt_19 a b q s w
 by_cases h20:op=20
 ·subst h20
  exact txt_20 a b q s w
 by_cases h21:op=21
 ·subst h21
  exact txt_21 a b q s w hs
 by_cases h22:op=22
 ·subst h22
  exact txt_22 a b q s w hs
 by_cases h43:op=43
 ·subst h43
  exact txt_43 a b q s w hs
 by_cases h23:op=23
 ·subst h23
  exact txt_23 a b q s w hs
 by_cases h29:op=29
 ·subst h29
  exact txt_29 a b q s w hs (h29 rfl)
 by_cases h32:op=32
 ·subst h32
  exact txt_32 a b q s w hs
 by_cases h33:op=33
 ·subst h33
  cases h2:(a==2) with
  |true=>exact txt_33a a b q s w h2
  |false=>exact txt_33b a b q s w hs h2
 by_cases h47:op=47
 ·subst h47
  exact txt_47 a b q s w
 by_cases h49:op=49
 ·subst h49
  exact txt_49 a b q s w
 exact txt_no a b q s w (by simpa using h3) (by simpa using h4) (by simpa using h5) (by simpa using h8) (by simpa using h18) (by simpa using h19) (by simpa using h20) (by simpa using h21) (by simpa using h22) (by simpa using h43) (by simpa using h23) (by simpa using h29) (by simpa using h32) (by simpa using h33) (by simpa using h47) (by simpa using h49)
def intsV (l:List Int):List Value:=l.map (Value.int .i64)
structure StR (lo:Nat) (w W:World) (sb g0 g1 g2 g3 c0 c1 c2 c3 n0 n1 n2 n3:Nat) (tops bel hig abv:List Int):Prop where
 low:Below lo w W
 los:lo≤sb
 box:W.heap[sb]? =some (.cells #[.slice (some ⟨g0,0,none⟩) n0 c0,.slice (some ⟨g1,0,none⟩) n1 c1,.slice (some ⟨g2,0,none⟩) n2 c2,.slice (some ⟨g3,0,none⟩) n3 c3] 144 (0,0))
 o0:W.ownsRow lo 3 1 (.slice (some ⟨g0,0,none⟩) n0 c0) n0 (intsV tops)
 o1:W.ownsRow lo 3 1 (.slice (some ⟨g1,0,none⟩) n1 c1) n1 (intsV bel)
 o2:W.ownsRow lo 3 1 (.slice (some ⟨g2,0,none⟩) n2 c2) n2 (intsV hig)
 o3:W.ownsRow lo 181 3 (.slice (some ⟨g3,0,none⟩) n3 c3) n3 (intsV abv)
 ds:g0≠sb∧g1≠sb∧g2≠sb∧g3≠sb
 d:g0≠g1∧g0≠g2∧g0≠g3∧g1≠g2∧g1≠g3∧g2≠g3
theorem intInfoR:(Tryz.prog.info? 3).map (fun i=>(i.zero,i.size,i.bytes))=some (some (.int .i64 0),1,8):=by kernel_rfl
theorem in3Info:(Tryz.prog.info? 181).map (fun i=>(i.zero,i.size,i.bytes))=some (some (.agg #[.int .i64 0,.int .i64 0,.int .i64 0]),3,24):=by kernel_rfl
theorem own_at {W:World} {lo g n c s:Nat} {e:TypeId} {l:List Int} (h:W.ownsRow lo e s (.slice (some ⟨g,0,none⟩) n c) n (intsV l)) {j:Nat} {x:Int} (hj:l[j]? =some x):W.cell? ⟨g,j,none⟩=some (.int .i64 x)∧W.frozen? ⟨g,j,none⟩=false:=by
 refine⟨?_, ?_⟩
 ·have:=h.cells (g:=g) rfl j (.int .i64 x) (by unfold intsV;rw[List.getElem?_map,hj];rfl)
  rwa [Addr.add_lit,Nat.zero_add] at this
 ·rcases h.2 with⟨e,_⟩|⟨g',cap',cur,e,_,hg,_⟩
  ·cases e
  ·injection e with e
   injection e with e
   injection e with e
   subst e
   exact frozen_of_row W g j _ _ hg
theorem own_put {W:World} {lo g n c s:Nat} {e:TypeId} {l:List Int} (h:W.ownsRow lo e s (.slice (some ⟨g,0,none⟩) n c) n (intsV l)) (j:Nat) (x:Int):(W.setCell ⟨g,j,none⟩ (.int .i64 x)).ownsRow lo e s (.slice (some ⟨g,0,none⟩) n c) n (intsV (l.set j x)):=by
 obtain⟨h1,h2⟩:=h
 refine⟨by unfold intsV;rw[List.length_map,List.length_set];unfold intsV at h1;rw[List.length_map] at h1;exact h1, ?_⟩
 rcases h2 with⟨h2,_⟩|⟨g',cap',cur,hv,hb,hg,hc1,hc2,hc3,hc4⟩
 ·cases h2
 ·simp only[Value.slice.injEq,Option.some.injEq,Addr.mk.injEq,and_true,true_and] at hv
  obtain⟨rfl,rfl⟩:=hv
  refine .inr ⟨g,c,cur.setIfInBounds j (.int .i64 x),rfl,hb,heap_setCell_same W g j _ _ _ hg,by simpa using hc1,hc2,by simpa using hc3, ?_⟩
  unfold intsV
  rw[List.map_set]
  unfold intsV at hc4
  rw[←hc4]
  simp[List.take_set]
theorem own_keepG {W W':World} {lo g n c s:Nat} {e:TypeId} {xs:List Value} (h:W.ownsRow lo e s (.slice (some ⟨g,0,none⟩) n c) n xs) (hk:W'.heap[g]? =W.heap[g]?):W'.ownsRow lo e s (.slice (some ⟨g,0,none⟩) n c) n xs:=
 own_keep h fun x hx=>by simp only[Value.ownBlock,Option.some.injEq] at hx;subst hx;exact hk
section
variable {lo:Nat} {w W W' w3:World} {sb g0 g1 g2 g3 c0 c1 c2 c3 n0 n1 n2 n3:Nat} {tops bel hig abv:List Int} {g' c':Nat} {o:Obj} {x:Int}
theorem StR.lts (h:StR lo w W sb g0 g1 g2 g3 c0 c1 c2 c3 n0 n1 n2 n3 tops bel hig abv):sb<W.heap.size∧(lo≤g0∧g0<W.heap.size)∧(lo≤g1∧g1<W.heap.size)∧(lo≤g2∧g2<W.heap.size)∧lo≤g3∧g3<W.heap.size:=
 ⟨(Array.getElem?_eq_some_iff.1 h.box).1,h.o0.lt g0 rfl,h.o1.lt g1 rfl,h.o2.lt g2 rfl,h.o3.lt g3 rfl⟩
theorem StR.keep (h:StR lo w W sb g0 g1 g2 g3 c0 c1 c2 c3 n0 n1 n2 n3 tops bel hig abv) (hb:Below lo w W') (hk:∀k,k<W.heap.size→lo≤k→W'.heap[k]? =W.heap[k]?):StR lo w W' sb g0 g1 g2 g3 c0 c1 c2 c3 n0 n1 n2 n3 tops bel hig abv:=by
 obtain⟨l0,⟨a0,b0⟩,⟨a1,b1⟩,⟨a2,b2⟩,a3,b3⟩:=h.lts
 exact⟨hb,h.los,(hk sb l0 h.los).trans h.box,own_keepG h.o0 (hk g0 b0 a0),own_keepG h.o1 (hk g1 b1 a1),own_keepG h.o2 (hk g2 b2 a2),own_keepG h.o3 (hk g3 b3 a3),h.ds,h.d⟩
theorem StR.under (h:StR lo w W sb g0 g1 g2 g3 c0 c1 c2 c3 n0 n1 n2 n3 tops bel hig abv) (hb:Below W.heap.size W W'):StR lo w W' sb g0 g1 g2 g3 c0 c1 c2 c3 n0 n1 n2 n3 tops bel hig abv:=
 h.keep (h.low.trans (hb.mono (by have:=h.lts.1;have:=h.los;omega))) fun k hk _=>hb.block k hk
theorem StR.bx (h:StR lo w W sb g0 g1 g2 g3 c0 c1 c2 c3 n0 n1 n2 n3 tops bel hig abv):W.cell? ⟨sb,0,none⟩=some (.slice (some ⟨g0,0,none⟩) n0 c0)∧W.cell? ⟨sb,1,none⟩=some (.slice (some ⟨g1,0,none⟩) n1 c1)∧W.cell? ⟨sb,2,none⟩=some (.slice (some ⟨g2,0,none⟩) n2 c2)∧W.cell? ⟨sb,3,none⟩=some (.slice (some ⟨g3,0,none⟩) n3 c3)∧W.frozen? ⟨sb,0,none⟩=false∧W.frozen? ⟨sb,1,none⟩=false∧W.frozen? ⟨sb,2,none⟩=false∧W.frozen? ⟨sb,3,none⟩=false:=
 ⟨(cell_of_row W sb 0 _ _ _ h.box).trans rfl,(cell_of_row W sb 1 _ _ _ h.box).trans rfl,(cell_of_row W sb 2 _ _ _ h.box).trans rfl,(cell_of_row W sb 3 _ _ _ h.box).trans rfl,frozen_of_row W sb 0 _ _ h.box,frozen_of_row W sb 1 _ _ h.box,frozen_of_row W sb 2 _ _ h.box,frozen_of_row W sb 3 _ _ h.box⟩
theorem StR.set (h:StR lo w W sb g0 g1 g2 g3 c0 c1 c2 c3 n0 n1 n2 n3 tops bel hig abv) (j:Nat) (x:Int):StR lo w (W.setCell ⟨g3,j,none⟩ (.int .i64 x)) sb g0 g1 g2 g3 c0 c1 c2 c3 n0 n1 n2 n3 tops bel hig (abv.set j x):=by
 have hk:∀k,k≠g3→(W.setCell ⟨g3,j,none⟩ (.int .i64 x)).heap[k]? =W.heap[k]? :=fun k hk=>Below.heap_setCell _ _ _ _ hk
 obtain⟨_,_,d3,_,d5,d6⟩:=h.d
 exact⟨h.low.setCell h.lts.2.2.2.2.1 _,h.los,(hk sb h.ds.2.2.2.symm).trans h.box,own_keepG h.o0 (hk g0 d3),own_keepG h.o1 (hk g1 d5),own_keepG h.o2 (hk g2 d6),own_put h.o3 j x,h.ds,h.d⟩
theorem StR.app0 (h:StR lo w W sb g0 g1 g2 g3 c0 c1 c2 c3 n0 n1 n2 n3 tops bel hig abv) (ho:w3.ownsRow lo 3 1 (.slice (some ⟨g',0,none⟩) (n0+1) c') (n0+1) (intsV tops++intsV [x])) (hg:(W.alloc o).grownBy w3 (some g0)) (hb:some g0=some g'∨g'=(W.alloc o).heap.size):
  w3.heap[sb]? =W.heap[sb]? ∧StR lo w (w3.setCell ⟨sb,0,none⟩ (.slice (some ⟨g',0,none⟩) (n0+1) c')) sb g' g1 g2 g3 c' c1 c2 c3 (n0+1) n1 n2 n3 (tops++ [x]) bel hig abv∧(∀k,k<W.heap.size→k≠sb→k≠g0→(w3.setCell ⟨sb,0,none⟩ (.slice (some ⟨g',0,none⟩) (n0+1) c')).heap[k]? =W.heap[k]?)∧W.heap.size≤(w3.setCell ⟨sb,0,none⟩ (.slice (some ⟨g',0,none⟩) (n0+1) c')).heap.size:=by
 obtain⟨l0,⟨a0,b0⟩,⟨a1,b1⟩,⟨a2,b2⟩,a3,b3⟩:=h.lts
 obtain⟨s0,s1,s2,s3⟩:=h.ds
 obtain⟨d1,d2,d3,d4,d5,d6⟩:=h.d
 have hold:∀k,k<W.heap.size→k≠g0→w3.heap[k]? =W.heap[k]? :=fun k hk hn=>grown_keep hg hk (by intro e;injection e with e;exact hn e.symm)
 have hsb:=hold sb l0 s0.symm
 have hset:∀k,k≠sb→(w3.setCell ⟨sb,0,none⟩ (.slice (some ⟨g',0,none⟩) (n0+1) c')).heap[k]? =w3.heap[k]? :=fun k hk=>Below.heap_setCell _ _ _ _ hk
 have hsa:=World.size_alloc W o
 have hlo:lo≤W.heap.size:=by omega
 have hg':g'≠sb∧g'≠g1∧g'≠g2∧g'≠g3:=by
  rcases hb with e|e
  ·injection e with e
   subst e
   exact⟨s0,d1,d2,d3⟩
  ·refine⟨by omega,by omega,by omega,by omega⟩
 obtain⟨q0,q1,q2,q3⟩:=hg'
 have hsz:=hg.size
 refine⟨hsb,⟨(grown_lowR h.low hlo hg (fun k e=>by injection e with e;omega)).setCell h.los _,h.los,(heap_setCell_same _ sb 0 _ _ _ (hsb.trans h.box)).trans rfl,own_keepG (by unfold intsV at ho⊢;rw[List.map_append];exact ho) (hset g' q0),own_keepG h.o1 ((hset g1 s1).trans (hold g1 b1 (d1.symm))),own_keepG h.o2 ((hset g2 s2).trans (hold g2 b2 (d2.symm))),own_keepG h.o3 ((hset g3 s3).trans (hold g3 b3 (d3.symm))),⟨q0,s1,s2,s3⟩,⟨q1,q2,q3,d4,d5,d6⟩⟩,fun k hk h1 h2=>(hset k h1).trans (hold k hk h2),by rw[World.size_setCell];omega⟩
theorem StR.app1 (h:StR lo w W sb g0 g1 g2 g3 c0 c1 c2 c3 n0 n1 n2 n3 tops bel hig abv) (ho:w3.ownsRow lo 3 1 (.slice (some ⟨g',0,none⟩) (n1+1) c') (n1+1) (intsV bel++intsV [x])) (hg:(W.alloc o).grownBy w3 (some g1)) (hb:some g1=some g'∨g'=(W.alloc o).heap.size):
  w3.heap[sb]? =W.heap[sb]? ∧StR lo w (w3.setCell ⟨sb,1,none⟩ (.slice (some ⟨g',0,none⟩) (n1+1) c')) sb g0 g' g2 g3 c0 c' c2 c3 n0 (n1+1) n2 n3 tops (bel++ [x]) hig abv∧(∀k,k<W.heap.size→k≠sb→k≠g1→(w3.setCell ⟨sb,1,none⟩ (.slice (some ⟨g',0,none⟩) (n1+1) c')).heap[k]? =W.heap[k]?)∧W.heap.size≤(w3.setCell ⟨sb,1,none⟩ (.slice (some ⟨g',0,none⟩) (n1+1) c')).heap.size:=by
 obtain⟨l0,⟨a0,b0⟩,⟨a1,b1⟩,⟨a2,b2⟩,a3,b3⟩:=h.lts
 obtain⟨s0,s1,s2,s3⟩:=h.ds
 obtain⟨d1,d2,d3,d4,d5,d6⟩:=h.d
 have hold:∀k,k<W.heap.size→k≠g1→w3.heap[k]? =W.heap[k]? :=fun k hk hn=>grown_keep hg hk (by intro e;injection e with e;exact hn e.symm)
 have hsb:=hold sb l0 s1.symm
 have hset:∀k,k≠sb→(w3.setCell ⟨sb,1,none⟩ (.slice (some ⟨g',0,none⟩) (n1+1) c')).heap[k]? =w3.heap[k]? :=fun k hk=>Below.heap_setCell _ _ _ _ hk
 have hsa:=World.size_alloc W o
 have hlo:lo≤W.heap.size:=by omega
 have hg':g'≠sb∧g'≠g0∧g'≠g2∧g'≠g3:=by
  rcases hb with e|e
  ·injection e with e
   subst e
   exact⟨s1,d1.symm,d4,d5⟩
  ·refine⟨by omega,by omega,by omega,by omega⟩
 obtain⟨q0,q1,q2,q3⟩:=hg'
 have hsz:=hg.size
 refine⟨hsb,⟨(grown_lowR h.low hlo hg (fun k e=>by injection e with e;omega)).setCell h.los _,h.los,(heap_setCell_same _ sb 1 _ _ _ (hsb.trans h.box)).trans rfl,own_keepG h.o0 ((hset g0 s0).trans (hold g0 b0 (d1))),own_keepG (by unfold intsV at ho⊢;rw[List.map_append];exact ho) (hset g' q0),own_keepG h.o2 ((hset g2 s2).trans (hold g2 b2 (d4.symm))),own_keepG h.o3 ((hset g3 s3).trans (hold g3 b3 (d5.symm))),⟨s0,q0,s2,s3⟩,⟨q1.symm,d2,d3,q2,q3,d6⟩⟩,fun k hk h1 h2=>(hset k h1).trans (hold k hk h2),by rw[World.size_setCell];omega⟩
theorem StR.app2 (h:StR lo w W sb g0 g1 g2 g3 c0 c1 c2 c3 n0 n1 n2 n3 tops bel hig abv) (ho:w3.ownsRow lo 3 1 (.slice (some ⟨g',0,none⟩) (n2+1) c') (n2+1) (intsV hig++intsV [x])) (hg:(W.alloc o).grownBy w3 (some g2)) (hb:some g2=some g'∨g'=(W.alloc o).heap.size):
  w3.heap[sb]? =W.heap[sb]? ∧StR lo w (w3.setCell ⟨sb,2,none⟩ (.slice (some ⟨g',0,none⟩) (n2+1) c')) sb g0 g1 g' g3 c0 c1 c' c3 n0 n1 (n2+1) n3 tops bel (hig++ [x]) abv∧(∀k,k<W.heap.size→k≠sb→k≠g2→(w3.setCell ⟨sb,2,none⟩ (.slice (some ⟨g',0,none⟩) (n2+1) c')).heap[k]? =W.heap[k]?)∧W.heap.size≤(w3.setCell ⟨sb,2,none⟩ (.slice (some ⟨g',0,none⟩) (n2+1) c')).heap.size:=by
 obtain⟨l0,⟨a0,b0⟩,⟨a1,b1⟩,⟨a2,b2⟩,a3,b3⟩:=h.lts
 obtain⟨s0,s1,s2,s3⟩:=h.ds
 obtain⟨d1,d2,d3,d4,d5,d6⟩:=h.d
 have hold:∀k,k<W.heap.size→k≠g2→w3.heap[k]? =W.heap[k]? :=fun k hk hn=>grown_keep hg hk (by intro e;injection e with e;exact hn e.symm)
 have hsb:=hold sb l0 s2.symm
 have hset:∀k,k≠sb→(w3.setCell ⟨sb,2,none⟩ (.slice (some ⟨g',0,none⟩) (n2+1) c')).heap[k]? =w3.heap[k]? :=fun k hk=>Below.heap_setCell _ _ _ _ hk
 have hsa:=World.size_alloc W o
 have hlo:lo≤W.heap.size:=by omega
 have hg':g'≠sb∧g'≠g0∧g'≠g1∧g'≠g3:=by
  rcases hb with e|e
  ·injection e with e
   subst e
   exact⟨s2,d2.symm,d4.symm,d6⟩
  ·refine⟨by omega,by omega,by omega,by omega⟩
 obtain⟨q0,q1,q2,q3⟩:=hg'
 have hsz:=hg.size
 refine⟨hsb,⟨(grown_lowR h.low hlo hg (fun k e=>by injection e with e;omega)).setCell h.los _,h.los,(heap_setCell_same _ sb 2 _ _ _ (hsb.trans h.box)).trans rfl,own_keepG h.o0 ((hset g0 s0).trans (hold g0 b0 (d2))),own_keepG h.o1 ((hset g1 s1).trans (hold g1 b1 (d4))),own_keepG (by unfold intsV at ho⊢;rw[List.map_append];exact ho) (hset g' q0),own_keepG h.o3 ((hset g3 s3).trans (hold g3 b3 (d6.symm))),⟨s0,s1,q0,s3⟩,⟨d1,q1.symm,d3,q2.symm,d5,q3⟩⟩,fun k hk h1 h2=>(hset k h1).trans (hold k hk h2),by rw[World.size_setCell];omega⟩
theorem StR.app3 (h:StR lo w W sb g0 g1 g2 g3 c0 c1 c2 c3 n0 n1 n2 n3 tops bel hig abv) (ho:w3.ownsRow lo 181 3 (.slice (some ⟨g',0,none⟩) (n3+1) c') (n3+1) (intsV abv++intsV [0,0,0])) (hg:(W.alloc o).grownBy w3 (some g3)) (hb:some g3=some g'∨g'=(W.alloc o).heap.size):
  w3.heap[sb]? =W.heap[sb]? ∧StR lo w (w3.setCell ⟨sb,3,none⟩ (.slice (some ⟨g',0,none⟩) (n3+1) c')) sb g0 g1 g2 g' c0 c1 c2 c' n0 n1 n2 (n3+1) tops bel hig (abv++ [0,0,0])∧(∀k,k<W.heap.size→k≠sb→k≠g3→(w3.setCell ⟨sb,3,none⟩ (.slice (some ⟨g',0,none⟩) (n3+1) c')).heap[k]? =W.heap[k]?)∧W.heap.size≤(w3.setCell ⟨sb,3,none⟩ (.slice (some ⟨g',0,none⟩) (n3+1) c')).heap.size:=by
 obtain⟨l0,⟨a0,b0⟩,⟨a1,b1⟩,⟨a2,b2⟩,a3,b3⟩:=h.lts
 obtain⟨s0,s1,s2,s3⟩:=h.ds
 obtain⟨d1,d2,d3,d4,d5,d6⟩:=h.d
 have hold:∀k,k<W.heap.size→k≠g3→w3.heap[k]? =W.heap[k]? :=fun k hk hn=>grown_keep hg hk (by intro e;injection e with e;exact hn e.symm)
 have hsb:=hold sb l0 s3.symm
 have hset:∀k,k≠sb→(w3.setCell ⟨sb,3,none⟩ (.slice (some ⟨g',0,none⟩) (n3+1) c')).heap[k]? =w3.heap[k]? :=fun k hk=>Below.heap_setCell _ _ _ _ hk
 have hsa:=World.size_alloc W o
 have hlo:lo≤W.heap.size:=by omega
 have hg':g'≠sb∧g'≠g0∧g'≠g1∧g'≠g2:=by
  rcases hb with e|e
  ·injection e with e
   subst e
   exact⟨s3,d3.symm,d5.symm,d6.symm⟩
  ·refine⟨by omega,by omega,by omega,by omega⟩
 obtain⟨q0,q1,q2,q3⟩:=hg'
 have hsz:=hg.size
 refine⟨hsb,⟨(grown_lowR h.low hlo hg (fun k e=>by injection e with e;omega)).setCell h.los _,h.los,(heap_setCell_same _ sb 3 _ _ _ (hsb.trans h.box)).trans rfl,own_keepG h.o0 ((hset g0 s0).trans (hold g0 b0 (d3))),own_keepG h.o1 ((hset g1 s1).trans (hold g1 b1 (d5))),own_keepG h.o2 ((hset g2 s2).trans (hold g2 b2 (d6))),own_keepG (by unfold intsV at ho⊢;rw[List.map_append];exact ho) (hset g' q0),⟨s0,s1,s2,q0⟩,⟨d1,d2,q1.symm,d4,q2.symm,q3.symm⟩⟩,fun k hk h1 h2=>(hset k h1).trans (hold k hk h2),by rw[World.size_setCell];omega⟩
end
end Go.Proofs.YtagnicbknbmccaaGreatDoor
