/- guiselaw13's Maker: what push and fill change. guiselaw13's Maker in memory: one. guiselaw13.told, least, wide. guiselaw13.known: the chapter's first examples are so. -/
import Derived.Test.YtagnicbknbmccaaGreatDoorMkC
import Derived.Test.YtagnicbknbmccaaGreatDoorMCwF
import Derived.Test.YtagnicbknbmccaaGreatDoorSqC
import Derived.Test.YtagnicbknbmccaaGreatDoorMCyG
import Derived.Test.YtagnicbknbmccaaGreatDoorMCyD
import Derived.Test.YtagnicbknbmccaaGreatDoorMCxE
import Derived.Test.YtagnicbknbmccaaGreatDoorMCxJ
set_option maxRecDepth 100000
set_option maxHeartbeats 30000000
namespace Go.Proofs.YtagnicbknbmccaaGreatDoor
open Go.RowKit
theorem mkPush_facts (m:Mk):m.push.high=m.high+1∧m.push.at_≤m.at_+2∧m.push.code.length=m.code.length+1∧m.push.slots=m.slots∧m.push.tops=m.tops∧m.push.raw=m.raw:=by
 have hn:∀n,(m.next n).2= {m with at_:=m.at_+1}:=fun _=>rfl
 unfold Mk.push
 simp only
 split
 all_goals first
  |exact⟨rfl,Nat.le_refl _,by simp[Mk.add,Mk.next],rfl,rfl,rfl⟩
  |exact⟨rfl,Nat.le_succ _,by simp[Mk.add,Mk.next],rfl,rfl,rfl⟩
  |(split<;>first
    |exact⟨rfl,Nat.le_refl _,by simp[Mk.add,Mk.next],rfl,rfl,rfl⟩
    |exact⟨rfl,Nat.le_succ _,by simp[Mk.add,Mk.next],rfl,rfl,rfl⟩)
theorem mkPush_fill {m:Mk} (h:m.high<2):m.push.fill=m.fill:=by
 obtain⟨e,_⟩:=mkPush_facts m
 unfold Mk.fill
 rw[e]
 by_cases h0:m.high<1
 ·rw[if_neg (by omega),if_pos (by omega),if_pos h0]
 ·rw[if_neg (by omega),if_neg (by omega),if_neg h0,if_pos h]
theorem full_fill {m:Mk} (h:2≤m.high):m.fill=m:=by
 unfold Mk.fill
 rw[if_neg (by omega),if_neg (by omega)]
def highOf (kb:Nat) (w:World):Nat:=match w.cell? ⟨kb,3,none⟩ with
 |some (.int _ v)=>v.toNat
 |_=>0
theorem MkAt.c3 {lo:Nat} {W0 W:World} {kb rc:Nat} {ra:Option Addr} {cv:Value} {fn:Int} {m:Mk} (h:MkAt lo W0 W kb ra rc cv fn m):W.cell? ⟨kb,3,none⟩=some (.int .i64 m.high):=(cell_of_row W kb 3 _ _ _ h.box).trans rfl
theorem MkAt.c4 {lo:Nat} {W0 W:World} {kb rc:Nat} {ra:Option Addr} {cv:Value} {fn:Int} {m:Mk} (h:MkAt lo W0 W kb ra rc cv fn m):W.cell? ⟨kb,4,none⟩=some (.int .i64 m.slots):=(cell_of_row W kb 4 _ _ _ h.box).trans rfl
theorem MkAt.c2 {lo:Nat} {W0 W:World} {kb rc:Nat} {ra:Option Addr} {cv:Value} {fn:Int} {m:Mk} (h:MkAt lo W0 W kb ra rc cv fn m):∃gf cc,W.cell? ⟨kb,2,none⟩=some (.slice gf m.code.length cc):=by
 obtain⟨fa,fc,e,_,_⟩:=row_form h.own
 exact⟨fa,fc,(cell_of_row W kb 2 _ _ _ h.box).trans (by rw[←e];rfl)⟩
theorem MkAt.hi {lo:Nat} {W0 W:World} {kb rc:Nat} {ra:Option Addr} {cv:Value} {fn:Int} {m:Mk} (h:MkAt lo W0 W kb ra rc cv fn m):highOf kb W=m.high:=by
 unfold highOf
 rw[h.c3]
 simp
theorem fill_facts (m:Mk):2≤m.fill.high∧m.fill.high≤m.high+2∧m.fill.at_≤m.at_+4∧m.fill.code.length≤m.code.length+2∧m.fill.slots=m.slots∧m.fill.tops=m.tops∧m.fill.raw=m.raw:=by
 obtain⟨a1,a2,a3,a4,a5,a6⟩:=mkPush_facts m
 obtain⟨b1,b2,b3,b4,b5,b6⟩:=mkPush_facts m.push
 unfold Mk.fill
 split
 ·exact⟨by omega,by omega,by omega,by omega,b4.trans a4,b5.trans a5,b6.trans a6⟩
 ·split
  ·exact⟨by omega,by omega,by omega,by omega,a4,a5,a6⟩
  ·exact⟨by omega,by omega,by omega,by omega,rfl,rfl,rfl⟩
theorem lt_16 {k:Nat} (h:k<16):k=0∨k=1∨k=2∨k=3∨k=4∨k=5∨k=6∨k=7∨k=8∨k=9∨k=10∨k=11∨k=12∨k=13∨k=14∨k=15:=by omega
abbrev AddC (lo:Nat) (W0:World) (kb rc:Nat) (ra:Option Addr) (fn:Int) (m m2:Mk) (op a:Int) (s:ByteArray) (tk ly:Int):Prop:=
 ∀w cv,MkAt lo W0 w kb ra rc cv fn m→Calls Tryz.prog 73 #[.pointer (some ⟨kb,0,none⟩),.int .i64 op,.int .i64 a,.string s,.int .i64 tk,.int .i64 ly] w fun e W'=>e= .returned (.tuple #[])∧∃cv',MkAt lo W0 W' kb ra rc cv' fn m2
abbrev NextC (lo:Nat) (W0:World) (kb rc:Nat) (ra:Option Addr) (fn:Int) (m m2:Mk) (n k:Int):Prop:=
 ∀w cv,MkAt lo W0 w kb ra rc cv fn m→Calls Tryz.prog 31 #[.pointer (some ⟨kb,0,none⟩),.int .i64 n] w fun e W'=>e= .returned (.int .i64 k)∧MkAt lo W0 W' kb ra rc cv fn m2∧∀g,g≠kb→W'.heap[g]? =w.heap[g]?
section
variable {lo:Nat} {W0:World} {kb rc:Nat} {ra:Option Addr} {fn:Int} {m:Mk}
theorem addC (op a:Int) (x:List UInt8) (t l:Nat) {s:ByteArray} {tk ly:Int} (ht:t≤m.high) (hh:m.high≤1000000) (hc:m.code.length≤1000000) (hl:l≤1000000:=by decide) (e1:s=⟨⟨x⟩⟩:=by rfl) (e2:tk=(t:Int):=by rfl) (e3:ly=(l:Int):=by rfl):AddC lo W0 kb rc ra fn m (m.add op a x t l) op a s tk ly:=by
 subst e1 e2 e3
 exact fun w cv h=>add_any h op a x t l ht hh hl hc
theorem nextC {n k:Nat} {m2:Mk} (h:m.next n=(k,m2)) (h0:0<n) (hn:n≤1000000000) (ha:m.at_≤1000000000) {i:Int} (e:i=(n:Int):=by rfl):NextC lo W0 kb rc ra fn m m2 i k:=by
 subst e
 exact fun w cv hm=>(next_to hm h h0 hn ha).mono fun e W' hp=>⟨hp.1,hp.2.1,hp.2.2.2⟩
theorem row_at {W W':World} {tb J:Nat} {cs:Array Value} {t:TypeId} {v:Value} (h:W'.heap[tb]? =W.heap[tb]?) (hr:W.heap[tb]? =some (.cells cs t (0,0))) (hj:cs[J]? =some v):W'.cell? ⟨tb,J,none⟩=some v:=
 (cell_of_row W' tb J _ _ _ (h.trans hr)).trans hj
end
theorem add_facts {m m2:Mk} {op a:Int} {x:List UInt8} {t l:Nat} (h:m.add op a x t l=m2):m2.code.length=m.code.length+1∧m2.high=m.high-t+l∧m2.at_=m.at_:=by
 subst h
 exact⟨by simp[Mk.add],rfl,rfl⟩
theorem min_i (n:Nat) (h:n≤3):min (n:Int) 2=((min n 2:Nat):Int):=by omega
theorem mkOne_any {lo:Nat} {W0 W:World} {kb rc:Nat} {ra:Option Addr} {cv:Value} {fn:Int} {m:Mk} (h:MkAt lo W0 W kb ra rc cv fn m) (ha:m.at_≤10000000) (hh:m.high≤800000) (hc:m.code.length≤800000) (hs:0<m.slots∧m.slots≤1000000) (ht:m.tops≤1000000):Calls Tryz.prog 74 #[.pointer (some ⟨kb,0,none⟩)] W (MkPost lo W0 kb ra rc fn m.one):=by
 obtain⟨f,hf⟩:∃f,m.fill=f:=⟨_,rfl⟩
 obtain⟨p1,p2,p3,p4,p5,p6,_⟩:=fill_facts m
 rw[hf] at p1 p2 p3 p4 p5 p6
 have hn4:0<min f.high 4:=by omega
 obtain⟨n,f1,hn⟩:∃n f1,f.next (min f.high 4)=(n,f1):=⟨_,_,rfl⟩
 obtain⟨n1,n2,n3,n4,n5,n6,_⟩:=next_eq hn hn4
 obtain⟨K,f2,hk⟩:∃K f2,f1.next 16=(K,f2):=⟨_,_,rfl⟩
 obtain⟨k1,k2,k3,k4,k5,k6,_⟩:=next_eq hk (by decide)
 have hM:m.one=f2.pick n K:=by unfold Mk.one;simp only[hf,hn,hk]
 rw[hM]
 clear hM
 rw[n3] at k3
 have k3l:f2.code.length=f.code.length:=by rw[k3]
 have hc2:f2.code.length≤900000:=by omega
 have hh2:f2.high≤900000:=by omega
 have h22:2≤f2.high:=by omega
 have hn3:n≤3:=by omega
 have hnh:n+1≤f2.high:=by omega
 have ha2:f2.at_≤20000000:=by omega
 have hs2:0<f2.slots∧f2.slots≤1000000:=by rw[k5,n5,p5];exact hs
 have HF:=Lib.hid hf
 have HPU:Hid (∀m' cv' w',MkAt lo W0 w' kb ra rc cv' fn m'→m'.at_≤m.at_+4→m'.high≤m.high+2→m'.code.length≤m.code.length+2→m'.slots=m.slots→m'.tops=m.tops→Calls Tryz.prog 75 #[.pointer (some ⟨kb,0,none⟩)] w' (MkPost lo W0 kb ra rc fn m'.push)):=Lib.hid fun m' cv' w' h' e1 e2 e3 e4 e5=>mkPush_any h' (by omega) (by omega) (by omega) (by omega) (by omega)
 have HN4:Hid (NextC lo W0 kb rc ra fn f f1 (min f.high 4:Nat) n):=Lib.hid (nextC hn (by omega) (by omega) (by omega))
 have HN16:Hid (NextC lo W0 kb rc ra fn f1 f2 16 K):=Lib.hid (nextC hk (by omega) (by omega) (by omega))
 have HM0:=Lib.hid h
 have HMN:Hid (min (f.high:Int) 4=((min f.high 4:Nat):Int)):=Lib.hid (by omega)
 have hcl:m.code.length≤800000:=hc
 clear h hf hn hk p1 p2 p3 p4 p5 p6 n1 n2 n3 n4 n5 n6 k2 k3 k4 k5 k6 k3l hn4
 go_enter Tryz.func74,Tryz.ntmps74
 go_wp2_with fail
 go_loopw [] (fun wr=>∃m' cv',Hid (MkAt lo W0 wr kb ra rc cv' fn m')∧Hid (m'.fill=f)∧Hid (m'.at_+2*(2-m'.high)≤m.at_+4∧m'.high≤m.high+2∧m'.code.length+(2-m'.high)≤m.code.length+2∧m'.slots=m.slots∧m'.tops=m.tops)) (fun wr=>2-highOf kb wr)
 case atStart=>exact⟨m,cv,HM0,HF,Lib.hid ⟨by omega,by omega,by omega,rfl,rfl⟩⟩
 case round=>
  obtain⟨m',cv',HM,HFI,HB⟩:=hrel
  clear HM0
  have q3:=HM.out.c3
  by_cases hlt:m'.high<2
  ·have e1:decide ((m'.high:Int)<2)=true:=decide_eq_true (by omega)
   have HP:Hid (Calls Tryz.prog 75 #[.pointer (some ⟨kb,0,none⟩)] wr (MkPost lo W0 kb ra rc fn m'.push)):=Lib.hid (by obtain⟨b1,b2,b3,b4,b5⟩:=HB.out;exact HPU.out m' cv' wr HM.out (by omega) b2 (by omega) b4 b5)
   obtain⟨a1,a2,a3,a4,a5,_⟩:=mkPush_facts m'
   have HB2:Hid (m'.push.at_+2*(2-m'.push.high)≤m.at_+4∧m'.push.high≤m.high+2∧m'.push.code.length+(2-m'.push.high)≤m.code.length+2∧m'.push.slots=m.slots∧m'.push.tops=m.tops):=Lib.hid (by obtain⟨b1,b2,b3,b4,b5⟩:=HB.out;exact⟨by omega,by omega,by omega,by omega,by omega⟩)
   have HF2:Hid (m'.push.fill=f):=Lib.hid ((mkPush_fill hlt).trans HFI.out)
   have hhi:m'.push.high=m'.high+1:=a1
   have hh0:=HM.out.hi
   clear a2 a3 a4 a5 a1
   go_wp2_with (go_at_call 75;refine HP.out.mono ?_;rintro e w1 ⟨rfl,cv1,h1⟩;have HM1:=Lib.hid h1;clear h1)
   go_roundw
   case rel=>exact⟨m'.push,cv1,HM1,HF2,HB2⟩
   case measure=>
    rw[hh0,HM1.out.hi,hhi]
    omega
  ·obtain rfl:m'=f:=(full_fill (by omega)).symm.trans HFI.out
   have e1:decide ((m'.high:Int)<2)=false:=decide_eq_false (by omega)
   have emn:=HMN.out
   clear HFI HB HPU HF HMN
   go_upto_region 3 with(go_at_call 31;with_reducible refine(HN4.out _ _ HM.out).mono ?_;rintro e w1 ⟨rfl,h1,hf1⟩;have HM1:=Lib.hid h1;clear h1 hf1)
   clear q3 e1 emn HN4 HM
   rcases lt_16 k1 with rfl|rfl|rfl|rfl|rfl|rfl|rfl|rfl|rfl|rfl|rfl|rfl|rfl|rfl|rfl|rfl
   ·obtain⟨J,m2,hj⟩:∃J m2,f2.next 4=(J,m2):=⟨_,_,rfl⟩
    obtain⟨hJ,a2,b2,c2,d2,t2,_⟩:=next_eq hj (by decide)
    obtain⟨T,hT⟩:∃T,oneBinary.getD J []=T:=⟨_,rfl⟩
    have HPK:Hid (f2.pick n 0=m2.add 19 0 T 2 1):=Lib.hid (by rw[show f2.pick n 0=(f2.next 4).2.add 19 0 (oneBinary.getD (f2.next 4).1 []) 2 1 from rfl,hj,←hT])
    have hrow:(#[Value.string ⟨#[43]⟩,Value.string ⟨#[61,61]⟩,Value.string ⟨#[60,60]⟩,Value.string ⟨#[94]⟩]:Array Value)[J]? =some (.string ⟨⟨T⟩⟩):=by
     rw[←hT]
     match J,hJ with
     |0,_=>rfl
     |1,_=>rfl
     |2,_=>rfl
     |3,_=>rfl
    have HN2:Hid (NextC lo W0 kb rc ra fn f2 m2 4 J):=Lib.hid (nextC hj (by decide) (by decide) (by omega))
    have b2l:m2.code.length=f2.code.length:=by rw[b2]
    have HAD:Hid (AddC lo W0 kb rc ra fn m2 (m2.add 19 0 T 2 1) 19 0 ⟨⟨T⟩⟩ 2 1):=Lib.hid (addC 19 0 T 2 1 (by omega) (by omega) (by omega))
    have HRW:=Lib.hid hrow
    clear hrow hT hj a2 b2 c2 d2 t2 b2l
    go_upto_region 6 with(go_at_call 31;with_reducible refine(HN16.out _ _ HM1.out).mono ?_;rintro e w2 ⟨rfl,h1,hf1⟩;have HM2:=Lib.hid h1;clear h1 hf1)
    have hm2:=HM2.out.under ((Below.refl _ _).alloc (Nat.le_refl _) (.cells #[.string ⟨#[43]⟩,.string ⟨#[61,61]⟩,.string ⟨#[60,60]⟩,.string ⟨#[94]⟩] 9 (0,0)))
    have hrw:=heap_alloc_new w2 (.cells #[.string ⟨#[43]⟩,.string ⟨#[61,61]⟩,.string ⟨#[60,60]⟩,.string ⟨#[94]⟩] 9 (0,0))
    have hkl:=HM2.out.lt
    obtain⟨tb,htb⟩:∃tb,w2.heap.size=tb:=⟨_,rfl⟩
    obtain⟨W2,hW2⟩:∃W2,w2.alloc (.cells #[.string ⟨#[43]⟩,.string ⟨#[61,61]⟩,.string ⟨#[60,60]⟩,.string ⟨#[94]⟩] 9 (0,0))=W2:=⟨_,rfl⟩
    rw[hW2] at hm2 hrw
    rw[htb] at hrw hkl
    have hne:tb≠kb:=by omega
    have HMX:=Lib.hid hm2
    have HTB:=Lib.hid hrw
    clear hm2 hrw HM2 HM1
    go_wp2_with (first
     |(go_at_call 31;with_reducible refine(HN2.out _ _ HMX.out).mono ?_;rintro e w3 ⟨rfl,h1,hf1⟩;have q0:=row_at (hf1 _ hne) HTB.out HRW.out;have HM3:=Lib.hid h1;clear h1 hf1)
     |(go_at_call 73;with_reducible refine(HAD.out _ _ HM3.out).mono ?_;rintro e w4 ⟨rfl,cv4,h3⟩))
    first|refine bodyPost_end (results_none rfl _ _ _) rfl ?_|refine bodyPost_ret (results_none rfl _ _ _) rfl ?_
    exact⟨rfl,_,by rw[HPK.out];exact h3⟩
   ·obtain⟨J,m2,hj⟩:∃J m2,f2.next 3=(J,m2):=⟨_,_,rfl⟩
    obtain⟨hJ,a2,b2,c2,d2,t2,_⟩:=next_eq hj (by decide)
    obtain⟨T,hT⟩:∃T,oneUnary.getD J []=T:=⟨_,rfl⟩
    have HPK:Hid (f2.pick n 1=m2.add 18 0 T 1 1):=Lib.hid (by rw[show f2.pick n 1=(f2.next 3).2.add 18 0 (oneUnary.getD (f2.next 3).1 []) 1 1 from rfl,hj,←hT])
    have hrow:(#[Value.string ⟨#[45]⟩,Value.string ⟨#[42]⟩,Value.string ⟨#[43,43]⟩]:Array Value)[J]? =some (.string ⟨⟨T⟩⟩):=by
     rw[←hT]
     match J,hJ with
     |0,_=>rfl
     |1,_=>rfl
     |2,_=>rfl
    have HN2:Hid (NextC lo W0 kb rc ra fn f2 m2 3 J):=Lib.hid (nextC hj (by decide) (by decide) (by omega))
    have b2l:m2.code.length=f2.code.length:=by rw[b2]
    have HAD:Hid (AddC lo W0 kb rc ra fn m2 (m2.add 18 0 T 1 1) 18 0 ⟨⟨T⟩⟩ 1 1):=Lib.hid (addC 18 0 T 1 1 (by omega) (by omega) (by omega))
    have HRW:=Lib.hid hrow
    clear hrow hT hj a2 b2 c2 d2 t2 b2l
    go_upto_region 8 with(go_at_call 31;with_reducible refine(HN16.out _ _ HM1.out).mono ?_;rintro e w2 ⟨rfl,h1,hf1⟩;have HM2:=Lib.hid h1;clear h1 hf1)
    have hm2:=HM2.out.under ((Below.refl _ _).alloc (Nat.le_refl _) (.cells #[.string ⟨#[45]⟩,.string ⟨#[42]⟩,.string ⟨#[43,43]⟩] 9 (0,0)))
    have hrw:=heap_alloc_new w2 (.cells #[.string ⟨#[45]⟩,.string ⟨#[42]⟩,.string ⟨#[43,43]⟩] 9 (0,0))
    have hkl:=HM2.out.lt
    obtain⟨tb,htb⟩:∃tb,w2.heap.size=tb:=⟨_,rfl⟩
    obtain⟨W2,hW2⟩:∃W2,w2.alloc (.cells #[.string ⟨#[45]⟩,.string ⟨#[42]⟩,.string ⟨#[43,43]⟩] 9 (0,0))=W2:=⟨_,rfl⟩
    rw[hW2] at hm2 hrw
    rw[htb] at hrw hkl
    have hne:tb≠kb:=by omega
    have HMX:=Lib.hid hm2
    have HTB:=Lib.hid hrw
    clear hm2 hrw HM2 HM1
    go_wp2_with (first
     |(go_at_call 31;with_reducible refine(HN2.out _ _ HMX.out).mono ?_;rintro e w3 ⟨rfl,h1,hf1⟩;have q0:=row_at (hf1 _ hne) HTB.out HRW.out;have HM3:=Lib.hid h1;clear h1 hf1)
     |(go_at_call 73;with_reducible refine(HAD.out _ _ HM3.out).mono ?_;rintro e w4 ⟨rfl,cv4,h3⟩))
    first|refine bodyPost_end (results_none rfl _ _ _) rfl ?_|refine bodyPost_ret (results_none rfl _ _ _) rfl ?_
    exact⟨rfl,_,by rw[HPK.out];exact h3⟩
   ·have HAD:Hid (AddC lo W0 kb rc ra fn f2 (f2.add 27 n [] n 1) 27 n ⟨#[]⟩ n 1):=Lib.hid (addC 27 n [] n 1 (by omega) (by omega) (by omega))
    go_wp2_with (first|(go_at_call 31;with_reducible refine(HN16.out _ _ HM1.out).mono ?_;rintro e w2 ⟨rfl,h1,hf1⟩;have HM2:=Lib.hid h1;clear h1 hf1)|(go_at_call 73;with_reducible refine(HAD.out _ _ HM2.out).mono ?_;rintro e w4 ⟨rfl,cv4,h3⟩))
    first|refine bodyPost_end (results_none rfl _ _ _) rfl ?_|refine bodyPost_ret (results_none rfl _ _ _) rfl ?_
    exact⟨rfl,_,h3⟩
   ·have HAD:Hid (AddC lo W0 kb rc ra fn f2 (f2.add 46 n [] (n+1) 1) 46 n ⟨#[]⟩ ((n:Int)+1) 1):=Lib.hid (addC 46 n [] (n+1) 1 (by omega) (by omega) (by omega))
    go_wp2_with (first|(go_at_call 31;with_reducible refine(HN16.out _ _ HM1.out).mono ?_;rintro e w2 ⟨rfl,h1,hf1⟩;have HM2:=Lib.hid h1;clear h1 hf1)|(go_at_call 73;with_reducible refine(HAD.out _ _ HM2.out).mono ?_;rintro e w4 ⟨rfl,cv4,h3⟩))
    first|refine bodyPost_end (results_none rfl _ _ _) rfl ?_|refine bodyPost_ret (results_none rfl _ _ _) rfl ?_
    exact⟨rfl,_,h3⟩
   ·obtain⟨J,m2,hj⟩:∃J m2,f2.next 3=(J,m2):=⟨_,_,rfl⟩
    obtain⟨hJ,a2,b2,c2,d2,t2,_⟩:=next_eq hj (by decide)
    obtain⟨T,hT⟩:∃T,oneBuilt.getD J []=T:=⟨_,rfl⟩
    have HPK:Hid (f2.pick n 4=m2.add 47 n T n 1):=Lib.hid (by rw[show f2.pick n 4=(f2.next 3).2.add 47 n (oneBuilt.getD (f2.next 3).1 []) n 1 from rfl,hj,←hT])
    have hrow:(#[Value.string ⟨#[112,114,105,110,116]⟩,Value.string ⟨#[108,101,110]⟩,Value.string ⟨#[114,101,99,111,118,101,114]⟩]:Array Value)[J]? =some (.string ⟨⟨T⟩⟩):=by
     rw[←hT]
     match J,hJ with
     |0,_=>rfl
     |1,_=>rfl
     |2,_=>rfl
    have HN2:Hid (NextC lo W0 kb rc ra fn f2 m2 3 J):=Lib.hid (nextC hj (by decide) (by decide) (by omega))
    have b2l:m2.code.length=f2.code.length:=by rw[b2]
    have HAD:Hid (AddC lo W0 kb rc ra fn m2 (m2.add 47 n T n 1) 47 n ⟨⟨T⟩⟩ n 1):=Lib.hid (addC 47 n T n 1 (by omega) (by omega) (by omega))
    have HRW:=Lib.hid hrow
    clear hrow hT hj a2 b2 c2 d2 t2 b2l
    go_upto_region 14 with(go_at_call 31;with_reducible refine(HN16.out _ _ HM1.out).mono ?_;rintro e w2 ⟨rfl,h1,hf1⟩;have HM2:=Lib.hid h1;clear h1 hf1)
    have hm2:=HM2.out.under ((Below.refl _ _).alloc (Nat.le_refl _) (.cells #[.string ⟨#[112,114,105,110,116]⟩,.string ⟨#[108,101,110]⟩,.string ⟨#[114,101,99,111,118,101,114]⟩] 9 (0,0)))
    have hrw:=heap_alloc_new w2 (.cells #[.string ⟨#[112,114,105,110,116]⟩,.string ⟨#[108,101,110]⟩,.string ⟨#[114,101,99,111,118,101,114]⟩] 9 (0,0))
    have hkl:=HM2.out.lt
    obtain⟨tb,htb⟩:∃tb,w2.heap.size=tb:=⟨_,rfl⟩
    obtain⟨W2,hW2⟩:∃W2,w2.alloc (.cells #[.string ⟨#[112,114,105,110,116]⟩,.string ⟨#[108,101,110]⟩,.string ⟨#[114,101,99,111,118,101,114]⟩] 9 (0,0))=W2:=⟨_,rfl⟩
    rw[hW2] at hm2 hrw
    rw[htb] at hrw hkl
    have hne:tb≠kb:=by omega
    have HMX:=Lib.hid hm2
    have HTB:=Lib.hid hrw
    clear hm2 hrw HM2 HM1
    go_wp2_with (first
     |(go_at_call 31;with_reducible refine(HN2.out _ _ HMX.out).mono ?_;rintro e w3 ⟨rfl,h1,hf1⟩;have q0:=row_at (hf1 _ hne) HTB.out HRW.out;have HM3:=Lib.hid h1;clear h1 hf1)
     |(go_at_call 73;with_reducible refine(HAD.out _ _ HM3.out).mono ?_;rintro e w4 ⟨rfl,cv4,h3⟩))
    first|refine bodyPost_end (results_none rfl _ _ _) rfl ?_|refine bodyPost_ret (results_none rfl _ _ _) rfl ?_
    exact⟨rfl,_,by rw[HPK.out];exact h3⟩
   ·obtain⟨J,m2,hj⟩:∃J m2,f2.next f2.slots=(J,m2):=⟨_,_,rfl⟩
    obtain⟨hJ,a2,b2,c2,d2,t2,_⟩:=next_eq hj (by omega)
    have b2l:m2.code.length=f2.code.length:=by rw[b2]
    have HPK:Hid (f2.pick n 5=m2.add 12 J [] 1 0):=Lib.hid (by rw[show f2.pick n 5=(f2.next f2.slots).2.add 12 (f2.next f2.slots).1 [] 1 0 from rfl,hj])
    have HN2:Hid (NextC lo W0 kb rc ra fn f2 m2 f2.slots J):=Lib.hid (nextC hj (by omega) (by omega) (by omega))
    have HAD:Hid (AddC lo W0 kb rc ra fn m2 (m2.add 12 J [] 1 0) 12 J ⟨#[]⟩ 1 0):=Lib.hid (addC 12 J [] 1 0 (by omega) (by omega) (by omega))
    go_upto_region 16 with(go_at_call 31;with_reducible refine(HN16.out _ _ HM1.out).mono ?_;rintro e w2 ⟨rfl,h1,hf1⟩;have HM2:=Lib.hid h1;clear h1 hf1)
    have q4:=HM2.out.c4
    go_wp2_with (first
     |(go_at_call 31;with_reducible refine(HN2.out _ _ HM2.out).mono ?_;rintro e w3 ⟨rfl,h1,hf1⟩;have HM3:=Lib.hid h1;clear h1 hf1)
     |(go_at_call 73;with_reducible refine(HAD.out _ _ HM3.out).mono ?_;rintro e w4 ⟨rfl,cv4,h3⟩))
    first|refine bodyPost_end (results_none rfl _ _ _) rfl ?_|refine bodyPost_ret (results_none rfl _ _ _) rfl ?_
    exact⟨rfl,_,by rw[HPK.out];exact h3⟩
   ·have HAD:Hid (AddC lo W0 kb rc ra fn f2 (f2.add 17 0 [] 1 2) 17 0 ⟨#[]⟩ 1 2):=Lib.hid (addC 17 0 [] 1 2 (by omega) (by omega) (by omega))
    go_wp2_with (first|(go_at_call 31;with_reducible refine(HN16.out _ _ HM1.out).mono ?_;rintro e w2 ⟨rfl,h1,hf1⟩;have HM2:=Lib.hid h1;clear h1 hf1)|(go_at_call 73;with_reducible refine(HAD.out _ _ HM2.out).mono ?_;rintro e w4 ⟨rfl,cv4,h3⟩))
    first|refine bodyPost_end (results_none rfl _ _ _) rfl ?_|refine bodyPost_ret (results_none rfl _ _ _) rfl ?_
    exact⟨rfl,_,h3⟩
   ·have HAD:Hid (AddC lo W0 kb rc ra fn f2 (f2.add 16 0 [] 1 0) 16 0 ⟨#[]⟩ 1 0):=Lib.hid (addC 16 0 [] 1 0 (by omega) (by omega) (by omega))
    go_wp2_with (first|(go_at_call 31;with_reducible refine(HN16.out _ _ HM1.out).mono ?_;rintro e w2 ⟨rfl,h1,hf1⟩;have HM2:=Lib.hid h1;clear h1 hf1)|(go_at_call 73;with_reducible refine(HAD.out _ _ HM2.out).mono ?_;rintro e w4 ⟨rfl,cv4,h3⟩))
    first|refine bodyPost_end (results_none rfl _ _ _) rfl ?_|refine bodyPost_ret (results_none rfl _ _ _) rfl ?_
    exact⟨rfl,_,h3⟩
   ·have HAD:Hid (AddC lo W0 kb rc ra fn f2 (f2.add 25 0 [] 2 2) 25 0 ⟨#[]⟩ 2 2):=Lib.hid (addC 25 0 [] 2 2 (by omega) (by omega) (by omega))
    go_wp2_with (first|(go_at_call 31;with_reducible refine(HN16.out _ _ HM1.out).mono ?_;rintro e w2 ⟨rfl,h1,hf1⟩;have HM2:=Lib.hid h1;clear h1 hf1)|(go_at_call 73;with_reducible refine(HAD.out _ _ HM2.out).mono ?_;rintro e w4 ⟨rfl,cv4,h3⟩))
    first|refine bodyPost_end (results_none rfl _ _ _) rfl ?_|refine bodyPost_ret (results_none rfl _ _ _) rfl ?_
    exact⟨rfl,_,h3⟩
   ·have hj2:min n 2<3:=by omega
    have emn:=min_i n hn3
    obtain⟨J,hJ⟩:∃J,min n 2=J:=⟨_,rfl⟩
    rw[hJ] at hj2 emn
    obtain⟨T,hT⟩:∃T,oneStruct.getD J []=T:=⟨_,rfl⟩
    have HPK:Hid (f2.pick n 9=f2.add 29 J T J 1):=Lib.hid (by rw[show f2.pick n 9=f2.add 29 (min n 2:Nat) (oneStruct.getD (min n 2) []) (min n 2) 1 from rfl,hJ,hT])
    have hrow:(#[Value.string ⟨#[84]⟩,Value.string ⟨#[84,32,102]⟩,Value.string ⟨#[84,32,102,32,103]⟩]:Array Value)[J]? =some (.string ⟨⟨T⟩⟩):=by
     rw[←hT]
     match J,hj2 with
     |0,_=>rfl
     |1,_=>rfl
     |2,_=>rfl
    have HAD:Hid (AddC lo W0 kb rc ra fn f2 (f2.add 29 J T J 1) 29 J ⟨⟨T⟩⟩ J 1):=Lib.hid (addC 29 J T J 1 (by omega) (by omega) (by omega))
    have HRW:=Lib.hid hrow
    clear hrow hT
    go_upto_region 24 with(go_at_call 31;with_reducible refine(HN16.out _ _ HM1.out).mono ?_;rintro e w2 ⟨rfl,h1,hf1⟩;have HM2:=Lib.hid h1;clear h1 hf1)
    have hm2:=HM2.out.under ((Below.refl _ _).alloc (Nat.le_refl _) (.cells #[.string ⟨#[84]⟩,.string ⟨#[84,32,102]⟩,.string ⟨#[84,32,102,32,103]⟩] 9 (0,0)))
    have hrw:=heap_alloc_new w2 (.cells #[.string ⟨#[84]⟩,.string ⟨#[84,32,102]⟩,.string ⟨#[84,32,102,32,103]⟩] 9 (0,0))
    obtain⟨tb,htb⟩:∃tb,w2.heap.size=tb:=⟨_,rfl⟩
    obtain⟨W2,hW2⟩:∃W2,w2.alloc (.cells #[.string ⟨#[84]⟩,.string ⟨#[84,32,102]⟩,.string ⟨#[84,32,102,32,103]⟩] 9 (0,0))=W2:=⟨_,rfl⟩
    rw[hW2] at hm2 hrw
    rw[htb] at hrw
    have HMX:=Lib.hid hm2
    have q0:=row_at rfl hrw HRW.out
    clear hm2 hrw HM2 HM1
    go_wp2_with (go_at_call 73;with_reducible refine(HAD.out _ _ HMX.out).mono ?_;rintro e w4 ⟨rfl,cv4,h3⟩)
    first|refine bodyPost_end (results_none rfl _ _ _) rfl ?_|refine bodyPost_ret (results_none rfl _ _ _) rfl ?_
    exact⟨rfl,_,by rw[HPK.out];exact h3⟩
   ·have HAD:Hid (AddC lo W0 kb rc ra fn f2 (f2.add 33 2 [] 1 2) 33 2 ⟨#[]⟩ 1 2):=Lib.hid (addC 33 2 [] 1 2 (by omega) (by omega) (by omega))
    go_wp2_with (first|(go_at_call 31;with_reducible refine(HN16.out _ _ HM1.out).mono ?_;rintro e w2 ⟨rfl,h1,hf1⟩;have HM2:=Lib.hid h1;clear h1 hf1)|(go_at_call 73;with_reducible refine(HAD.out _ _ HM2.out).mono ?_;rintro e w4 ⟨rfl,cv4,h3⟩))
    first|refine bodyPost_end (results_none rfl _ _ _) rfl ?_|refine bodyPost_ret (results_none rfl _ _ _) rfl ?_
    exact⟨rfl,_,h3⟩
   ·obtain⟨J,m2,hj⟩:∃J m2,f2.next 2=(J,m2):=⟨_,_,rfl⟩
    obtain⟨hJ,a2,b2,c2,d2,t2,_⟩:=next_eq hj (by omega)
    have b2l:m2.code.length=f2.code.length:=by rw[b2]
    have HPK:Hid (f2.pick n 11=m2.add 22 J [102] 1 1):=Lib.hid (by rw[show f2.pick n 11=(f2.next 2).2.add 22 (f2.next 2).1 [102] 1 1 from rfl,hj])
    have HN2:Hid (NextC lo W0 kb rc ra fn f2 m2 2 J):=Lib.hid (nextC hj (by omega) (by omega) (by omega))
    have HAD:Hid (AddC lo W0 kb rc ra fn m2 (m2.add 22 J [102] 1 1) 22 J ⟨#[102]⟩ 1 1):=Lib.hid (addC 22 J [102] 1 1 (by omega) (by omega) (by omega))
    go_wp2_with (first
     |(go_at_call 31;with_reducible refine(HN16.out _ _ HM1.out).mono ?_;rintro e w2 ⟨rfl,h1,hf1⟩;have HM2:=Lib.hid h1;clear h1 hf1)
     |(go_at_call 31;with_reducible refine(HN2.out _ _ HM2.out).mono ?_;rintro e w3 ⟨rfl,h1,hf1⟩;have HM3:=Lib.hid h1;clear h1 hf1)
     |(go_at_call 73;with_reducible refine(HAD.out _ _ HM3.out).mono ?_;rintro e w4 ⟨rfl,cv4,h3⟩))
    first|refine bodyPost_end (results_none rfl _ _ _) rfl ?_|refine bodyPost_ret (results_none rfl _ _ _) rfl ?_
    exact⟨rfl,_,by rw[HPK.out];exact h3⟩
   ·obtain⟨J,m2,hj⟩:∃J m2,f2.next f2.slots=(J,m2):=⟨_,_,rfl⟩
    obtain⟨hJ,a2,b2,c2,d2,t2,_⟩:=next_eq hj (by omega)
    have b2l:m2.code.length=f2.code.length:=by rw[b2]
    have HN2:Hid (NextC lo W0 kb rc ra fn f2 m2 f2.slots J):=Lib.hid (nextC hj (by omega) (by omega) (by omega))
    obtain⟨g1,hg1⟩:∃g1,m2.add 38 J [] 0 0=g1:=⟨_,rfl⟩
    obtain⟨x0,y0,z0⟩:=add_facts hg1
    have HA0:Hid (AddC lo W0 kb rc ra fn m2 g1 38 J ⟨#[]⟩ 0 0):=Lib.hid (hg1▸addC 38 J [] 0 0 (by omega) (by omega) (by omega))
    obtain⟨g2,hg2⟩:∃g2,g1.add 43 0 [102] 0 0=g2:=⟨_,rfl⟩
    obtain⟨x1,y1,z1⟩:=add_facts hg2
    have HA1:Hid (AddC lo W0 kb rc ra fn g1 g2 43 0 ⟨#[102]⟩ 0 0):=Lib.hid (hg2▸addC 43 0 [102] 0 0 (by omega) (by omega) (by omega))
    obtain⟨g3,hg3⟩:∃g3,g2.add 44 0 [] 0 0=g3:=⟨_,rfl⟩
    obtain⟨x2,y2,z2⟩:=add_facts hg3
    have HA2:Hid (AddC lo W0 kb rc ra fn g2 g3 44 0 ⟨#[]⟩ 0 0):=Lib.hid (hg3▸addC 44 0 [] 0 0 (by omega) (by omega) (by omega))
    obtain⟨g4,hg4⟩:∃g4,g3.add 45 0 [] 0 0=g4:=⟨_,rfl⟩
    obtain⟨x3,y3,z3⟩:=add_facts hg4
    have HA3:Hid (AddC lo W0 kb rc ra fn g3 g4 45 0 ⟨#[]⟩ 0 0):=Lib.hid (hg4▸addC 45 0 [] 0 0 (by omega) (by omega) (by omega))
    have HPK:Hid (f2.pick n 12=g4):=Lib.hid (by rw[show f2.pick n 12=((((f2.next f2.slots).2.add 38 (f2.next f2.slots).1 [] 0 0).add 43 0 [102] 0 0).add 44 0 [] 0 0).add 45 0 [] 0 0 from rfl,hj,hg1,hg2,hg3,hg4])
    clear hg1 hg2 hg3 hg4 hj
    go_upto_region 30 with(go_at_call 31;with_reducible refine(HN16.out _ _ HM1.out).mono ?_;rintro e w2 ⟨rfl,h1,hf1⟩;have HM2:=Lib.hid h1;clear h1 hf1)
    have q4:=HM2.out.c4
    go_wp2_with (first
     |(go_at_call 31;with_reducible refine(HN2.out _ _ HM2.out).mono ?_;rintro e w3 ⟨rfl,h1,hf1⟩;have HM3:=Lib.hid h1;clear h1 hf1)
     |(go_at_call 73;with_reducible refine(HA0.out _ _ HM3.out).mono ?_;rintro e w4 ⟨rfl,cv4,h3⟩;have HM4:=Lib.hid h3;clear h3)
     |(go_at_call 73;with_reducible refine(HA1.out _ _ HM4.out).mono ?_;rintro e w5 ⟨rfl,cv5,h3⟩;have HM5:=Lib.hid h3;clear h3)
     |(go_at_call 73;with_reducible refine(HA2.out _ _ HM5.out).mono ?_;rintro e w6 ⟨rfl,cv6,h3⟩;have HM6:=Lib.hid h3;clear h3)
     |(go_at_call 73;with_reducible refine(HA3.out _ _ HM6.out).mono ?_;rintro e w7 ⟨rfl,cv7,h3⟩))
    first|refine bodyPost_end (results_none rfl _ _ _) rfl ?_|refine bodyPost_ret (results_none rfl _ _ _) rfl ?_
    exact⟨rfl,_,by rw[HPK.out];exact h3⟩
   ·obtain⟨g1,hg1⟩:∃g1,f2.add 51 0 [] 1 0=g1:=⟨_,rfl⟩
    obtain⟨x0,y0,z0⟩:=add_facts hg1
    have HA0:Hid (AddC lo W0 kb rc ra fn f2 g1 51 0 ⟨#[]⟩ 1 0):=Lib.hid (hg1▸addC 51 0 [] 1 0 (by omega) (by omega) (by omega))
    obtain⟨g2,hg2⟩:∃g2,g1.add 2 0 [] 0 0=g2:=⟨_,rfl⟩
    obtain⟨x1,y1,z1⟩:=add_facts hg2
    have HA1:Hid (AddC lo W0 kb rc ra fn g1 g2 2 0 ⟨#[]⟩ 0 0):=Lib.hid (hg2▸addC 2 0 [] 0 0 (by omega) (by omega) (by omega))
    obtain⟨g3,hg3⟩:∃g3,g2.add 52 (g1.code.length+5:Nat) [] 0 0=g3:=⟨_,rfl⟩
    obtain⟨x2,y2,z2⟩:=add_facts hg3
    have HA2:Hid (AddC lo W0 kb rc ra fn g2 g3 52 ((g1.code.length:Int)+5) ⟨#[]⟩ 0 0):=Lib.hid (hg3▸addC 52 (g1.code.length+5:Nat) [] 0 0 (by omega) (by omega) (by omega))
    obtain⟨g4,hg4⟩:∃g4,g3.add 16 0 [] 0 0=g4:=⟨_,rfl⟩
    obtain⟨x3,y3,z3⟩:=add_facts hg4
    have HA3:Hid (AddC lo W0 kb rc ra fn g3 g4 16 0 ⟨#[]⟩ 0 0):=Lib.hid (hg4▸addC 16 0 [] 0 0 (by omega) (by omega) (by omega))
    obtain⟨g5,hg5⟩:∃g5,g4.add 16 0 [] 0 0=g5:=⟨_,rfl⟩
    obtain⟨x4,y4,z4⟩:=add_facts hg5
    have HA4:Hid (AddC lo W0 kb rc ra fn g4 g5 16 0 ⟨#[]⟩ 0 0):=Lib.hid (hg5▸addC 16 0 [] 0 0 (by omega) (by omega) (by omega))
    obtain⟨g6,hg6⟩:∃g6,g5.add 34 g1.code.length [] 0 0=g6:=⟨_,rfl⟩
    obtain⟨x5,y5,z5⟩:=add_facts hg6
    have HA5:Hid (AddC lo W0 kb rc ra fn g5 g6 34 g1.code.length ⟨#[]⟩ 0 0):=Lib.hid (hg6▸addC 34 g1.code.length [] 0 0 (by omega) (by omega) (by omega))
    have HPK:Hid (f2.pick n 13=g6):=Lib.hid (by rw[show f2.pick n 13=(((((f2.add 51 0 [] 1 0).add 2 0 [] 0 0).add 52 ((f2.add 51 0 [] 1 0).code.length+5:Nat) [] 0 0).add 16 0 [] 0 0).add 16 0 [] 0 0).add 34 (f2.add 51 0 [] 1 0).code.length [] 0 0 from rfl,hg1,hg2,hg3,hg4,hg5,hg6])
    have e5:IntKind.i64.wrap ((g1.code.length:Int)+5)=(g1.code.length:Int)+5:=by rw[IntKind.wrap_i64];omega
    clear hg1 hg2 hg3 hg4 hg5 hg6 x0 y0 z0 x1 y1 z1 x2 y2 z2 x3 y3 z3 x4 y4 z4 x5 y5 z5
    go_upto_region 36 with(first|(go_at_call 31;with_reducible refine(HN16.out _ _ HM1.out).mono ?_;rintro e w2 ⟨rfl,h1,hf1⟩;have HM2:=Lib.hid h1;clear h1 hf1)|(go_at_call 73;with_reducible refine(HA0.out _ _ HM2.out).mono ?_;rintro e w4 ⟨rfl,cv4,h3⟩;have HM4:=Lib.hid h3;clear h3))
    obtain⟨gf,cc,q2⟩:=HM4.out.c2
    go_wp2_with (first
     |(go_at_call 73;with_reducible refine(HA1.out _ _ HM4.out).mono ?_;rintro e w5 ⟨rfl,cv5,h3⟩;have HM5:=Lib.hid h3;clear h3)
     |(go_at_call 73;with_reducible refine(HA2.out _ _ HM5.out).mono ?_;rintro e w6 ⟨rfl,cv6,h3⟩;have HM6:=Lib.hid h3;clear h3)
     |(go_at_call 73;with_reducible refine(HA3.out _ _ HM6.out).mono ?_;rintro e w7 ⟨rfl,cv7,h3⟩;have HM7:=Lib.hid h3;clear h3)
     |(go_at_call 73;with_reducible refine(HA4.out _ _ HM7.out).mono ?_;rintro e w8 ⟨rfl,cv8,h3⟩;have HM8:=Lib.hid h3;clear h3)
     |(go_at_call 73;with_reducible refine(HA5.out _ _ HM8.out).mono ?_;rintro e w9 ⟨rfl,cv9,h3⟩))
    first|refine bodyPost_end (results_none rfl _ _ _) rfl ?_|refine bodyPost_ret (results_none rfl _ _ _) rfl ?_
    exact⟨rfl,_,by rw[HPK.out];exact h3⟩
   ·obtain⟨g1,hg1⟩:∃g1,f2.add 35 (f2.code.length+3:Nat) [] 1 0=g1:=⟨_,rfl⟩
    obtain⟨x0,y0,z0⟩:=add_facts hg1
    have HA0:Hid (AddC lo W0 kb rc ra fn f2 g1 35 ((f2.code.length:Int)+3) ⟨#[]⟩ 1 0):=Lib.hid (hg1▸addC 35 (f2.code.length+3:Nat) [] 1 0 (by omega) (by omega) (by omega))
    obtain⟨g2,hg2⟩:∃g2,g1.add 7 0 [] 0 0=g2:=⟨_,rfl⟩
    obtain⟨x1,y1,z1⟩:=add_facts hg2
    have HA1:Hid (AddC lo W0 kb rc ra fn g1 g2 7 0 ⟨#[]⟩ 0 0):=Lib.hid (hg2▸addC 7 0 [] 0 0 (by omega) (by omega) (by omega))
    obtain⟨g3,hg3⟩:∃g3,g2.add 16 0 [] 0 0=g3:=⟨_,rfl⟩
    obtain⟨x2,y2,z2⟩:=add_facts hg3
    have HA2:Hid (AddC lo W0 kb rc ra fn g2 g3 16 0 ⟨#[]⟩ 0 0):=Lib.hid (hg3▸addC 16 0 [] 0 0 (by omega) (by omega) (by omega))
    have HPK:Hid (f2.pick n 14=g3):=Lib.hid (by rw[show f2.pick n 14=((f2.add 35 (f2.code.length+3:Nat) [] 1 0).add 7 0 [] 0 0).add 16 0 [] 0 0 from rfl,hg1,hg2,hg3])
    clear hg1 hg2 hg3
    go_upto_region 43 with(go_at_call 31;with_reducible refine(HN16.out _ _ HM1.out).mono ?_;rintro e w2 ⟨rfl,h1,hf1⟩;have HM2:=Lib.hid h1;clear h1 hf1)
    obtain⟨gf,cc,q2⟩:=HM2.out.c2
    go_wp2_with (first
     |(go_at_call 73;with_reducible refine(HA0.out _ _ HM2.out).mono ?_;rintro e w4 ⟨rfl,cv4,h3⟩;have HM4:=Lib.hid h3;clear h3)
     |(go_at_call 73;with_reducible refine(HA1.out _ _ HM4.out).mono ?_;rintro e w5 ⟨rfl,cv5,h3⟩;have HM5:=Lib.hid h3;clear h3)
     |(go_at_call 73;with_reducible refine(HA2.out _ _ HM5.out).mono ?_;rintro e w6 ⟨rfl,cv6,h3⟩))
    first|refine bodyPost_end (results_none rfl _ _ _) rfl ?_|refine bodyPost_ret (results_none rfl _ _ _) rfl ?_
    exact⟨rfl,_,by rw[HPK.out];exact h3⟩
   ·have HAD:Hid (AddC lo W0 kb rc ra fn f2 (f2.add 48 0 [] 1 0) 48 0 ⟨#[]⟩ 1 0):=Lib.hid (addC 48 0 [] 1 0 (by omega) (by omega) (by omega))
    go_wp2_with (first|(go_at_call 31;with_reducible refine(HN16.out _ _ HM1.out).mono ?_;rintro e w2 ⟨rfl,h1,hf1⟩;have HM2:=Lib.hid h1;clear h1 hf1)|(go_at_call 73;with_reducible refine(HAD.out _ _ HM2.out).mono ?_;rintro e w4 ⟨rfl,cv4,h3⟩))
    first|refine bodyPost_end (results_none rfl _ _ _) rfl ?_|refine bodyPost_ret (results_none rfl _ _ _) rfl ?_
    exact⟨rfl,_,h3⟩
theorem isWrongC (p:Value) (w:World):Sem.run Tryz.prog (Instr.typeAssert (.iface 42 p) 38 42 true) w= .ok (.tuple #[p,.bool true]) w:=by kernel_rfl
theorem eql_wrong (c a c' a':Int) (s s':ByteArray) (w:World):(binOp .eql 46 (.agg #[.int .i64 c,.int .i64 a,.string s]) (.agg #[.int .i64 c',.int .i64 a',.string s'])).run Tryz.prog w= .ok (.bool (c==c'&&(a==a'&&decide (s=s')))) w:=by
 have hS:Tryz.prog.underlying 46=some (.struct (Tryz.prog.fieldsOf 46)):=by kernel_rfl
 have hp:Tryz.prog.stoodInHeld 46=false:=by kernel_rfl
 rw[run_eql_struct,show(10000:Nat)=9999+1 from rfl,run_equalIn_agg w 9999 _ _ _ hS hp]
 simp only[Program.fieldsOf,Tryz.underlying46]
 go_simp
 have ht:s.toList=s'.toList ↔ s=s':=⟨toList_inj,congrArg _⟩
 by_cases h1:c=c'<;>by_cases h2:a=a'<;>by_cases h3:s=s'<;>simp[ht,h1,h2,h3]
theorem told_wrong {w:World} {b:Nat} {c a:Int} {i:Option Int} (h:WrAt w b c a i) (c' a':Int) (s':ByteArray) (h0:c'≠0):
  Calls Tryz.prog 17 #[.iface 42 (.pointer (some ⟨b,0,none⟩)),.agg #[.int .i64 c',.int .i64 a',.string s']] w fun e w'=>e= .returned (.bool (c==c'&&(a==a'&&decide (insName i=s'))))∧Below w.heap.size w w':=by
 obtain⟨s,hs⟩:∃s,insName i=s:=⟨_,rfl⟩
 unfold WrAt at h
 rw[hs] at h⊢
 have hb:=(Array.getElem?_eq_some_iff.1 h).1
 have hB:Below w.heap.size w (w.alloc (.cells #[.int .i64 c',.int .i64 a',.string s'] 46 (0,0))):=(Below.refl _ _).alloc (Nat.le_refl _) _
 have h1:=(heap_alloc_old w (.cells #[.int .i64 c',.int .i64 a',.string s'] 46 (0,0)) hb).trans h
 have h2:=heap_alloc_new w (.cells #[.int .i64 c',.int .i64 a',.string s'] 46 (0,0))
 have e0:(c'==0)=false:=by simp[h0]
 have heq:=eql_wrong c a c' a' s s'
 have hta:=isWrongC
 obtain⟨R,hR⟩:∃R,(c==c'&&(a==a'&&decide (s=s')))=R:=⟨_,rfl⟩
 rw[hR] at heq⊢
 have HB:=Lib.hid hB
 clear hR h hs h0 hB
 go_enter Tryz.func17,Tryz.ntmps17
 go_upto_region 4 with fail
 obtain⟨nb,hnb⟩:∃nb,w.heap.size=nb:=⟨_,rfl⟩
 obtain⟨W1,hW1⟩:∃W1,w.alloc (.cells #[.int .i64 c',.int .i64 a',.string s'] 46 (0,0))=W1:=⟨_,rfl⟩
 simp only[hnb,hW1] at h1 h2 HB⊢
 have t0:∀k,(W1.drewN k).cell? ⟨b,0,none⟩=some (.int .i64 c):=fun _=>cell_of_row W1 b 0 _ _ _ h1
 have t1:∀k,(W1.drewN k).cell? ⟨b,1,none⟩=some (.int .i64 a):=fun _=>cell_of_row W1 b 1 _ _ _ h1
 have t2:∀k,(W1.drewN k).cell? ⟨b,2,none⟩=some (.string s):=fun _=>cell_of_row W1 b 2 _ _ _ h1
 have u0:∀k,(W1.drewN k).cell? ⟨nb,0,none⟩=some (.int .i64 c'):=fun _=>cell_of_row W1 nb 0 _ _ _ h2
 have u1:∀k,(W1.drewN k).cell? ⟨nb,1,none⟩=some (.int .i64 a'):=fun _=>cell_of_row W1 nb 1 _ _ _ h2
 have u2:∀k,(W1.drewN k).cell? ⟨nb,2,none⟩=some (.string s'):=fun _=>cell_of_row W1 nb 2 _ _ _ h2
 clear h1 h2 hW1
 go_quiet (fail)
 go_wp2_with fail
 go_ret
 exact⟨rfl,by rw[hnb];exact under_drew HB.out _⟩
theorem prog_result (tmps:Array Value) (W:World) (g:Nat) (v0 v1:Value) (h2:tmps.getD 0 undef= .pointer (some ⟨g,0,none⟩)) (e0:W.cell? ⟨g,0,none⟩=some v0) (e1:W.cell? ⟨g,1,none⟩=some v1):
  (results Tryz.f29 tmps).run Tryz.prog W= .ok (.agg #[v0,v1]) W:=by
 have h2':tmps[0]?.getD undef= .pointer (some ⟨g,0,none⟩):=by simpa using h2
 have hres:Tryz.f29.results= #[ResultVar.cell 0 27]:=rfl
 simp[results,go_sem,h2',e0,e1]
theorem row_of_block {W:World} {b:Nat} {cs:List Value} {t:TypeId} {fr:Nat×Nat} (h:W.heap[b]? =some (.cells cs.toArray t fr)):RowIs W W.heap.size (some ⟨b,0,none⟩) cs:=
 .inr ⟨b,0,rfl,(Array.getElem?_eq_some_iff.1 h).1,fun j v hj=>by rw[Nat.zero_add,cell_of_row W b j _ _ _ h,List.getElem?_toArray,hj]⟩
theorem one_lies {W:World} {fb cb n:Nat} {f:Cf} {cs1 cs2:Array Value} (hn:f.code.length=n) (ht:f.taken=[]) (e1:cs1=(fnCells (f,⟨none,0,some ⟨cb,0,none⟩,n⟩)).toArray) (e2:cs2=(f.code.flatMap insCells).toArray) (hf:W.heap[fb]? =some (.cells cs1 33 (0,0))) (hc:W.heap[cb]? =some (.cells cs2 36 (0,0))):
  LiesC W W.heap.size ⟨[f],[]⟩ (.agg #[.slice (some ⟨fb,0,none⟩) 1 1,.slice none 0 0]):=by
 subst e1 e2 hn
 refine⟨some ⟨fb,0,none⟩,1,none,0,[(f,⟨none,0,some ⟨cb,0,none⟩,f.code.length⟩)],rfl,rfl, ?_,.inl rfl,Nat.le_refl _,Nat.le_refl _,fun x hx=> ?_⟩
 ·rw[List.flatMap_cons,List.flatMap_nil,List.append_nil]
  exact row_of_block hf
 rw[List.mem_singleton.1 hx]
 exact⟨.inl (by rw[ht];rfl),row_of_block hc,by rw[ht];exact Nat.le_refl _,Nat.le_refl _⟩
theorem least_any (w:World):Calls Tryz.prog 29 #[] w fun e w'=>∃v,e= .returned v∧LiesC w' w'.heap.size least v∧Below w.heap.size w w':=by
 go_enter Tryz.func29,Tryz.ntmps29
 go_wp2_with fail
 have h0:∀A B C:Obj,(((w.alloc A).alloc B).alloc C).heap[w.heap.size]? =some A∧(((w.alloc A).alloc B).alloc C).heap[w.heap.size+1]? =some B∧(((w.alloc A).alloc B).alloc C).heap[w.heap.size+1+1]? =some C∧Below w.heap.size w (((w.alloc A).alloc B).alloc C):=by
  intro A B C
  have s1:(w.alloc A).heap.size=w.heap.size+1:=World.size_alloc _ _
  have s2:((w.alloc A).alloc B).heap.size=w.heap.size+1+1:=by rw[World.size_alloc,s1]
  have n1:=heap_alloc_new (w.alloc A) B
  have n2:=heap_alloc_new ((w.alloc A).alloc B) C
  rw[s1] at n1
  rw[s2] at n2
  refine⟨(heap_alloc_old _ _ (by omega)).trans ((heap_alloc_old _ _ (by omega)).trans (heap_alloc_new w A)),(heap_alloc_old _ _ (by omega)).trans n1,n2, ?_⟩
  exact(((Below.refl _ _).alloc (Nat.le_refl _) A).alloc (by omega) B).alloc (by omega) C
 obtain⟨h1,h2,h3,h4⟩:=h0 (.cells #[.slice (some ⟨w.heap.size+1+1,0,none⟩) 1 1,.slice none 0 0] 27 (0,0)) (.cells #[.int .i64 7,.int .i64 0,.int .i64 0,.string ⟨#[]⟩,.int .i64 0,.int .i64 50,.int .i64 0,.int .i64 0,.string ⟨#[]⟩,.int .i64 0] 36 (0,0)) (.cells #[.string ⟨#[]⟩,.int .i64 0,.int .i64 1,.slice none 0 0,.int .i64 (-1),.slice (some ⟨w.heap.size+1,0,none⟩) 2 2] 33 (0,0))
 obtain⟨c0,c1⟩:=cr2 _ w.heap.size h1
 simp only[gq] at c0 c1
 exact bodyPost_ret (prog_result _ _ w.heap.size _ _ rfl c0 c1) rfl ⟨_,rfl,one_lies (f:=leastF) rfl rfl rfl rfl h3 h2,h4⟩
theorem LiesC.up {w W:World} {p:Cp} {v:Value} (h:LiesC w w.heap.size p v) (hb:Below w.heap.size w W):LiesC W W.heap.size p v:=(h.keep hb.block).more hb.size
def badF:Cf:=⟨⟨#[]⟩,0,0,[],-1,[⟨50,0,0,⟨#[]⟩,0⟩]⟩
theorem okI0:okI 0:=⟨by decide,by decide⟩
theorem okI1:okI 1:=⟨by decide,by decide⟩
theorem okIm:okI (-1):=⟨by decide,by decide⟩
theorem least_ci (op:Int) (h:okI op):CiOk ⟨op,0,0,⟨#[]⟩,0⟩:=⟨h,okI0,okI0,okI0,by show(0:Nat)≤_;omega⟩
theorem least_cf:CfOk leastF:=by
 refine⟨by show(0:Nat)≤_;omega,okI0,okI1,okIm,by show(0:Nat)≤_;omega,by show(2:Nat)≤_;omega,fun t ht=>(nomatch ht),fun x hx=> ?_⟩
 rcases List.mem_cons.1 hx with rfl|hx
 ·exact least_ci 7 ⟨by decide,by decide⟩
 ·rw[List.mem_singleton.1 hx]
  exact least_ci 50 ⟨by decide,by decide⟩
theorem least_ok:CpOk least:=⟨by decide,by decide,fun f hf=>by rw[List.mem_singleton.1 hf];exact least_cf,fun s hs=>(nomatch hs)⟩
theorem ins0:insName (some 0)=⟨#[48]⟩:=by simp[insName,itoa_0]
theorem least_B:leastB=[71,67,48,49,0,2,0,0,2,0,1,4,14,0,0,0,0,100,0,0,0,0]:=rfl
structure KnAt (w W:World) (b:Nat) (v0 v1:Value):Prop where
 low:Below w.heap.size w W
 box:W.heap[b]? =some (.cells #[v0,v1] 27 (0,0))
 lies:LiesC W W.heap.size least (.agg #[v0,v1])
theorem KnAt.under {w W W':World} {b:Nat} {v0 v1:Value} (h:KnAt w W b v0 v1) (hb:Below W.heap.size W W'):KnAt w W' b v0 v1:=
 ⟨h.low.trans (hb.mono h.low.size),(hb.block b (Array.getElem?_eq_some_iff.1 h.box).1).trans h.box,h.lies.up hb⟩
theorem KnAt.new {w W:World} {v0 v1:Value} (hl:Below w.heap.size w W) (h:LiesC W W.heap.size least (.agg #[v0,v1])):KnAt w (W.alloc (.cells #[v0,v1] 27 (0,0))) W.heap.size v0 v1:=
 ⟨hl.alloc hl.size _,heap_alloc_new _ _,h.up ((Below.refl _ _).alloc (Nat.le_refl _) _)⟩
theorem KnAt.alloc {w W:World} {b:Nat} {v0 v1:Value} (h:KnAt w W b v0 v1) (o:Obj):KnAt w (W.alloc o) b v0 v1:=h.under ((Below.refl _ _).alloc (Nat.le_refl _) _)
theorem KnAt.cs {w W:World} {b:Nat} {v0 v1:Value} (h:KnAt w W b v0 v1):W.cell? ⟨b,0,none⟩=some v0∧W.cell? ⟨b,1,none⟩=some v1:=by
 obtain⟨c0,c1⟩:=cr2 W b h.box
 simp only[gq] at c0 c1
 exact⟨c0,c1⟩
theorem same_least {W:World} {u v:Value} (h:LiesC W W.heap.size least u) (h':LiesC W W.heap.size least v):Calls Tryz.prog 25 #[u,v] W fun e w'=>e= .returned (.bool true)∧Below W.heap.size W w':=by
 have:=same13_any h h' least_ok
 rw[sameC_self] at this
 exact this
theorem sameC_least {W:World} {u v:Value} (h:LiesC W W.heap.size least u) (h':LiesC W W.heap.size least v):Calls Tryz.prog 30 #[u,v] W fun e w'=>e= .returned (.bool true)∧Below W.heap.size W w':=by
 have:=sameC_any h h' least_ok
 rw[sameC_self] at this
 exact this
end Go.Proofs.YtagnicbknbmccaaGreatDoor
