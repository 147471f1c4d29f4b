/- guiselaw13's Maker in memory: push. -/
import Derived.Test.YtagnicbknbmccaaGreatDoorSqC
import Derived.Test.YtagnicbknbmccaaGreatDoorMLnB
import Derived.Test.YtagnicbknbmccaaGreatDoorMCtL
set_option maxRecDepth 100000
set_option maxHeartbeats 1000000
namespace Go.Proofs.YtagnicbknbmccaaGreatDoor
open Go.RowKit
theorem next_to {lo:Nat} {W0 W:World} {kb rc:Nat} {ra:Option Addr} {cv:Value} {fn:Int} {m m1:Mk} {n K:Nat} (h:MkAt lo W0 W kb ra rc cv fn m) (hk:m.next n=(K,m1)) (h0:0<n) (hn:n≤1000000000) (ha:m.at_≤1000000000):
  Calls Tryz.prog 31 #[.pointer (some ⟨kb,0,none⟩),.int .i64 n] W fun e W'=>e= .returned (.int .i64 K)∧MkAt lo W0 W' kb ra rc cv fn m1∧W'.heap.size=W.heap.size∧∀g,g≠kb→W'.heap[g]? =W.heap[g]? :=by
 have:=next_any h n h0 hn ha
 rw[hk] at this
 exact this
theorem next_eq {m m1:Mk} {n K:Nat} (hk:m.next n=(K,m1)) (h0:0<n):K<n∧m1.at_=m.at_+1∧m1.code=m.code∧m1.high=m.high∧m1.slots=m.slots∧m1.tops=m.tops∧m1.raw=m.raw:=by
 have h1:=next_lt m h0
 have h2:m1= {m with at_:=m.at_+1}:=(congrArg Prod.snd hk).symm
 rw[hk] at h1
 subst h2
 exact⟨h1,rfl,rfl,rfl,rfl,rfl,rfl⟩
def MkPost (lo:Nat) (W0:World) (kb:Nat) (ra:Option Addr) (rc:Nat) (fn:Int) (m:Mk) (e:Ending) (W':World):Prop:=e= .returned (.tuple #[])∧∃cv',MkAt lo W0 W' kb ra rc cv' fn m
theorem push_0 {lo:Nat} {W0 W:World} {kb rc:Nat} {ra:Option Addr} {cv:Value} {fn:Int} {m m1:Mk} (h:MkAt lo W0 W kb ra rc cv fn m) (ha:m.at_≤100000000) (hh:m.high≤900000) (hc:m.code.length≤900000) (_hs:0<m.slots∧m.slots≤1000000) (_ht:m.tops≤1000000) (hk:m.next 9=(0,m1)):Calls Tryz.prog 75 #[.pointer (some ⟨kb,0,none⟩)] W (MkPost lo W0 kb ra rc fn m.push):=by
 obtain⟨_,a1,b1,c1,d1,t1,_⟩:=next_eq hk (by decide)
 have HN9:Hid (Calls Tryz.prog 31 #[.pointer (some ⟨kb,0,none⟩),.int .i64 9] W fun e W'=>e= .returned (.int .i64 0)∧MkAt lo W0 W' kb ra rc cv fn m1):=Lib.hid ((next_to h hk (by decide) (by decide) (by omega)).mono fun e W' hp=>⟨hp.1,hp.2.1⟩)
 have hM:m.push=(m1.next 4).2.add 3 0 (pushInts.getD (m1.next 4).1 []) 0 1:=by unfold Mk.push;rw[hk];rfl
 rw[hM]
 clear hM
 obtain⟨J,m2,hj⟩:∃J m2,m1.next 4=(J,m2):=⟨_,_,rfl⟩
 obtain⟨hJ,a2,b2,c2,d2,t2,_⟩:=next_eq hj (by decide)
 rw[hj]
 dsimp only
 obtain⟨T,hT⟩:∃T,pushInts.getD J []=T:=⟨_,rfl⟩
 rw[hT]
 have hrow:(#[Value.string ⟨#[48]⟩,Value.string ⟨#[45,53]⟩,Value.string ⟨#[57,50,50,51,51,55,50,48,51,54,56,53,52,55,55,53,56,48,55]⟩,Value.string ⟨#[45,57,50,50,51,51,55,50,48,51,54,56,53,52,55,55,53,56,48,56]⟩]:Array Value)[J]? =some (.string ⟨⟨T⟩⟩):=by
  rw[←hT]
  match J,hJ with
  |0,_=>rfl
  |1,_=>rfl
  |2,_=>rfl
  |3,_=>rfl
 have HM:=Lib.hid h
 have HRW:=Lib.hid hrow
 rw[b1] at b2
 rw[c1] at c2
 rw[a1] at a2
 clear h hT hrow
 go_enter Tryz.func75,Tryz.ntmps75
 go_upto_region 3 with(go_at_call 31;with_reducible refine HN9.out.mono ?_;rintro e w1 ⟨rfl,h1⟩;have HM1:=Lib.hid h1;clear h1)
 have hm2:=HM1.out.under ((Below.refl _ _).alloc (Nat.le_refl _) (.cells #[.string ⟨#[48]⟩,.string ⟨#[45,53]⟩,.string ⟨#[57,50,50,51,51,55,50,48,51,54,56,53,52,55,55,53,56,48,55]⟩,.string ⟨#[45,57,50,50,51,51,55,50,48,51,54,56,53,52,55,55,53,56,48,56]⟩] 9 (0,0)))
 have hrw:=heap_alloc_new w1 (.cells #[.string ⟨#[48]⟩,.string ⟨#[45,53]⟩,.string ⟨#[57,50,50,51,51,55,50,48,51,54,56,53,52,55,55,53,56,48,55]⟩,.string ⟨#[45,57,50,50,51,51,55,50,48,51,54,56,53,52,55,55,53,56,48,56]⟩] 9 (0,0))
 have hzz:=World.size_alloc w1 (.cells #[.string ⟨#[48]⟩,.string ⟨#[45,53]⟩,.string ⟨#[57,50,50,51,51,55,50,48,51,54,56,53,52,55,55,53,56,48,55]⟩,.string ⟨#[45,57,50,50,51,51,55,50,48,51,54,56,53,52,55,55,53,56,48,56]⟩] 9 (0,0))
 have hkl:=HM1.out.lt
 obtain⟨tb,htb⟩:∃tb,w1.heap.size=tb:=⟨_,rfl⟩
 obtain⟨W2,hW2⟩:∃W2,w1.alloc (.cells #[.string ⟨#[48]⟩,.string ⟨#[45,53]⟩,.string ⟨#[57,50,50,51,51,55,50,48,51,54,56,53,52,55,55,53,56,48,55]⟩,.string ⟨#[45,57,50,50,51,51,55,50,48,51,54,56,53,52,55,55,53,56,48,56]⟩] 9 (0,0))=W2:=⟨_,rfl⟩
 rw[hW2] at hm2 hrw hzz
 rw[htb] at hrw hzz hkl
 have hne:tb≠kb:=by omega
 have HN2:Hid (Calls Tryz.prog 31 #[.pointer (some ⟨kb,0,none⟩),.int .i64 4] W2 fun e W'=>e= .returned (.int .i64 J)∧MkAt lo W0 W' kb ra rc cv fn m2∧W'.cell? ⟨tb,J,none⟩=some (.string ⟨⟨T⟩⟩)):=Lib.hid ((next_to hm2 hj (by decide) (by decide) (by omega)).mono fun e W' hp=>⟨hp.1,hp.2.1,by
  have q0:=cell_of_row W' tb J _ _ _ ((hp.2.2.2 _ hne).trans hrw)
  rw[HRW.out] at q0
  exact q0⟩)
 have HAD:Hid (∀w3,MkAt lo W0 w3 kb ra rc cv fn m2→Calls Tryz.prog 73 #[.pointer (some ⟨kb,0,none⟩),.int .i64 3,.int .i64 0,.string ⟨⟨T⟩⟩,.int .i64 0,.int .i64 1] w3 fun e W'=>e= .returned (.tuple #[])∧∃cv',MkAt lo W0 W' kb ra rc cv' fn (m2.add 3 0 T 0 1)):=Lib.hid fun w3 h3=>add_any h3 3 0 T 0 1 (by omega) (by omega) (by omega) (by rw[b2];omega)
 clear HM HM1 hm2 hrw
 go_wp2_with (first
  |(go_at_call 31;with_reducible refine HN2.out.mono ?_;rintro e w3 ⟨rfl,h1,q0⟩;have HM3:=Lib.hid h1;clear h1)
  |(go_at_call 73;refine(HAD.out _ HM3.out).mono ?_;rintro e w4 ⟨rfl,cv3,h3⟩))
 first|refine bodyPost_end (results_none rfl _ _ _) rfl ?_|refine bodyPost_ret (results_none rfl _ _ _) rfl ?_
 exact⟨rfl,_,h3⟩
theorem push_1 {lo:Nat} {W0 W:World} {kb rc:Nat} {ra:Option Addr} {cv:Value} {fn:Int} {m m1:Mk} (h:MkAt lo W0 W kb ra rc cv fn m) (ha:m.at_≤100000000) (hh:m.high≤900000) (hc:m.code.length≤900000) (_hs:0<m.slots∧m.slots≤1000000) (_ht:m.tops≤1000000) (hk:m.next 9=(1,m1)):Calls Tryz.prog 75 #[.pointer (some ⟨kb,0,none⟩)] W (MkPost lo W0 kb ra rc fn m.push):=by
 obtain⟨_,a1,b1,c1,d1,t1,_⟩:=next_eq hk (by decide)
 have HN9:Hid (Calls Tryz.prog 31 #[.pointer (some ⟨kb,0,none⟩),.int .i64 9] W fun e W'=>e= .returned (.int .i64 1)∧MkAt lo W0 W' kb ra rc cv fn m1):=Lib.hid ((next_to h hk (by decide) (by decide) (by omega)).mono fun e W' hp=>⟨hp.1,hp.2.1⟩)
 have hM:m.push=(m1.next 3).2.add 4 0 (pushFloats.getD (m1.next 3).1 []) 0 1:=by unfold Mk.push;rw[hk];rfl
 rw[hM]
 clear hM
 obtain⟨J,m2,hj⟩:∃J m2,m1.next 3=(J,m2):=⟨_,_,rfl⟩
 obtain⟨hJ,a2,b2,c2,d2,t2,_⟩:=next_eq hj (by decide)
 rw[hj]
 dsimp only
 obtain⟨T,hT⟩:∃T,pushFloats.getD J []=T:=⟨_,rfl⟩
 rw[hT]
 have hrow:(#[Value.string ⟨#[48,48,48,48,48,48,48,48,48,48,48,48,48,48,48,48]⟩,Value.string ⟨#[55,102,102,56,48,48,48,48,48,48,48,48,48,48,48,49]⟩,Value.string ⟨#[102,102,102,48,48,48,48,48,48,48,48,48,48,48,48,48]⟩]:Array Value)[J]? =some (.string ⟨⟨T⟩⟩):=by
  rw[←hT]
  match J,hJ with
  |0,_=>rfl
  |1,_=>rfl
  |2,_=>rfl
 have HM:=Lib.hid h
 have HRW:=Lib.hid hrow
 rw[b1] at b2
 rw[c1] at c2
 rw[a1] at a2
 clear h hT hrow
 go_enter Tryz.func75,Tryz.ntmps75
 go_upto_region 5 with(go_at_call 31;with_reducible refine HN9.out.mono ?_;rintro e w1 ⟨rfl,h1⟩;have HM1:=Lib.hid h1;clear h1)
 have hm2:=HM1.out.under ((Below.refl _ _).alloc (Nat.le_refl _) (.cells #[.string ⟨#[48,48,48,48,48,48,48,48,48,48,48,48,48,48,48,48]⟩,.string ⟨#[55,102,102,56,48,48,48,48,48,48,48,48,48,48,48,49]⟩,.string ⟨#[102,102,102,48,48,48,48,48,48,48,48,48,48,48,48,48]⟩] 9 (0,0)))
 have hrw:=heap_alloc_new w1 (.cells #[.string ⟨#[48,48,48,48,48,48,48,48,48,48,48,48,48,48,48,48]⟩,.string ⟨#[55,102,102,56,48,48,48,48,48,48,48,48,48,48,48,49]⟩,.string ⟨#[102,102,102,48,48,48,48,48,48,48,48,48,48,48,48,48]⟩] 9 (0,0))
 have hzz:=World.size_alloc w1 (.cells #[.string ⟨#[48,48,48,48,48,48,48,48,48,48,48,48,48,48,48,48]⟩,.string ⟨#[55,102,102,56,48,48,48,48,48,48,48,48,48,48,48,49]⟩,.string ⟨#[102,102,102,48,48,48,48,48,48,48,48,48,48,48,48,48]⟩] 9 (0,0))
 have hkl:=HM1.out.lt
 obtain⟨tb,htb⟩:∃tb,w1.heap.size=tb:=⟨_,rfl⟩
 obtain⟨W2,hW2⟩:∃W2,w1.alloc (.cells #[.string ⟨#[48,48,48,48,48,48,48,48,48,48,48,48,48,48,48,48]⟩,.string ⟨#[55,102,102,56,48,48,48,48,48,48,48,48,48,48,48,49]⟩,.string ⟨#[102,102,102,48,48,48,48,48,48,48,48,48,48,48,48,48]⟩] 9 (0,0))=W2:=⟨_,rfl⟩
 rw[hW2] at hm2 hrw hzz
 rw[htb] at hrw hzz hkl
 have hne:tb≠kb:=by omega
 have HN2:Hid (Calls Tryz.prog 31 #[.pointer (some ⟨kb,0,none⟩),.int .i64 3] W2 fun e W'=>e= .returned (.int .i64 J)∧MkAt lo W0 W' kb ra rc cv fn m2∧W'.cell? ⟨tb,J,none⟩=some (.string ⟨⟨T⟩⟩)):=Lib.hid ((next_to hm2 hj (by decide) (by decide) (by omega)).mono fun e W' hp=>⟨hp.1,hp.2.1,by
  have q0:=cell_of_row W' tb J _ _ _ ((hp.2.2.2 _ hne).trans hrw)
  rw[HRW.out] at q0
  exact q0⟩)
 have HAD:Hid (∀w3,MkAt lo W0 w3 kb ra rc cv fn m2→Calls Tryz.prog 73 #[.pointer (some ⟨kb,0,none⟩),.int .i64 4,.int .i64 0,.string ⟨⟨T⟩⟩,.int .i64 0,.int .i64 1] w3 fun e W'=>e= .returned (.tuple #[])∧∃cv',MkAt lo W0 W' kb ra rc cv' fn (m2.add 4 0 T 0 1)):=Lib.hid fun w3 h3=>add_any h3 4 0 T 0 1 (by omega) (by omega) (by omega) (by rw[b2];omega)
 clear HM HM1 hm2 hrw
 go_wp2_with (first
  |(go_at_call 31;with_reducible refine HN2.out.mono ?_;rintro e w3 ⟨rfl,h1,q0⟩;have HM3:=Lib.hid h1;clear h1)
  |(go_at_call 73;refine(HAD.out _ HM3.out).mono ?_;rintro e w4 ⟨rfl,cv3,h3⟩))
 first|refine bodyPost_end (results_none rfl _ _ _) rfl ?_|refine bodyPost_ret (results_none rfl _ _ _) rfl ?_
 exact⟨rfl,_,h3⟩
theorem push_2 {lo:Nat} {W0 W:World} {kb rc:Nat} {ra:Option Addr} {cv:Value} {fn:Int} {m m1:Mk} (h:MkAt lo W0 W kb ra rc cv fn m) (ha:m.at_≤100000000) (hh:m.high≤900000) (hc:m.code.length≤900000) (_hs:0<m.slots∧m.slots≤1000000) (_ht:m.tops≤1000000) (hk:m.next 9=(2,m1)):Calls Tryz.prog 75 #[.pointer (some ⟨kb,0,none⟩)] W (MkPost lo W0 kb ra rc fn m.push):=by
 obtain⟨_,a1,b1,c1,d1,t1,_⟩:=next_eq hk (by decide)
 have HN9:Hid (Calls Tryz.prog 31 #[.pointer (some ⟨kb,0,none⟩),.int .i64 9] W fun e W'=>e= .returned (.int .i64 2)∧MkAt lo W0 W' kb ra rc cv fn m1):=Lib.hid ((next_to h hk (by decide) (by decide) (by omega)).mono fun e W' hp=>⟨hp.1,hp.2.1⟩)
 have hM:m.push=(m1.next 3).2.add 5 0 (pushTexts.getD (m1.next 3).1 []) 0 1:=by unfold Mk.push;rw[hk];rfl
 rw[hM]
 clear hM
 obtain⟨J,m2,hj⟩:∃J m2,m1.next 3=(J,m2):=⟨_,_,rfl⟩
 obtain⟨hJ,a2,b2,c2,d2,t2,_⟩:=next_eq hj (by decide)
 rw[hj]
 dsimp only
 obtain⟨T,hT⟩:∃T,pushTexts.getD J []=T:=⟨_,rfl⟩
 rw[hT]
 have hrow:(#[Value.string ⟨#[]⟩,Value.string ⟨#[97,32,98]⟩,Value.string ⟨#[10,0,255,34]⟩]:Array Value)[J]? =some (.string ⟨⟨T⟩⟩):=by
  rw[←hT]
  match J,hJ with
  |0,_=>rfl
  |1,_=>rfl
  |2,_=>rfl
 have HM:=Lib.hid h
 have HRW:=Lib.hid hrow
 rw[b1] at b2
 rw[c1] at c2
 rw[a1] at a2
 clear h hT hrow
 go_enter Tryz.func75,Tryz.ntmps75
 go_upto_region 7 with(go_at_call 31;with_reducible refine HN9.out.mono ?_;rintro e w1 ⟨rfl,h1⟩;have HM1:=Lib.hid h1;clear h1)
 have hm2:=HM1.out.under ((Below.refl _ _).alloc (Nat.le_refl _) (.cells #[.string ⟨#[]⟩,.string ⟨#[97,32,98]⟩,.string ⟨#[10,0,255,34]⟩] 9 (0,0)))
 have hrw:=heap_alloc_new w1 (.cells #[.string ⟨#[]⟩,.string ⟨#[97,32,98]⟩,.string ⟨#[10,0,255,34]⟩] 9 (0,0))
 have hzz:=World.size_alloc w1 (.cells #[.string ⟨#[]⟩,.string ⟨#[97,32,98]⟩,.string ⟨#[10,0,255,34]⟩] 9 (0,0))
 have hkl:=HM1.out.lt
 obtain⟨tb,htb⟩:∃tb,w1.heap.size=tb:=⟨_,rfl⟩
 obtain⟨W2,hW2⟩:∃W2,w1.alloc (.cells #[.string ⟨#[]⟩,.string ⟨#[97,32,98]⟩,.string ⟨#[10,0,255,34]⟩] 9 (0,0))=W2:=⟨_,rfl⟩
 rw[hW2] at hm2 hrw hzz
 rw[htb] at hrw hzz hkl
 have hne:tb≠kb:=by omega
 have HN2:Hid (Calls Tryz.prog 31 #[.pointer (some ⟨kb,0,none⟩),.int .i64 3] W2 fun e W'=>e= .returned (.int .i64 J)∧MkAt lo W0 W' kb ra rc cv fn m2∧W'.cell? ⟨tb,J,none⟩=some (.string ⟨⟨T⟩⟩)):=Lib.hid ((next_to hm2 hj (by decide) (by decide) (by omega)).mono fun e W' hp=>⟨hp.1,hp.2.1,by
  have q0:=cell_of_row W' tb J _ _ _ ((hp.2.2.2 _ hne).trans hrw)
  rw[HRW.out] at q0
  exact q0⟩)
 have HAD:Hid (∀w3,MkAt lo W0 w3 kb ra rc cv fn m2→Calls Tryz.prog 73 #[.pointer (some ⟨kb,0,none⟩),.int .i64 5,.int .i64 0,.string ⟨⟨T⟩⟩,.int .i64 0,.int .i64 1] w3 fun e W'=>e= .returned (.tuple #[])∧∃cv',MkAt lo W0 W' kb ra rc cv' fn (m2.add 5 0 T 0 1)):=Lib.hid fun w3 h3=>add_any h3 5 0 T 0 1 (by omega) (by omega) (by omega) (by rw[b2];omega)
 clear HM HM1 hm2 hrw
 go_wp2_with (first
  |(go_at_call 31;with_reducible refine HN2.out.mono ?_;rintro e w3 ⟨rfl,h1,q0⟩;have HM3:=Lib.hid h1;clear h1)
  |(go_at_call 73;refine(HAD.out _ HM3.out).mono ?_;rintro e w4 ⟨rfl,cv3,h3⟩))
 first|refine bodyPost_end (results_none rfl _ _ _) rfl ?_|refine bodyPost_ret (results_none rfl _ _ _) rfl ?_
 exact⟨rfl,_,h3⟩
theorem push_3 {lo:Nat} {W0 W:World} {kb rc:Nat} {ra:Option Addr} {cv:Value} {fn:Int} {m m1:Mk} (h:MkAt lo W0 W kb ra rc cv fn m) (ha:m.at_≤100000000) (hh:m.high≤900000) (hc:m.code.length≤900000) (_hs:0<m.slots∧m.slots≤1000000) (_ht:m.tops≤1000000) (hk:m.next 9=(3,m1)):Calls Tryz.prog 75 #[.pointer (some ⟨kb,0,none⟩)] W (MkPost lo W0 kb ra rc fn m.push):=by
 obtain⟨_,a1,b1,c1,d1,t1,_⟩:=next_eq hk (by decide)
 have HN9:Hid (Calls Tryz.prog 31 #[.pointer (some ⟨kb,0,none⟩),.int .i64 9] W fun e W'=>e= .returned (.int .i64 3)∧MkAt lo W0 W' kb ra rc cv fn m1):=Lib.hid ((next_to h hk (by decide) (by decide) (by omega)).mono fun e W' hp=>⟨hp.1,hp.2.1⟩)
 have hM:m.push=(m1.next 2).2.add 6 (m1.next 2).1 [] 0 1:=by unfold Mk.push;rw[hk];rfl
 rw[hM]
 clear hM
 have HM:=Lib.hid h
 obtain⟨J,m2,hj⟩:∃J m2,m1.next 2=(J,m2):=⟨_,_,rfl⟩
 obtain⟨hJ,a2,b2,c2,d2,t2,_⟩:=next_eq hj (by omega)
 rw[hj]
 dsimp only
 rw[b1] at b2
 rw[c1] at c2
 rw[a1] at a2
 have HNX:Hid (∀w3,MkAt lo W0 w3 kb ra rc cv fn m1→Calls Tryz.prog 31 #[.pointer (some ⟨kb,0,none⟩),.int .i64 2] w3 fun e W'=>e= .returned (.int .i64 J)∧MkAt lo W0 W' kb ra rc cv fn m2):=Lib.hid fun w3 h3=>(next_to h3 hj (by omega) (by omega) (by omega)).mono fun e W' hp=>⟨hp.1,hp.2.1⟩
 have HAD:Hid (∀w3,MkAt lo W0 w3 kb ra rc cv fn m2→Calls Tryz.prog 73 #[.pointer (some ⟨kb,0,none⟩),.int .i64 6,.int .i64 J,.string ⟨#[]⟩,.int .i64 0,.int .i64 1] w3 fun e W'=>e= .returned (.tuple #[])∧∃cv',MkAt lo W0 W' kb ra rc cv' fn (m2.add 6 J [] 0 1)):=Lib.hid fun w3 h3=>add_any h3 6 J [] 0 1 (by omega) (by omega) (by omega) (by rw[b2];omega)
 clear h a1 b1 c1 d1 t1 a2 b2 c2 d2 t2
 go_enter Tryz.func75,Tryz.ntmps75
 go_wp2_with (first
  |(go_at_call 31;with_reducible refine HN9.out.mono ?_;rintro e w1 ⟨rfl,h1⟩;have HM1:=Lib.hid h1;clear h1)
  |(go_at_call 31;with_reducible refine(HNX.out _ HM1.out).mono ?_;rintro e w2 ⟨rfl,h1⟩;have HM2:=Lib.hid h1;clear h1)
  |(go_at_call 73;with_reducible refine(HAD.out _ HM2.out).mono ?_;rintro e w4 ⟨rfl,cv3,h3⟩))
 first|refine bodyPost_end (results_none rfl _ _ _) rfl ?_|refine bodyPost_ret (results_none rfl _ _ _) rfl ?_
 exact⟨rfl,_,h3⟩
theorem push_4 {lo:Nat} {W0 W:World} {kb rc:Nat} {ra:Option Addr} {cv:Value} {fn:Int} {m m1:Mk} (h:MkAt lo W0 W kb ra rc cv fn m) (ha:m.at_≤100000000) (hh:m.high≤900000) (hc:m.code.length≤900000) (_hs:0<m.slots∧m.slots≤1000000) (_ht:m.tops≤1000000) (hk:m.next 9=(4,m1)):Calls Tryz.prog 75 #[.pointer (some ⟨kb,0,none⟩)] W (MkPost lo W0 kb ra rc fn m.push):=by
 obtain⟨_,a1,b1,c1,d1,t1,_⟩:=next_eq hk (by decide)
 have HN9:Hid (Calls Tryz.prog 31 #[.pointer (some ⟨kb,0,none⟩),.int .i64 9] W fun e W'=>e= .returned (.int .i64 4)∧MkAt lo W0 W' kb ra rc cv fn m1):=Lib.hid ((next_to h hk (by decide) (by decide) (by omega)).mono fun e W' hp=>⟨hp.1,hp.2.1⟩)
 have hM:m.push=(m1.next 4).2.add 8 0 (pushNils.getD (m1.next 4).1 []) 0 1:=by unfold Mk.push;rw[hk];rfl
 rw[hM]
 clear hM
 obtain⟨J,m2,hj⟩:∃J m2,m1.next 4=(J,m2):=⟨_,_,rfl⟩
 obtain⟨hJ,a2,b2,c2,d2,t2,_⟩:=next_eq hj (by decide)
 rw[hj]
 dsimp only
 obtain⟨T,hT⟩:∃T,pushNils.getD J []=T:=⟨_,rfl⟩
 rw[hT]
 have hrow:(#[Value.string ⟨#[108,105,115,116]⟩,Value.string ⟨#[109,97,112]⟩,Value.string ⟨#[102,117,110,99]⟩,Value.string ⟨#[84]⟩]:Array Value)[J]? =some (.string ⟨⟨T⟩⟩):=by
  rw[←hT]
  match J,hJ with
  |0,_=>rfl
  |1,_=>rfl
  |2,_=>rfl
  |3,_=>rfl
 have HM:=Lib.hid h
 have HRW:=Lib.hid hrow
 rw[b1] at b2
 rw[c1] at c2
 rw[a1] at a2
 clear h hT hrow
 go_enter Tryz.func75,Tryz.ntmps75
 go_upto_region 11 with(go_at_call 31;with_reducible refine HN9.out.mono ?_;rintro e w1 ⟨rfl,h1⟩;have HM1:=Lib.hid h1;clear h1)
 have hm2:=HM1.out.under ((Below.refl _ _).alloc (Nat.le_refl _) (.cells #[.string ⟨#[108,105,115,116]⟩,.string ⟨#[109,97,112]⟩,.string ⟨#[102,117,110,99]⟩,.string ⟨#[84]⟩] 9 (0,0)))
 have hrw:=heap_alloc_new w1 (.cells #[.string ⟨#[108,105,115,116]⟩,.string ⟨#[109,97,112]⟩,.string ⟨#[102,117,110,99]⟩,.string ⟨#[84]⟩] 9 (0,0))
 have hzz:=World.size_alloc w1 (.cells #[.string ⟨#[108,105,115,116]⟩,.string ⟨#[109,97,112]⟩,.string ⟨#[102,117,110,99]⟩,.string ⟨#[84]⟩] 9 (0,0))
 have hkl:=HM1.out.lt
 obtain⟨tb,htb⟩:∃tb,w1.heap.size=tb:=⟨_,rfl⟩
 obtain⟨W2,hW2⟩:∃W2,w1.alloc (.cells #[.string ⟨#[108,105,115,116]⟩,.string ⟨#[109,97,112]⟩,.string ⟨#[102,117,110,99]⟩,.string ⟨#[84]⟩] 9 (0,0))=W2:=⟨_,rfl⟩
 rw[hW2] at hm2 hrw hzz
 rw[htb] at hrw hzz hkl
 have hne:tb≠kb:=by omega
 have HN2:Hid (Calls Tryz.prog 31 #[.pointer (some ⟨kb,0,none⟩),.int .i64 4] W2 fun e W'=>e= .returned (.int .i64 J)∧MkAt lo W0 W' kb ra rc cv fn m2∧W'.cell? ⟨tb,J,none⟩=some (.string ⟨⟨T⟩⟩)):=Lib.hid ((next_to hm2 hj (by decide) (by decide) (by omega)).mono fun e W' hp=>⟨hp.1,hp.2.1,by
  have q0:=cell_of_row W' tb J _ _ _ ((hp.2.2.2 _ hne).trans hrw)
  rw[HRW.out] at q0
  exact q0⟩)
 have HAD:Hid (∀w3,MkAt lo W0 w3 kb ra rc cv fn m2→Calls Tryz.prog 73 #[.pointer (some ⟨kb,0,none⟩),.int .i64 8,.int .i64 0,.string ⟨⟨T⟩⟩,.int .i64 0,.int .i64 1] w3 fun e W'=>e= .returned (.tuple #[])∧∃cv',MkAt lo W0 W' kb ra rc cv' fn (m2.add 8 0 T 0 1)):=Lib.hid fun w3 h3=>add_any h3 8 0 T 0 1 (by omega) (by omega) (by omega) (by rw[b2];omega)
 clear HM HM1 hm2 hrw
 go_wp2_with (first
  |(go_at_call 31;with_reducible refine HN2.out.mono ?_;rintro e w3 ⟨rfl,h1,q0⟩;have HM3:=Lib.hid h1;clear h1)
  |(go_at_call 73;refine(HAD.out _ HM3.out).mono ?_;rintro e w4 ⟨rfl,cv3,h3⟩))
 first|refine bodyPost_end (results_none rfl _ _ _) rfl ?_|refine bodyPost_ret (results_none rfl _ _ _) rfl ?_
 exact⟨rfl,_,h3⟩
theorem push_5 {lo:Nat} {W0 W:World} {kb rc:Nat} {ra:Option Addr} {cv:Value} {fn:Int} {m m1:Mk} (h:MkAt lo W0 W kb ra rc cv fn m) (ha:m.at_≤100000000) (hh:m.high≤900000) (hc:m.code.length≤900000) (hs:0<m.slots∧m.slots≤1000000) (_ht:m.tops≤1000000) (hk:m.next 9=(5,m1)):Calls Tryz.prog 75 #[.pointer (some ⟨kb,0,none⟩)] W (MkPost lo W0 kb ra rc fn m.push):=by
 obtain⟨_,a1,b1,c1,d1,t1,_⟩:=next_eq hk (by decide)
 have HN9:Hid (Calls Tryz.prog 31 #[.pointer (some ⟨kb,0,none⟩),.int .i64 9] W fun e W'=>e= .returned (.int .i64 5)∧MkAt lo W0 W' kb ra rc cv fn m1):=Lib.hid ((next_to h hk (by decide) (by decide) (by omega)).mono fun e W' hp=>⟨hp.1,hp.2.1⟩)
 have hM:m.push=(m1.next m1.slots).2.add 9 (m1.next m1.slots).1 [] 0 1:=by unfold Mk.push;rw[hk];rfl
 rw[hM]
 clear hM
 have HM:=Lib.hid h
 obtain⟨J,m2,hj⟩:∃J m2,m1.next m1.slots=(J,m2):=⟨_,_,rfl⟩
 obtain⟨hJ,a2,b2,c2,d2,t2,_⟩:=next_eq hj (by omega)
 rw[hj]
 dsimp only
 rw[b1] at b2
 rw[c1] at c2
 rw[a1] at a2
 have HNX:Hid (∀w3,MkAt lo W0 w3 kb ra rc cv fn m1→Calls Tryz.prog 31 #[.pointer (some ⟨kb,0,none⟩),.int .i64 m1.slots] w3 fun e W'=>e= .returned (.int .i64 J)∧MkAt lo W0 W' kb ra rc cv fn m2):=Lib.hid fun w3 h3=>(next_to h3 hj (by omega) (by omega) (by omega)).mono fun e W' hp=>⟨hp.1,hp.2.1⟩
 have HAD:Hid (∀w3,MkAt lo W0 w3 kb ra rc cv fn m2→Calls Tryz.prog 73 #[.pointer (some ⟨kb,0,none⟩),.int .i64 9,.int .i64 J,.string ⟨#[]⟩,.int .i64 0,.int .i64 1] w3 fun e W'=>e= .returned (.tuple #[])∧∃cv',MkAt lo W0 W' kb ra rc cv' fn (m2.add 9 J [] 0 1)):=Lib.hid fun w3 h3=>add_any h3 9 J [] 0 1 (by omega) (by omega) (by omega) (by rw[b2];omega)
 clear h a1 b1 c1 d1 t1 a2 b2 c2 d2 t2
 go_enter Tryz.func75,Tryz.ntmps75
 go_upto_region 13 with(go_at_call 31;with_reducible refine HN9.out.mono ?_;rintro e w1 ⟨rfl,h1⟩;have HM1:=Lib.hid h1;clear h1)
 have q0:=cell_of_row w1 kb 4 _ _ _ HM1.out.box
 simp only[gq] at q0
 go_wp2_with (first
  |(go_at_call 31;with_reducible refine(HNX.out _ HM1.out).mono ?_;rintro e w2 ⟨rfl,h1⟩;have HM2:=Lib.hid h1;clear h1)
  |(go_at_call 73;with_reducible refine(HAD.out _ HM2.out).mono ?_;rintro e w4 ⟨rfl,cv3,h3⟩))
 first|refine bodyPost_end (results_none rfl _ _ _) rfl ?_|refine bodyPost_ret (results_none rfl _ _ _) rfl ?_
 exact⟨rfl,_,h3⟩
theorem push_6a {lo:Nat} {W0 W:World} {kb rc:Nat} {ra:Option Addr} {cv:Value} {fn:Int} {m m1:Mk} (h:MkAt lo W0 W kb ra rc cv fn m) (ha:m.at_≤100000000) (hh:m.high≤900000) (hc:m.code.length≤900000) (_hs:0<m.slots∧m.slots≤1000000) (ht:m.tops≤1000000) (hk:m.next 9=(6,m1)) (h0:0<m.tops):Calls Tryz.prog 75 #[.pointer (some ⟨kb,0,none⟩)] W (MkPost lo W0 kb ra rc fn m.push):=by
 obtain⟨_,a1,b1,c1,d1,t1,_⟩:=next_eq hk (by decide)
 have HN9:Hid (Calls Tryz.prog 31 #[.pointer (some ⟨kb,0,none⟩),.int .i64 9] W fun e W'=>e= .returned (.int .i64 6)∧MkAt lo W0 W' kb ra rc cv fn m1):=Lib.hid ((next_to h hk (by decide) (by decide) (by omega)).mono fun e W' hp=>⟨hp.1,hp.2.1⟩)
 have hM:m.push=(m1.next m1.tops).2.add 10 (m1.next m1.tops).1 [] 0 1:=by unfold Mk.push;rw[hk];exact if_pos (show 0<m1.tops by omega)
 rw[hM]
 clear hM
 have HM:=Lib.hid h
 have hd:decide (0<m1.tops)=true:=decide_eq_true (by omega)
 obtain⟨J,m2,hj⟩:∃J m2,m1.next m1.tops=(J,m2):=⟨_,_,rfl⟩
 obtain⟨hJ,a2,b2,c2,d2,t2,_⟩:=next_eq hj (by omega)
 rw[hj]
 dsimp only
 rw[b1] at b2
 rw[c1] at c2
 rw[a1] at a2
 have HNX:Hid (∀w3,MkAt lo W0 w3 kb ra rc cv fn m1→Calls Tryz.prog 31 #[.pointer (some ⟨kb,0,none⟩),.int .i64 m1.tops] w3 fun e W'=>e= .returned (.int .i64 J)∧MkAt lo W0 W' kb ra rc cv fn m2):=Lib.hid fun w3 h3=>(next_to h3 hj (by omega) (by omega) (by omega)).mono fun e W' hp=>⟨hp.1,hp.2.1⟩
 have HAD:Hid (∀w3,MkAt lo W0 w3 kb ra rc cv fn m2→Calls Tryz.prog 73 #[.pointer (some ⟨kb,0,none⟩),.int .i64 10,.int .i64 J,.string ⟨#[]⟩,.int .i64 0,.int .i64 1] w3 fun e W'=>e= .returned (.tuple #[])∧∃cv',MkAt lo W0 W' kb ra rc cv' fn (m2.add 10 J [] 0 1)):=Lib.hid fun w3 h3=>add_any h3 10 J [] 0 1 (by omega) (by omega) (by omega) (by rw[b2];omega)
 clear h a1 b1 c1 d1 t1 a2 b2 c2 d2 t2
 go_enter Tryz.func75,Tryz.ntmps75
 go_upto_region 15 with(go_at_call 31;with_reducible refine HN9.out.mono ?_;rintro e w1 ⟨rfl,h1⟩;have HM1:=Lib.hid h1;clear h1)
 have q0:=cell_of_row w1 kb 5 _ _ _ HM1.out.box
 simp only[gq] at q0
 go_wp2_with (first
  |(go_at_call 31;with_reducible refine(HNX.out _ HM1.out).mono ?_;rintro e w2 ⟨rfl,h1⟩;have HM2:=Lib.hid h1;clear h1)
  |(go_at_call 73;with_reducible refine(HAD.out _ HM2.out).mono ?_;rintro e w4 ⟨rfl,cv3,h3⟩))
 first|refine bodyPost_end (results_none rfl _ _ _) rfl ?_|refine bodyPost_ret (results_none rfl _ _ _) rfl ?_
 exact⟨rfl,_,h3⟩
theorem push_6b {lo:Nat} {W0 W:World} {kb rc:Nat} {ra:Option Addr} {cv:Value} {fn:Int} {m m1:Mk} (h:MkAt lo W0 W kb ra rc cv fn m) (ha:m.at_≤100000000) (hh:m.high≤900000) (hc:m.code.length≤900000) (_hs:0<m.slots∧m.slots≤1000000) (_ht:m.tops≤1000000) (hk:m.next 9=(6,m1)) (h0:m.tops=0):Calls Tryz.prog 75 #[.pointer (some ⟨kb,0,none⟩)] W (MkPost lo W0 kb ra rc fn m.push):=by
 obtain⟨_,a1,b1,c1,d1,t1,_⟩:=next_eq hk (by decide)
 have HN9:Hid (Calls Tryz.prog 31 #[.pointer (some ⟨kb,0,none⟩),.int .i64 9] W fun e W'=>e= .returned (.int .i64 6)∧MkAt lo W0 W' kb ra rc cv fn m1):=Lib.hid ((next_to h hk (by decide) (by decide) (by omega)).mono fun e W' hp=>⟨hp.1,hp.2.1⟩)
 have hM:m.push=m1.add 7 0 [] 0 1:=by unfold Mk.push;rw[hk];exact if_neg (show¬0<m1.tops by omega)
 rw[hM]
 clear hM
 have HM:=Lib.hid h
 have HAD:Hid (∀w3,MkAt lo W0 w3 kb ra rc cv fn m1→Calls Tryz.prog 73 #[.pointer (some ⟨kb,0,none⟩),.int .i64 7,.int .i64 0,.string ⟨#[]⟩,.int .i64 0,.int .i64 1] w3 fun e W'=>e= .returned (.tuple #[])∧∃cv',MkAt lo W0 W' kb ra rc cv' fn (m1.add 7 0 [] 0 1)):=Lib.hid fun w3 h3=>add_any h3 7 0 [] 0 1 (by omega) (by omega) (by omega) (by rw[b1];omega)
 have tz:m1.tops=0:=by omega
 clear h a1 b1 c1 d1 t1
 go_enter Tryz.func75,Tryz.ntmps75
 go_upto_region 15 with(go_at_call 31;with_reducible refine HN9.out.mono ?_;rintro e w1 ⟨rfl,h1⟩;have HM1:=Lib.hid h1;clear h1)
 have q0:=cell_of_row w1 kb 5 _ _ _ HM1.out.box
 simp only[gq] at q0
 rw[tz] at q0
 go_wp2_with (first
  |(go_at_call 73;with_reducible refine(HAD.out _ HM1.out).mono ?_;rintro e w4 ⟨rfl,cv3,h3⟩))
 first|refine bodyPost_end (results_none rfl _ _ _) rfl ?_|refine bodyPost_ret (results_none rfl _ _ _) rfl ?_
 exact⟨rfl,_,h3⟩
theorem push_7 {lo:Nat} {W0 W:World} {kb rc:Nat} {ra:Option Addr} {cv:Value} {fn:Int} {m m1:Mk} (h:MkAt lo W0 W kb ra rc cv fn m) (ha:m.at_≤100000000) (hh:m.high≤900000) (hc:m.code.length≤900000) (_hs:0<m.slots∧m.slots≤1000000) (_ht:m.tops≤1000000) (hk:m.next 9=(7,m1)):Calls Tryz.prog 75 #[.pointer (some ⟨kb,0,none⟩)] W (MkPost lo W0 kb ra rc fn m.push):=by
 obtain⟨_,a1,b1,c1,d1,t1,_⟩:=next_eq hk (by decide)
 have HN9:Hid (Calls Tryz.prog 31 #[.pointer (some ⟨kb,0,none⟩),.int .i64 9] W fun e W'=>e= .returned (.int .i64 7)∧MkAt lo W0 W' kb ra rc cv fn m1):=Lib.hid ((next_to h hk (by decide) (by decide) (by omega)).mono fun e W' hp=>⟨hp.1,hp.2.1⟩)
 have hM:m.push=(m1.next 2).2.add 23 (m1.next 2).1 [84,32,109] 0 1:=by unfold Mk.push;rw[hk];rfl
 rw[hM]
 clear hM
 have HM:=Lib.hid h
 obtain⟨J,m2,hj⟩:∃J m2,m1.next 2=(J,m2):=⟨_,_,rfl⟩
 obtain⟨hJ,a2,b2,c2,d2,t2,_⟩:=next_eq hj (by omega)
 rw[hj]
 dsimp only
 rw[b1] at b2
 rw[c1] at c2
 rw[a1] at a2
 have HNX:Hid (∀w3,MkAt lo W0 w3 kb ra rc cv fn m1→Calls Tryz.prog 31 #[.pointer (some ⟨kb,0,none⟩),.int .i64 2] w3 fun e W'=>e= .returned (.int .i64 J)∧MkAt lo W0 W' kb ra rc cv fn m2):=Lib.hid fun w3 h3=>(next_to h3 hj (by omega) (by omega) (by omega)).mono fun e W' hp=>⟨hp.1,hp.2.1⟩
 have HAD:Hid (∀w3,MkAt lo W0 w3 kb ra rc cv fn m2→Calls Tryz.prog 73 #[.pointer (some ⟨kb,0,none⟩),.int .i64 23,.int .i64 J,.string ⟨#[84,32,109]⟩,.int .i64 0,.int .i64 1] w3 fun e W'=>e= .returned (.tuple #[])∧∃cv',MkAt lo W0 W' kb ra rc cv' fn (m2.add 23 J [84,32,109] 0 1)):=Lib.hid fun w3 h3=>add_any h3 23 J [84,32,109] 0 1 (by omega) (by omega) (by omega) (by rw[b2];omega)
 clear h a1 b1 c1 d1 t1 a2 b2 c2 d2 t2
 go_enter Tryz.func75,Tryz.ntmps75
 go_wp2_with (first
  |(go_at_call 31;with_reducible refine HN9.out.mono ?_;rintro e w1 ⟨rfl,h1⟩;have HM1:=Lib.hid h1;clear h1)
  |(go_at_call 31;with_reducible refine(HNX.out _ HM1.out).mono ?_;rintro e w2 ⟨rfl,h1⟩;have HM2:=Lib.hid h1;clear h1)
  |(go_at_call 73;with_reducible refine(HAD.out _ HM2.out).mono ?_;rintro e w4 ⟨rfl,cv3,h3⟩))
 first|refine bodyPost_end (results_none rfl _ _ _) rfl ?_|refine bodyPost_ret (results_none rfl _ _ _) rfl ?_
 exact⟨rfl,_,h3⟩
theorem push_8 {lo:Nat} {W0 W:World} {kb rc:Nat} {ra:Option Addr} {cv:Value} {fn:Int} {m m1:Mk} (h:MkAt lo W0 W kb ra rc cv fn m) (ha:m.at_≤100000000) (hh:m.high≤900000) (hc:m.code.length≤900000) (_hs:0<m.slots∧m.slots≤1000000) (_ht:m.tops≤1000000) (hk:m.next 9=(8,m1)):Calls Tryz.prog 75 #[.pointer (some ⟨kb,0,none⟩)] W (MkPost lo W0 kb ra rc fn m.push):=by
 obtain⟨_,a1,b1,c1,d1,t1,_⟩:=next_eq hk (by decide)
 have HN9:Hid (Calls Tryz.prog 31 #[.pointer (some ⟨kb,0,none⟩),.int .i64 9] W fun e W'=>e= .returned (.int .i64 8)∧MkAt lo W0 W' kb ra rc cv fn m1):=Lib.hid ((next_to h hk (by decide) (by decide) (by omega)).mono fun e W' hp=>⟨hp.1,hp.2.1⟩)
 have hM:m.push=m1.add 7 0 [] 0 1:=by unfold Mk.push;rw[hk];rfl
 rw[hM]
 clear hM
 have HM:=Lib.hid h
 have HAD:Hid (∀w3,MkAt lo W0 w3 kb ra rc cv fn m1→Calls Tryz.prog 73 #[.pointer (some ⟨kb,0,none⟩),.int .i64 7,.int .i64 0,.string ⟨#[]⟩,.int .i64 0,.int .i64 1] w3 fun e W'=>e= .returned (.tuple #[])∧∃cv',MkAt lo W0 W' kb ra rc cv' fn (m1.add 7 0 [] 0 1)):=Lib.hid fun w3 h3=>add_any h3 7 0 [] 0 1 (by omega) (by omega) (by omega) (by rw[b1];omega)
 clear h a1 b1 c1 d1 t1
 go_enter Tryz.func75,Tryz.ntmps75
 go_wp2_with (first
  |(go_at_call 31;with_reducible refine HN9.out.mono ?_;rintro e w1 ⟨rfl,h1⟩;have HM1:=Lib.hid h1;clear h1)
  |(go_at_call 73;with_reducible refine(HAD.out _ HM1.out).mono ?_;rintro e w4 ⟨rfl,cv3,h3⟩))
 first|refine bodyPost_end (results_none rfl _ _ _) rfl ?_|refine bodyPost_ret (results_none rfl _ _ _) rfl ?_
 exact⟨rfl,_,h3⟩
theorem mkPush_any {lo:Nat} {W0 W:World} {kb rc:Nat} {ra:Option Addr} {cv:Value} {fn:Int} {m:Mk} (h:MkAt lo W0 W kb ra rc cv fn m) (ha:m.at_≤100000000) (hh:m.high≤900000) (hc:m.code.length≤900000) (hs:0<m.slots∧m.slots≤1000000) (ht:m.tops≤1000000):Calls Tryz.prog 75 #[.pointer (some ⟨kb,0,none⟩)] W (MkPost lo W0 kb ra rc fn m.push):=by
 obtain⟨K,m1,hk⟩:∃K m1,m.next 9=(K,m1):=⟨_,_,rfl⟩
 have hK:=(next_eq hk (by decide)).1
 match K,hK,hk with
 |0,_,hk=>exact push_0 h ha hh hc hs ht hk
 |1,_,hk=>exact push_1 h ha hh hc hs ht hk
 |2,_,hk=>exact push_2 h ha hh hc hs ht hk
 |3,_,hk=>exact push_3 h ha hh hc hs ht hk
 |4,_,hk=>exact push_4 h ha hh hc hs ht hk
 |5,_,hk=>exact push_5 h ha hh hc hs ht hk
 |6,_,hk=>
  by_cases h0:0<m.tops
  ·exact push_6a h ha hh hc hs ht hk h0
  ·exact push_6b h ha hh hc hs ht hk (by omega)
 |7,_,hk=>exact push_7 h ha hh hc hs ht hk
 |8,_,hk=>exact push_8 h ha hh hc hs ht hk
end Go.Proofs.YtagnicbknbmccaaGreatDoor
