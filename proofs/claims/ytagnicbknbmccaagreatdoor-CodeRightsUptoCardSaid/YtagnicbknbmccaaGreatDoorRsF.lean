/- guiseref13's stacks: what an instruction does to one. -/
import Derived.Test.YtagnicbknbmccaaGreatDoorMRgJ
import Derived.Test.YtagnicbknbmccaaGreatDoorMCyJ
set_option maxRecDepth 100000
set_option maxHeartbeats 8000000
namespace Go.Proofs.YtagnicbknbmccaaGreatDoor
open Go.RowKit
def Idx (S:List (List UInt8)) (a:Int) (o:Option (List UInt8)):Prop:=match o with
 |none=>a= -1
 |some t=>∃j:Nat,a=j∧S[j]? =some t
theorem pre_get {S S':List (List UInt8)} (h:S<+:S') {j:Nat} {t:List UInt8} (hj:S[j]? =some t):S'[j]? =some t:=by
 obtain⟨r,rfl⟩:=h
 rw[List.getElem?_append_left (List.getElem?_eq_some_iff.1 hj).1]
 exact hj
structure DsS (lo:Nat) (w W0 W:World) (sb bi:Nat) (F:Nat→Prop) (ins:Array Value) (S0 S:List (List UInt8)) (d:Nat):Prop where
 sk:SkAt lo w W sb (fun k=>F k∨k=bi) S
 bx:W.heap[bi]? =some (.cells ins 36 (0,0))
 fk:∀k,F k→W.heap[k]? =W0.heap[k]?
 sz:W0.heap.size≤W.heap.size
 pr:S0<+:S
 ln:S.length≤S0.length+d
section
variable {lo:Nat} {w W0 W W':World} {sb bi d:Nat} {F:Nat→Prop} {ins:Array Value} {S0 S:List (List UInt8)} {s:List UInt8}
theorem DsS.start (h:SkAt lo w W0 sb F S0):DsS lo w W0 (W0.alloc (.cells ins 36 (0,0))) sb W0.heap.size F ins S0 S0 0:=by
 have h2:=h
 obtain⟨_,_,_,_,_,_,_,_,_,_,_,_,_,_,_,hF⟩:=h2
 have hb:Below W0.heap.size W0 (W0.alloc (.cells ins 36 (0,0))):=(Below.refl _ _).alloc (Nat.le_refl _) _
 refine⟨h.keepF hb (fun k hk=>hk.elim .inl fun e=> .inr (by omega)) fun k hk=> ?_,heap_alloc_new _ _,fun k hk=>hb.block k (hF k hk),hb.size,List.prefix_refl _,by omega⟩
 have:=World.size_alloc W0 (.cells ins 36 (0,0))
 rcases hk with hk|rfl
 ·have:=hF k hk;omega
 ·omega
theorem DsS.under (h:DsS lo w W0 W sb bi F ins S0 S d) (hb:Below W.heap.size W W'):DsS lo w W0 W' sb bi F ins S0 S d:=by
 have h2:=h.sk
 obtain⟨_,_,_,_,_,_,_,_,_,_,_,_,_,_,_,hF⟩:=h2
 exact⟨h.sk.under hb,(hb.block bi (hF bi (.inr rfl))).trans h.bx,fun k hk=>(hb.block k (hF k (.inl hk))).trans (h.fk k hk),Nat.le_trans h.sz hb.size,h.pr,h.ln⟩
theorem DsS.push (h:DsS lo w W0 W sb bi F ins S0 S d) {c n:Nat} {e:Ending} (hp:PushPost lo w W sb (fun k=>F k∨k=bi) S s c n e W'):∃(j:Nat) (S':List (List UInt8)),e= .returned (.int .i64 j)∧S'[j]? =some (List.replicate n (sgn3 c)++s)∧S<+:S'∧DsS lo w W0 W' sb bi F ins S0 S' (d+n):=by
 obtain⟨j,S',he,h1,h2,h3,h4,h5,h6⟩:=hp
 have:=h.ln
 exact⟨j,S',he,h4,h2,⟨h1,(h5 bi (.inr rfl)).trans h.bx,fun k hk=>(h5 k (.inl hk)).trans (h.fk k hk),Nat.le_trans h.sz h6,h.pr.trans h2,by omega⟩⟩
theorem pushS_ (h:DsS lo w W0 W sb bi F ins S0 S d) {k:Nat} (hk:S[k]? =some s) (hS:S0.length+d≤10000000) (c n:Nat) (hc:c<3) (hn:n≤1000) {ci ni:Int} (e1:ci=(c:Nat)) (e2:ni=(n:Nat)):
  Calls Tryz.prog 142 #[.pointer (some ⟨sb,0,none⟩),.int .i64 k,.int .i64 ci,.int .i64 ni] W (PushPost lo w W sb (fun k=>F k∨k=bi) S s c n):=by
 subst e1 e2
 exact r13_push h.sk hk hc hn (by have:=h.ln;omega)
theorem popS_ (h:DsS lo w W0 W sb bi F ins S0 S d) {k:Nat} (hk:S[k]? =some s) (c n:Nat) (hc:c<3) (hn:n≤1000000) {ci ni:Int} (e1:ci=(c:Nat)) (e2:ni=(n:Nat)):
  Calls Tryz.prog 141 #[.pointer (some ⟨sb,0,none⟩),.int .i64 k,.int .i64 ci,.int .i64 ni] W (PopPost S s c n W):=by
 subst e1 e2
 exact r13_pop h.sk hk hc hn
theorem PopPost.some {c n:Nat} {e:Ending} {t:List UInt8} (h:PopPost S s c n W e W') (ht:lessP s (sgn3 c) n=some t):W'=W∧∃j,S[j]? =Option.some t∧e= .returned (.tuple #[.int .i64 (j:Nat),.bool true]):=by
 unfold PopPost at h
 rw[ht] at h
 exact h
theorem PopPost.none {c n:Nat} {e:Ending} (h:PopPost S s c n W e W') (ht:lessP s (sgn3 c) n=none):W'=W∧e= .returned (.tuple #[.int .i64 0,.bool false]):=by
 unfold PopPost at h
 rw[ht] at h
 exact h
def DoesPost (lo:Nat) (w W:World) (sb:Nat) (F:Nat→Prop) (S:List (List UInt8)) (o:Option (Option (List UInt8)×Option (List UInt8))) (e:Ending) (W':World):Prop:=∃(a b:Int) (ok:Bool) (S':List (List UInt8)),e= .returned (.tuple #[.int .i64 a,.int .i64 b,.bool ok])∧SkAt lo w W' sb F S'∧S<+:S'∧S'.length≤S.length+5∧(∀k,F k→W'.heap[k]? =W.heap[k]?)∧W.heap.size≤W'.heap.size∧match o with
 | .none=>ok=false
 | .some q=>ok=true∧Idx S' a q.1∧Idx S' b q.2
theorem DsS.done (h:DsS lo w W0 W sb bi F ins S0 S d) (hd:d≤5) {a b:Int} {ok:Bool} {e:Ending} {o:Option (Option (List UInt8)×Option (List UInt8))} (he:e= .returned (.tuple #[.int .i64 a,.int .i64 b,.bool ok])) (ho:match o with
 | .none=>ok=false
 | .some q=>ok=true∧Idx S a q.1∧Idx S b q.2):DoesPost lo w W0 sb F S0 o e W:=by
 have h2:=h.sk
 obtain⟨_,_,_,_,_,_,_,_,_,_,_,_,_,_,_,hF⟩:=h2
 have:=h.ln
 exact⟨a,b,ok,S,he,h.sk.keepF (Below.refl _ _) (fun k hk=> .inl (.inl hk)) (fun k hk=>hF k (.inl hk)),h.pr,by omega,h.fk,h.sz,ho⟩
end
section
variable {lo:Nat} {w W:World} {sb:Nat} {F:Nat→Prop} {S:List (List UInt8)} {a b q:Int} {t:ByteArray}
theorem row5c {W:World} {bi:Nat} {v0 v1 v2 v3 v4:Value} (h:W.heap[bi]? =some (.cells #[v0,v1,v2,v3,v4] 36 (0,0))):W.cell? ⟨bi,0,none⟩=some v0∧W.cell? ⟨bi,1,none⟩=some v1∧W.cell? ⟨bi,2,none⟩=some v2∧W.cell? ⟨bi,3,none⟩=some v3∧W.cell? ⟨bi,4,none⟩=some v4:=
 ⟨(cell_of_row W bi 0 _ _ _ h).trans rfl,(cell_of_row W bi 1 _ _ _ h).trans rfl,(cell_of_row W bi 2 _ _ _ h).trans rfl,(cell_of_row W bi 3 _ _ _ h).trans rfl,(cell_of_row W bi 4 _ _ _ h).trans rfl⟩
theorem does_vals {op:Int} (h:SkAt lo w W sb F S) {k:Nat} {s:List UInt8} (hk:S[k]? =some s) (hS:S.length≤1000000) (hop:1≤op∧op≤53) (hv:VaOk op a b) (h0:0≤(valuesR ⟨op,a,b,t,q⟩).1) (h1:(valuesR ⟨op,a,b,t,q⟩).1≤1000000) (h2:0≤(valuesR ⟨op,a,b,t,q⟩).2∧(valuesR ⟨op,a,b,t,q⟩).2≤2):
  Calls Tryz.prog 99 #[.pointer (some ⟨sb,0,none⟩),.agg #[.int .i64 op,.int .i64 a,.int .i64 b,.string t,.int .i64 q],.int .i64 k] W (DoesPost lo w W sb F S (doesR ⟨op,a,b,t,q⟩ s)):=by
 obtain⟨R,hR⟩:∃R,doesR ⟨op,a,b,t,q⟩ s=R:=⟨_,rfl⟩
 rw[hR]
 unfold doesR at hR
 rw[if_pos h0] at hR
 have HVC:=Lib.hid (fun u=>r13_values op a b q t hop hv u)
 obtain⟨NN,hNN⟩:∃n,(valuesR ⟨op,a,b,t,q⟩).1=n:=⟨_,rfl⟩
 obtain⟨MM,hMM⟩:∃n,(valuesR ⟨op,a,b,t,q⟩).2=n:=⟨_,rfl⟩
 rw[hNN] at h0 h1 hR HVC
 rw[hMM] at h2 hR HVC
 clear hNN hMM hop hv
 obtain⟨N,rfl⟩:=Int.eq_ofNat_of_zero_le h0
 obtain⟨M,rfl⟩:=Int.eq_ofNat_of_zero_le h2.1
 rw[Int.toNat_natCast] at hR
 have hM2:M≤2:=by omega
 have hN1:N≤1000000:=by omega
 have hN0:decide ((0:Int)≤(N:Int))=true:=decide_eq_true (by omega)
 clear h0 h1 h2
 have HD0:=Lib.hid (DsS.start (ins:= #[.int .i64 op,.int .i64 a,.int .i64 b,.string t,.int .i64 q]) h)
 have HK:=Lib.hid hk
 have hx:=heap_alloc_new W (.cells #[.int .i64 op,.int .i64 a,.int .i64 b,.string t,.int .i64 q] 36 (0,0))
 obtain⟨bi,hbi⟩:∃bi,W.heap.size=bi:=⟨_,rfl⟩
 clear h hk
 go_enter Tryz.func99,Tryz.ntmps99
 go_upto_region 1 with fail
 obtain⟨W1,hW1⟩:∃W1,W.alloc (.cells #[.int .i64 op,.int .i64 a,.int .i64 b,.string t,.int .i64 q] 36 (0,0))=W1:=⟨_,rfl⟩
 simp only[hbi,hW1] at HD0 hx⊢
 clear hW1
 obtain⟨x0,x1,x2,x3,x4⟩:=row5c HD0.out.bx
 go_upto_region 2 with(go_at_call 140;refine(HVC.out _).mono ?_;rintro e w2 ⟨rfl,hb⟩;have HD1:=Lib.hid (HD0.out.under hb);clear hb)
 clear HD0 hx x0 x1 x2 x3 x4
 cases hl:lessP s 118 N with
 |none=>
  rw[hl] at hR
  subst hR
  have HL:Hid (lessP s (sgn3 0) N=none):=Lib.hid hl
  clear hl
  go_wp2_with (go_at_call 141;refine(popS_ HD1.out HK.out 0 N (by decide) hN1 rfl rfl).mono ?_;intro e w3 hp;obtain⟨rfl,rfl⟩:=hp.none HL.out)
  go_ret3
  exact HD1.out.done (by omega) rfl rfl
 |some u=>
  rw[hl] at hR
  dsimp only at hR
  rw[Int.toNat_natCast] at hR
  have HL:Hid (lessP s (sgn3 0) N=some u):=Lib.hid hl
  clear hl
  obtain⟨U,hU⟩:∃U,List.replicate M 118++u=U:=⟨_,rfl⟩
  rw[hU] at hR
  have HU:Hid (List.replicate M (sgn3 0)++u=U):=Lib.hid hU
  clear hU
  go_upto_region 4 with(go_at_call 141;refine(popS_ HD1.out HK.out 0 N (by decide) hN1 rfl rfl).mono ?_;intro e w3 hp;obtain⟨rfl,j,hj,rfl⟩:=hp.some HL.out;have HJ:=Lib.hid hj;clear hp hj)
  go_upto_region 7 with(go_at_call 142;refine(pushS_ HD1.out HJ.out (by omega) 0 M (by decide) (by omega) rfl rfl).mono ?_;intro e w4 hp;obtain⟨j2,S2,rfl,hj2,hpx,hd2⟩:=HD1.out.push hp;rw[HU.out] at hj2;have HD2:=Lib.hid hd2;have HJ2:=Lib.hid hj2;clear hp hpx hd2 hj2)
  have hbx:=HD2.out.bx
  obtain⟨x0,x1,x2,x3,x4⟩:=row5c hbx
  clear hbx HD1 HJ HK
  by_cases h50:op=50
  ·subst h50
   rw[if_pos rfl] at hR
   subst hR
   go_wp2_with fail
   go_ret3
   exact HD2.out.done (by omega) rfl ⟨rfl,rfl,rfl⟩
  ·rw[if_neg h50] at hR
   have z50:(op==50)=false:=by simpa using h50
   by_cases h34:op=34
   ·subst h34
    rw[if_pos rfl] at hR
    subst hR
    go_wp2_with fail
    go_ret3
    exact HD2.out.done (by omega) rfl ⟨rfl,rfl,j2,rfl,HJ2.out⟩
   ·rw[if_neg h34] at hR
    have z34:(op==34)=false:=by simpa using h34
    by_cases h35:op=35
    ·subst h35
     rw[if_pos rfl] at hR
     subst hR
     go_wp2_with fail
     go_ret3
     exact HD2.out.done (by omega) rfl ⟨rfl,⟨j2,rfl,HJ2.out⟩,j2,rfl,HJ2.out⟩
    ·rw[if_neg h35] at hR
     have z35:(op==35)=false:=by simpa using h35
     by_cases h36:op=36∨op=37
     ·rw[if_pos h36] at hR
      subst hR
      rcases h36 with rfl|rfl
      all_goals
       go_wp2_with (go_at_call 142;refine(pushS_ HD2.out HJ2.out (by omega) 0 1 (by decide) (by omega) rfl rfl).mono ?_;intro e w5 hp;obtain⟨j3,S3,rfl,hj3,hpx,hd3⟩:=HD2.out.push hp;have HD3:=Lib.hid hd3;have HJ3:=Lib.hid hj3;have HPX:=Lib.hid hpx;clear hp hpx hd3 hj3)
       go_ret3
       exact HD3.out.done (by omega) rfl ⟨rfl,⟨j2,rfl,pre_get HPX.out HJ2.out⟩,j3,rfl,HJ3.out⟩
     ·rw[if_neg h36] at hR
      have z36:(op==36)=false:=by simp;omega
      have z37:(op==37)=false:=by simp;omega
      subst hR
      clear h34 h35 h36 h50
      go_wp2_with fail
      go_ret3
      exact HD2.out.done (by omega) rfl ⟨rfl,⟨j2,rfl,HJ2.out⟩,rfl⟩
theorem does_38 (h:SkAt lo w W sb F S) {k:Nat} {s:List UInt8} (hk:S[k]? =some s) (hS:S.length≤1000000):
  Calls Tryz.prog 99 #[.pointer (some ⟨sb,0,none⟩),.agg #[.int .i64 38,.int .i64 a,.int .i64 b,.string t,.int .i64 q],.int .i64 k] W (DoesPost lo w W sb F S (doesR ⟨38,a,b,t,q⟩ s)):=by
 obtain⟨R,hR⟩:∃R,doesR ⟨38,a,b,t,q⟩ s=R:=⟨_,rfl⟩
 rw[hR]
 have hvr:valuesR ⟨38,a,b,t,q⟩=(-1,0):=rfl
 have hv0:VaOk 38 a b:=⟨fun e=>by omega,fun e=>by omega⟩
 have HVC:=Lib.hid (fun u=>r13_values 38 a b q t (by decide) hv0 u)
 rw[hvr] at HVC
 have HZ:Hid (S[0]? =some []):=Lib.hid (by obtain⟨_,_,_,_,_,_,_,_,_,_,_,_,_,hT,_,_⟩:=h;exact hT.zero)
 clear hvr hv0
 have HD0:=Lib.hid (DsS.start (ins:= #[.int .i64 38,.int .i64 a,.int .i64 b,.string t,.int .i64 q]) h)
 have HK:=Lib.hid hk
 have hx:=heap_alloc_new W (.cells #[.int .i64 38,.int .i64 a,.int .i64 b,.string t,.int .i64 q] 36 (0,0))
 obtain⟨bi,hbi⟩:∃bi,W.heap.size=bi:=⟨_,rfl⟩
 clear h hk
 go_enter Tryz.func99,Tryz.ntmps99
 go_upto_region 1 with fail
 obtain⟨W1,hW1⟩:∃W1,W.alloc (.cells #[.int .i64 38,.int .i64 a,.int .i64 b,.string t,.int .i64 q] 36 (0,0))=W1:=⟨_,rfl⟩
 simp only[hbi,hW1] at HD0 hx⊢
 clear hW1
 obtain⟨x0,x1,x2,x3,x4⟩:=row5c HD0.out.bx
 go_upto_region 2 with(go_at_call 140;refine(HVC.out _).mono ?_;rintro e w2 ⟨rfl,hb⟩;have HD1:=Lib.hid (HD0.out.under hb);clear hb)
 clear HD0 hx x0 x1 x2 x3 x4
 obtain⟨x0,x1,x2,x3,x4⟩:=row5c HD1.out.bx
 have hr:R=some (some (112::s),none):=hR.symm
 subst hr
 go_wp2_with (go_at_call 142;refine(pushS_ HD1.out HK.out (by omega) 1 1 (by decide) (by omega) rfl rfl).mono ?_;intro e w4 hp;obtain⟨j2,S2,rfl,hj2,hpx,hd2⟩:=HD1.out.push hp;have HD2:=Lib.hid hd2;have HJ2:=Lib.hid hj2;have HPX:=Lib.hid hpx;clear hp hpx hd2 hj2)
 go_ret3
 exact HD2.out.done (by omega) rfl ⟨rfl,⟨j2,rfl,HJ2.out⟩,rfl⟩
theorem does_39 (h:SkAt lo w W sb F S) {k:Nat} {s:List UInt8} (hk:S[k]? =some s) (hS:S.length≤1000000):
  Calls Tryz.prog 99 #[.pointer (some ⟨sb,0,none⟩),.agg #[.int .i64 39,.int .i64 a,.int .i64 b,.string t,.int .i64 q],.int .i64 k] W (DoesPost lo w W sb F S (doesR ⟨39,a,b,t,q⟩ s)):=by
 obtain⟨R,hR⟩:∃R,doesR ⟨39,a,b,t,q⟩ s=R:=⟨_,rfl⟩
 rw[hR]
 have hvr:valuesR ⟨39,a,b,t,q⟩=(-1,0):=rfl
 have hv0:VaOk 39 a b:=⟨fun e=>by omega,fun e=>by omega⟩
 have HVC:=Lib.hid (fun u=>r13_values 39 a b q t (by decide) hv0 u)
 rw[hvr] at HVC
 have HZ:Hid (S[0]? =some []):=Lib.hid (by obtain⟨_,_,_,_,_,_,_,_,_,_,_,_,_,hT,_,_⟩:=h;exact hT.zero)
 clear hvr hv0
 have HD0:=Lib.hid (DsS.start (ins:= #[.int .i64 39,.int .i64 a,.int .i64 b,.string t,.int .i64 q]) h)
 have HK:=Lib.hid hk
 have hx:=heap_alloc_new W (.cells #[.int .i64 39,.int .i64 a,.int .i64 b,.string t,.int .i64 q] 36 (0,0))
 obtain⟨bi,hbi⟩:∃bi,W.heap.size=bi:=⟨_,rfl⟩
 clear h hk
 go_enter Tryz.func99,Tryz.ntmps99
 go_upto_region 1 with fail
 obtain⟨W1,hW1⟩:∃W1,W.alloc (.cells #[.int .i64 39,.int .i64 a,.int .i64 b,.string t,.int .i64 q] 36 (0,0))=W1:=⟨_,rfl⟩
 simp only[hbi,hW1] at HD0 hx⊢
 clear hW1
 obtain⟨x0,x1,x2,x3,x4⟩:=row5c HD0.out.bx
 go_upto_region 2 with(go_at_call 140;refine(HVC.out _).mono ?_;rintro e w2 ⟨rfl,hb⟩;have HD1:=Lib.hid (HD0.out.under hb);clear hb)
 clear HD0 hx x0 x1 x2 x3 x4
 obtain⟨x0,x1,x2,x3,x4⟩:=row5c HD1.out.bx
 have hr:R=some (some (112::s),none):=hR.symm
 subst hr
 go_wp2_with (go_at_call 142;refine(pushS_ HD1.out HK.out (by omega) 1 1 (by decide) (by omega) rfl rfl).mono ?_;intro e w4 hp;obtain⟨j2,S2,rfl,hj2,hpx,hd2⟩:=HD1.out.push hp;have HD2:=Lib.hid hd2;have HJ2:=Lib.hid hj2;have HPX:=Lib.hid hpx;clear hp hpx hd2 hj2)
 go_ret3
 exact HD2.out.done (by omega) rfl ⟨rfl,⟨j2,rfl,HJ2.out⟩,rfl⟩
theorem does_40 (h:SkAt lo w W sb F S) {k:Nat} {s:List UInt8} (hk:S[k]? =some s) (hS:S.length≤1000000):
  Calls Tryz.prog 99 #[.pointer (some ⟨sb,0,none⟩),.agg #[.int .i64 40,.int .i64 a,.int .i64 b,.string t,.int .i64 q],.int .i64 k] W (DoesPost lo w W sb F S (doesR ⟨40,a,b,t,q⟩ s)):=by
 obtain⟨R,hR⟩:∃R,doesR ⟨40,a,b,t,q⟩ s=R:=⟨_,rfl⟩
 rw[hR]
 have hvr:valuesR ⟨40,a,b,t,q⟩=(-1,0):=rfl
 have hv0:VaOk 40 a b:=⟨fun e=>by omega,fun e=>by omega⟩
 have HVC:=Lib.hid (fun u=>r13_values 40 a b q t (by decide) hv0 u)
 rw[hvr] at HVC
 have HZ:Hid (S[0]? =some []):=Lib.hid (by obtain⟨_,_,_,_,_,_,_,_,_,_,_,_,_,hT,_,_⟩:=h;exact hT.zero)
 clear hvr hv0
 have HD0:=Lib.hid (DsS.start (ins:= #[.int .i64 40,.int .i64 a,.int .i64 b,.string t,.int .i64 q]) h)
 have HK:=Lib.hid hk
 have hx:=heap_alloc_new W (.cells #[.int .i64 40,.int .i64 a,.int .i64 b,.string t,.int .i64 q] 36 (0,0))
 obtain⟨bi,hbi⟩:∃bi,W.heap.size=bi:=⟨_,rfl⟩
 clear h hk
 go_enter Tryz.func99,Tryz.ntmps99
 go_upto_region 1 with fail
 obtain⟨W1,hW1⟩:∃W1,W.alloc (.cells #[.int .i64 40,.int .i64 a,.int .i64 b,.string t,.int .i64 q] 36 (0,0))=W1:=⟨_,rfl⟩
 simp only[hbi,hW1] at HD0 hx⊢
 clear hW1
 obtain⟨x0,x1,x2,x3,x4⟩:=row5c HD0.out.bx
 go_upto_region 2 with(go_at_call 140;refine(HVC.out _).mono ?_;rintro e w2 ⟨rfl,hb⟩;have HD1:=Lib.hid (HD0.out.under hb);clear hb)
 clear HD0 hx x0 x1 x2 x3 x4
 obtain⟨x0,x1,x2,x3,x4⟩:=row5c HD1.out.bx
 have hr:R=some (some (112::s),none):=hR.symm
 subst hr
 go_wp2_with (go_at_call 142;refine(pushS_ HD1.out HK.out (by omega) 1 1 (by decide) (by omega) rfl rfl).mono ?_;intro e w4 hp;obtain⟨j2,S2,rfl,hj2,hpx,hd2⟩:=HD1.out.push hp;have HD2:=Lib.hid hd2;have HJ2:=Lib.hid hj2;have HPX:=Lib.hid hpx;clear hp hpx hd2 hj2)
 go_ret3
 exact HD2.out.done (by omega) rfl ⟨rfl,⟨j2,rfl,HJ2.out⟩,rfl⟩
theorem does_41 (h:SkAt lo w W sb F S) {k:Nat} {s:List UInt8} (hk:S[k]? =some s) (hS:S.length≤1000000):
  Calls Tryz.prog 99 #[.pointer (some ⟨sb,0,none⟩),.agg #[.int .i64 41,.int .i64 a,.int .i64 b,.string t,.int .i64 q],.int .i64 k] W (DoesPost lo w W sb F S (doesR ⟨41,a,b,t,q⟩ s)):=by
 obtain⟨R,hR⟩:∃R,doesR ⟨41,a,b,t,q⟩ s=R:=⟨_,rfl⟩
 rw[hR]
 have hvr:valuesR ⟨41,a,b,t,q⟩=(-1,0):=rfl
 have hv0:VaOk 41 a b:=⟨fun e=>by omega,fun e=>by omega⟩
 have HVC:=Lib.hid (fun u=>r13_values 41 a b q t (by decide) hv0 u)
 rw[hvr] at HVC
 have HZ:Hid (S[0]? =some []):=Lib.hid (by obtain⟨_,_,_,_,_,_,_,_,_,_,_,_,_,hT,_,_⟩:=h;exact hT.zero)
 clear hvr hv0
 have HD0:=Lib.hid (DsS.start (ins:= #[.int .i64 41,.int .i64 a,.int .i64 b,.string t,.int .i64 q]) h)
 have HK:=Lib.hid hk
 have hx:=heap_alloc_new W (.cells #[.int .i64 41,.int .i64 a,.int .i64 b,.string t,.int .i64 q] 36 (0,0))
 obtain⟨bi,hbi⟩:∃bi,W.heap.size=bi:=⟨_,rfl⟩
 clear h hk
 go_enter Tryz.func99,Tryz.ntmps99
 go_upto_region 1 with fail
 obtain⟨W1,hW1⟩:∃W1,W.alloc (.cells #[.int .i64 41,.int .i64 a,.int .i64 b,.string t,.int .i64 q] 36 (0,0))=W1:=⟨_,rfl⟩
 simp only[hbi,hW1] at HD0 hx⊢
 clear hW1
 obtain⟨x0,x1,x2,x3,x4⟩:=row5c HD0.out.bx
 go_upto_region 2 with(go_at_call 140;refine(HVC.out _).mono ?_;rintro e w2 ⟨rfl,hb⟩;have HD1:=Lib.hid (HD0.out.under hb);clear hb)
 clear HD0 hx x0 x1 x2 x3 x4
 obtain⟨x0,x1,x2,x3,x4⟩:=row5c HD1.out.bx
 have hr:R=(lessP s 118 1).map fun t=>(some (112::t),none):=hR.symm
 clear hR
 cases hl:lessP s 118 1 with
 |none=>
  rw[hl] at hr
  replace hr:R=none:=hr
  subst hr
  have HL:Hid (lessP s (sgn3 0) 1=none):=Lib.hid hl
  clear hl
  go_wp2_with (first
   |(go_at_call 141;refine(popS_ HD1.out HK.out 0 1 (by decide) (by omega) rfl rfl).mono ?_;intro e w3 hp;obtain⟨rfl,rfl⟩:=hp.none HL.out)
   |(go_at_call 142;refine(pushS_ HD1.out HZ.out (by omega) 1 1 (by decide) (by omega) rfl rfl).mono ?_;intro e w4 hp;obtain⟨j2,S2,rfl,hj2,hpx,hd2⟩:=HD1.out.push hp;have HD2:=Lib.hid hd2;have HJ2:=Lib.hid hj2;have HPX:=Lib.hid hpx;clear hp hpx hd2 hj2))
  go_ret3
  exact HD2.out.done (by omega) rfl rfl
 |some u=>
  rw[hl] at hr
  replace hr:R=some (some (112::u),none):=hr
  subst hr
  have HL:Hid (lessP s (sgn3 0) 1=some u):=Lib.hid hl
  clear hl
  go_wp2_with (first
   |(go_at_call 141;refine(popS_ HD1.out HK.out 0 1 (by decide) (by omega) rfl rfl).mono ?_;intro e w3 hp;obtain⟨rfl,j,hj,rfl⟩:=hp.some HL.out;have HJ:=Lib.hid hj;clear hp hj)
   |(go_at_call 142;refine(pushS_ HD1.out HJ.out (by omega) 1 1 (by decide) (by omega) rfl rfl).mono ?_;intro e w4 hp;obtain⟨j2,S2,rfl,hj2,hpx,hd2⟩:=HD1.out.push hp;have HD2:=Lib.hid hd2;have HJ2:=Lib.hid hj2;have HPX:=Lib.hid hpx;clear hp hpx hd2 hj2))
  go_ret3
  exact HD2.out.done (by omega) rfl ⟨rfl,⟨j2,rfl,HJ2.out⟩,rfl⟩
theorem does_42 (h:SkAt lo w W sb F S) {k:Nat} {s:List UInt8} (hk:S[k]? =some s) (hS:S.length≤1000000):
  Calls Tryz.prog 99 #[.pointer (some ⟨sb,0,none⟩),.agg #[.int .i64 42,.int .i64 a,.int .i64 b,.string t,.int .i64 q],.int .i64 k] W (DoesPost lo w W sb F S (doesR ⟨42,a,b,t,q⟩ s)):=by
 obtain⟨R,hR⟩:∃R,doesR ⟨42,a,b,t,q⟩ s=R:=⟨_,rfl⟩
 rw[hR]
 have hvr:valuesR ⟨42,a,b,t,q⟩=(-1,0):=rfl
 have hv0:VaOk 42 a b:=⟨fun e=>by omega,fun e=>by omega⟩
 have HVC:=Lib.hid (fun u=>r13_values 42 a b q t (by decide) hv0 u)
 rw[hvr] at HVC
 have HZ:Hid (S[0]? =some []):=Lib.hid (by obtain⟨_,_,_,_,_,_,_,_,_,_,_,_,_,hT,_,_⟩:=h;exact hT.zero)
 clear hvr hv0
 have HD0:=Lib.hid (DsS.start (ins:= #[.int .i64 42,.int .i64 a,.int .i64 b,.string t,.int .i64 q]) h)
 have HK:=Lib.hid hk
 have hx:=heap_alloc_new W (.cells #[.int .i64 42,.int .i64 a,.int .i64 b,.string t,.int .i64 q] 36 (0,0))
 obtain⟨bi,hbi⟩:∃bi,W.heap.size=bi:=⟨_,rfl⟩
 clear h hk
 go_enter Tryz.func99,Tryz.ntmps99
 go_upto_region 1 with fail
 obtain⟨W1,hW1⟩:∃W1,W.alloc (.cells #[.int .i64 42,.int .i64 a,.int .i64 b,.string t,.int .i64 q] 36 (0,0))=W1:=⟨_,rfl⟩
 simp only[hbi,hW1] at HD0 hx⊢
 clear hW1
 obtain⟨x0,x1,x2,x3,x4⟩:=row5c HD0.out.bx
 go_upto_region 2 with(go_at_call 140;refine(HVC.out _).mono ?_;rintro e w2 ⟨rfl,hb⟩;have HD1:=Lib.hid (HD0.out.under hb);clear hb)
 clear HD0 hx x0 x1 x2 x3 x4
 obtain⟨x0,x1,x2,x3,x4⟩:=row5c HD1.out.bx
 have hr:R=(lessP s 118 2).map fun t=>(some (112::t),none):=hR.symm
 clear hR
 cases hl:lessP s 118 2 with
 |none=>
  rw[hl] at hr
  replace hr:R=none:=hr
  subst hr
  have HL:Hid (lessP s (sgn3 0) 2=none):=Lib.hid hl
  clear hl
  go_wp2_with (first
   |(go_at_call 141;refine(popS_ HD1.out HK.out 0 2 (by decide) (by omega) rfl rfl).mono ?_;intro e w3 hp;obtain⟨rfl,rfl⟩:=hp.none HL.out)
   |(go_at_call 142;refine(pushS_ HD1.out HZ.out (by omega) 1 1 (by decide) (by omega) rfl rfl).mono ?_;intro e w4 hp;obtain⟨j2,S2,rfl,hj2,hpx,hd2⟩:=HD1.out.push hp;have HD2:=Lib.hid hd2;have HJ2:=Lib.hid hj2;have HPX:=Lib.hid hpx;clear hp hpx hd2 hj2))
  go_ret3
  exact HD2.out.done (by omega) rfl rfl
 |some u=>
  rw[hl] at hr
  replace hr:R=some (some (112::u),none):=hr
  subst hr
  have HL:Hid (lessP s (sgn3 0) 2=some u):=Lib.hid hl
  clear hl
  go_wp2_with (first
   |(go_at_call 141;refine(popS_ HD1.out HK.out 0 2 (by decide) (by omega) rfl rfl).mono ?_;intro e w3 hp;obtain⟨rfl,j,hj,rfl⟩:=hp.some HL.out;have HJ:=Lib.hid hj;clear hp hj)
   |(go_at_call 142;refine(pushS_ HD1.out HJ.out (by omega) 1 1 (by decide) (by omega) rfl rfl).mono ?_;intro e w4 hp;obtain⟨j2,S2,rfl,hj2,hpx,hd2⟩:=HD1.out.push hp;have HD2:=Lib.hid hd2;have HJ2:=Lib.hid hj2;have HPX:=Lib.hid hpx;clear hp hpx hd2 hj2))
  go_ret3
  exact HD2.out.done (by omega) rfl ⟨rfl,⟨j2,rfl,HJ2.out⟩,rfl⟩
theorem does_51 (h:SkAt lo w W sb F S) {k:Nat} {s:List UInt8} (hk:S[k]? =some s) (hS:S.length≤1000000):
  Calls Tryz.prog 99 #[.pointer (some ⟨sb,0,none⟩),.agg #[.int .i64 51,.int .i64 a,.int .i64 b,.string t,.int .i64 q],.int .i64 k] W (DoesPost lo w W sb F S (doesR ⟨51,a,b,t,q⟩ s)):=by
 obtain⟨R,hR⟩:∃R,doesR ⟨51,a,b,t,q⟩ s=R:=⟨_,rfl⟩
 rw[hR]
 have hvr:valuesR ⟨51,a,b,t,q⟩=(-1,0):=rfl
 have hv0:VaOk 51 a b:=⟨fun e=>by omega,fun e=>by omega⟩
 have HVC:=Lib.hid (fun u=>r13_values 51 a b q t (by decide) hv0 u)
 rw[hvr] at HVC
 have HZ:Hid (S[0]? =some []):=Lib.hid (by obtain⟨_,_,_,_,_,_,_,_,_,_,_,_,_,hT,_,_⟩:=h;exact hT.zero)
 clear hvr hv0
 have HD0:=Lib.hid (DsS.start (ins:= #[.int .i64 51,.int .i64 a,.int .i64 b,.string t,.int .i64 q]) h)
 have HK:=Lib.hid hk
 have hx:=heap_alloc_new W (.cells #[.int .i64 51,.int .i64 a,.int .i64 b,.string t,.int .i64 q] 36 (0,0))
 obtain⟨bi,hbi⟩:∃bi,W.heap.size=bi:=⟨_,rfl⟩
 clear h hk
 go_enter Tryz.func99,Tryz.ntmps99
 go_upto_region 1 with fail
 obtain⟨W1,hW1⟩:∃W1,W.alloc (.cells #[.int .i64 51,.int .i64 a,.int .i64 b,.string t,.int .i64 q] 36 (0,0))=W1:=⟨_,rfl⟩
 simp only[hbi,hW1] at HD0 hx⊢
 clear hW1
 obtain⟨x0,x1,x2,x3,x4⟩:=row5c HD0.out.bx
 go_upto_region 2 with(go_at_call 140;refine(HVC.out _).mono ?_;rintro e w2 ⟨rfl,hb⟩;have HD1:=Lib.hid (HD0.out.under hb);clear hb)
 clear HD0 hx x0 x1 x2 x3 x4
 obtain⟨x0,x1,x2,x3,x4⟩:=row5c HD1.out.bx
 have hr:R=(lessP s 118 1).map fun t=>(some (116::t),none):=hR.symm
 clear hR
 cases hl:lessP s 118 1 with
 |none=>
  rw[hl] at hr
  replace hr:R=none:=hr
  subst hr
  have HL:Hid (lessP s (sgn3 0) 1=none):=Lib.hid hl
  clear hl
  go_wp2_with (first
   |(go_at_call 141;refine(popS_ HD1.out HK.out 0 1 (by decide) (by omega) rfl rfl).mono ?_;intro e w3 hp;obtain⟨rfl,rfl⟩:=hp.none HL.out)
   |(go_at_call 142;refine(pushS_ HD1.out HZ.out (by omega) 2 1 (by decide) (by omega) rfl rfl).mono ?_;intro e w4 hp;obtain⟨j2,S2,rfl,hj2,hpx,hd2⟩:=HD1.out.push hp;have HD2:=Lib.hid hd2;have HJ2:=Lib.hid hj2;have HPX:=Lib.hid hpx;clear hp hpx hd2 hj2))
  go_ret3
  exact HD2.out.done (by omega) rfl rfl
 |some u=>
  rw[hl] at hr
  replace hr:R=some (some (116::u),none):=hr
  subst hr
  have HL:Hid (lessP s (sgn3 0) 1=some u):=Lib.hid hl
  clear hl
  go_wp2_with (first
   |(go_at_call 141;refine(popS_ HD1.out HK.out 0 1 (by decide) (by omega) rfl rfl).mono ?_;intro e w3 hp;obtain⟨rfl,j,hj,rfl⟩:=hp.some HL.out;have HJ:=Lib.hid hj;clear hp hj)
   |(go_at_call 142;refine(pushS_ HD1.out HJ.out (by omega) 2 1 (by decide) (by omega) rfl rfl).mono ?_;intro e w4 hp;obtain⟨j2,S2,rfl,hj2,hpx,hd2⟩:=HD1.out.push hp;have HD2:=Lib.hid hd2;have HJ2:=Lib.hid hj2;have HPX:=Lib.hid hpx;clear hp hpx hd2 hj2))
  go_ret3
  exact HD2.out.done (by omega) rfl ⟨rfl,⟨j2,rfl,HJ2.out⟩,rfl⟩
theorem does_43 (h:SkAt lo w W sb F S) {k:Nat} {s:List UInt8} (hk:S[k]? =some s) (hS:S.length≤1000000):
  Calls Tryz.prog 99 #[.pointer (some ⟨sb,0,none⟩),.agg #[.int .i64 43,.int .i64 a,.int .i64 b,.string t,.int .i64 q],.int .i64 k] W (DoesPost lo w W sb F S (doesR ⟨43,a,b,t,q⟩ s)):=by
 obtain⟨R,hR⟩:∃R,doesR ⟨43,a,b,t,q⟩ s=R:=⟨_,rfl⟩
 rw[hR]
 have hvr:valuesR ⟨43,a,b,t,q⟩=(-1,0):=rfl
 have hv0:VaOk 43 a b:=⟨fun e=>by omega,fun e=>by omega⟩
 have HVC:=Lib.hid (fun u=>r13_values 43 a b q t (by decide) hv0 u)
 rw[hvr] at HVC
 have HZ:Hid (S[0]? =some []):=Lib.hid (by obtain⟨_,_,_,_,_,_,_,_,_,_,_,_,_,hT,_,_⟩:=h;exact hT.zero)
 clear hvr hv0
 have HD0:=Lib.hid (DsS.start (ins:= #[.int .i64 43,.int .i64 a,.int .i64 b,.string t,.int .i64 q]) h)
 have HK:=Lib.hid hk
 have hx:=heap_alloc_new W (.cells #[.int .i64 43,.int .i64 a,.int .i64 b,.string t,.int .i64 q] 36 (0,0))
 obtain⟨bi,hbi⟩:∃bi,W.heap.size=bi:=⟨_,rfl⟩
 clear h hk
 go_enter Tryz.func99,Tryz.ntmps99
 go_upto_region 1 with fail
 obtain⟨W1,hW1⟩:∃W1,W.alloc (.cells #[.int .i64 43,.int .i64 a,.int .i64 b,.string t,.int .i64 q] 36 (0,0))=W1:=⟨_,rfl⟩
 simp only[hbi,hW1] at HD0 hx⊢
 clear hW1
 obtain⟨x0,x1,x2,x3,x4⟩:=row5c HD0.out.bx
 go_upto_region 2 with(go_at_call 140;refine(HVC.out _).mono ?_;rintro e w2 ⟨rfl,hb⟩;have HD1:=Lib.hid (HD0.out.under hb);clear hb)
 clear HD0 hx x0 x1 x2 x3 x4
 obtain⟨x0,x1,x2,x3,x4⟩:=row5c HD1.out.bx
 cases hl:lessP s 118 1 with
 |some u=>
  have hr:R=some (some (112::u),none):=by
   rw[←hR]
   show(match lessP s 118 1 with
    |some t=>some (some (112::t),none)
    |none=>(lessP s 112 1).map fun t=>(some (112::t),none))=_
   rw[hl]
  subst hr
  have HL:Hid (lessP s (sgn3 0) 1=some u):=Lib.hid hl
  clear hl hR
  go_wp2_with (first
   |(go_at_call 141;refine(popS_ HD1.out HK.out 0 1 (by decide) (by omega) rfl rfl).mono ?_;intro e w3 hp;obtain⟨rfl,j,hj,rfl⟩:=hp.some HL.out;have HJ:=Lib.hid hj;clear hp hj)
   |(go_at_call 142;refine(pushS_ HD1.out HJ.out (by omega) 1 1 (by decide) (by omega) rfl rfl).mono ?_;intro e w4 hp;obtain⟨j2,S2,rfl,hj2,hpx,hd2⟩:=HD1.out.push hp;have HD2:=Lib.hid hd2;have HJ2:=Lib.hid hj2;have HPX:=Lib.hid hpx;clear hp hpx hd2 hj2))
  go_ret3
  exact HD2.out.done (by omega) rfl ⟨rfl,⟨j2,rfl,HJ2.out⟩,rfl⟩
 |none=>
  have hr:R=(lessP s 112 1).map fun t=>(some (112::t),none):=by
   rw[←hR]
   show(match lessP s 118 1 with
    |some t=>some (some (112::t),none)
    |none=>(lessP s 112 1).map fun t=>(some (112::t),none))=_
   rw[hl]
  have HL:Hid (lessP s (sgn3 0) 1=none):=Lib.hid hl
  clear hl hR
  cases hl2:lessP s 112 1 with
  |none=>
   rw[hl2] at hr
   replace hr:R=none:=hr
   subst hr
   have HL2:Hid (lessP s (sgn3 1) 1=none):=Lib.hid hl2
   clear hl2
   go_upto_region 32 with(go_at_call 141;refine(popS_ HD1.out HK.out 0 1 (by decide) (by omega) rfl rfl).mono ?_;intro e w3 hp;obtain⟨rfl,rfl⟩:=hp.none HL.out)
   go_wp2_with (first
    |(go_at_call 141;refine(popS_ HD1.out HK.out 1 1 (by decide) (by omega) rfl rfl).mono ?_;intro e w3 hp;obtain⟨rfl,rfl⟩:=hp.none HL2.out)
    |(go_at_call 142;refine(pushS_ HD1.out HZ.out (by omega) 1 1 (by decide) (by omega) rfl rfl).mono ?_;intro e w4 hp;obtain⟨j2,S2,rfl,hj2,hpx,hd2⟩:=HD1.out.push hp;have HD2:=Lib.hid hd2;have HJ2:=Lib.hid hj2;have HPX:=Lib.hid hpx;clear hp hpx hd2 hj2))
   go_ret3
   exact HD2.out.done (by omega) rfl rfl
  |some u=>
   rw[hl2] at hr
   replace hr:R=some (some (112::u),none):=hr
   subst hr
   have HL2:Hid (lessP s (sgn3 1) 1=some u):=Lib.hid hl2
   clear hl2
   go_upto_region 32 with(go_at_call 141;refine(popS_ HD1.out HK.out 0 1 (by decide) (by omega) rfl rfl).mono ?_;intro e w3 hp;obtain⟨rfl,rfl⟩:=hp.none HL.out)
   go_wp2_with (first
    |(go_at_call 141;refine(popS_ HD1.out HK.out 1 1 (by decide) (by omega) rfl rfl).mono ?_;intro e w3 hp;obtain⟨rfl,j,hj,rfl⟩:=hp.some HL2.out;have HJ:=Lib.hid hj;clear hp hj)
    |(go_at_call 142;refine(pushS_ HD1.out HJ.out (by omega) 1 1 (by decide) (by omega) rfl rfl).mono ?_;intro e w4 hp;obtain⟨j2,S2,rfl,hj2,hpx,hd2⟩:=HD1.out.push hp;have HD2:=Lib.hid hd2;have HJ2:=Lib.hid hj2;have HPX:=Lib.hid hpx;clear hp hpx hd2 hj2))
   go_ret3
   exact HD2.out.done (by omega) rfl ⟨rfl,⟨j2,rfl,HJ2.out⟩,rfl⟩
theorem does_44 (h:SkAt lo w W sb F S) {k:Nat} {s:List UInt8} (hk:S[k]? =some s) (hS:S.length≤1000000):
  Calls Tryz.prog 99 #[.pointer (some ⟨sb,0,none⟩),.agg #[.int .i64 44,.int .i64 a,.int .i64 b,.string t,.int .i64 q],.int .i64 k] W (DoesPost lo w W sb F S (doesR ⟨44,a,b,t,q⟩ s)):=by
 obtain⟨R,hR⟩:∃R,doesR ⟨44,a,b,t,q⟩ s=R:=⟨_,rfl⟩
 rw[hR]
 have hvr:valuesR ⟨44,a,b,t,q⟩=(-1,0):=rfl
 have hv0:VaOk 44 a b:=⟨fun e=>by omega,fun e=>by omega⟩
 have HVC:=Lib.hid (fun u=>r13_values 44 a b q t (by decide) hv0 u)
 rw[hvr] at HVC
 have HZ:Hid (S[0]? =some []):=Lib.hid (by obtain⟨_,_,_,_,_,_,_,_,_,_,_,_,_,hT,_,_⟩:=h;exact hT.zero)
 clear hvr hv0
 have HD0:=Lib.hid (DsS.start (ins:= #[.int .i64 44,.int .i64 a,.int .i64 b,.string t,.int .i64 q]) h)
 have HK:=Lib.hid hk
 have hx:=heap_alloc_new W (.cells #[.int .i64 44,.int .i64 a,.int .i64 b,.string t,.int .i64 q] 36 (0,0))
 obtain⟨bi,hbi⟩:∃bi,W.heap.size=bi:=⟨_,rfl⟩
 clear h hk
 go_enter Tryz.func99,Tryz.ntmps99
 go_upto_region 1 with fail
 obtain⟨W1,hW1⟩:∃W1,W.alloc (.cells #[.int .i64 44,.int .i64 a,.int .i64 b,.string t,.int .i64 q] 36 (0,0))=W1:=⟨_,rfl⟩
 simp only[hbi,hW1] at HD0 hx⊢
 clear hW1
 obtain⟨x0,x1,x2,x3,x4⟩:=row5c HD0.out.bx
 go_upto_region 2 with(go_at_call 140;refine(HVC.out _).mono ?_;rintro e w2 ⟨rfl,hb⟩;have HD1:=Lib.hid (HD0.out.under hb);clear hb)
 clear HD0 hx x0 x1 x2 x3 x4
 obtain⟨x0,x1,x2,x3,x4⟩:=row5c HD1.out.bx
 have hr:R=(lessP s 112 1).map fun _=>(some (118::s),none):=hR.symm
 clear hR
 cases hl:lessP s 112 1 with
 |none=>
  rw[hl] at hr
  replace hr:R=none:=hr
  subst hr
  have HL:Hid (lessP s (sgn3 1) 1=none):=Lib.hid hl
  clear hl
  go_wp2_with (first
   |(go_at_call 141;refine(popS_ HD1.out HK.out 1 1 (by decide) (by omega) rfl rfl).mono ?_;intro e w3 hp;obtain⟨rfl,rfl⟩:=hp.none HL.out)
   |(go_at_call 142;refine(pushS_ HD1.out HK.out (by omega) 0 1 (by decide) (by omega) rfl rfl).mono ?_;intro e w4 hp;obtain⟨j2,S2,rfl,hj2,hpx,hd2⟩:=HD1.out.push hp;have HD2:=Lib.hid hd2;have HJ2:=Lib.hid hj2;have HPX:=Lib.hid hpx;clear hp hpx hd2 hj2))
  go_ret3
  exact HD2.out.done (by omega) rfl rfl
 |some u=>
  rw[hl] at hr
  replace hr:R=some (some (118::s),none):=hr
  subst hr
  have HL:Hid (lessP s (sgn3 1) 1=some u):=Lib.hid hl
  clear hl
  go_wp2_with (first
   |(go_at_call 141;refine(popS_ HD1.out HK.out 1 1 (by decide) (by omega) rfl rfl).mono ?_;intro e w3 hp;obtain⟨rfl,j,hj,rfl⟩:=hp.some HL.out;have HJ:=Lib.hid hj;clear hp hj)
   |(go_at_call 142;refine(pushS_ HD1.out HK.out (by omega) 0 1 (by decide) (by omega) rfl rfl).mono ?_;intro e w4 hp;obtain⟨j2,S2,rfl,hj2,hpx,hd2⟩:=HD1.out.push hp;have HD2:=Lib.hid hd2;have HJ2:=Lib.hid hj2;have HPX:=Lib.hid hpx;clear hp hpx hd2 hj2))
  go_ret3
  exact HD2.out.done (by omega) rfl ⟨rfl,⟨j2,rfl,HJ2.out⟩,rfl⟩
theorem does_45 (h:SkAt lo w W sb F S) {k:Nat} {s:List UInt8} (hk:S[k]? =some s) (_hS:S.length≤1000000):
  Calls Tryz.prog 99 #[.pointer (some ⟨sb,0,none⟩),.agg #[.int .i64 45,.int .i64 a,.int .i64 b,.string t,.int .i64 q],.int .i64 k] W (DoesPost lo w W sb F S (doesR ⟨45,a,b,t,q⟩ s)):=by
 obtain⟨R,hR⟩:∃R,doesR ⟨45,a,b,t,q⟩ s=R:=⟨_,rfl⟩
 rw[hR]
 have hvr:valuesR ⟨45,a,b,t,q⟩=(-1,0):=rfl
 have hv0:VaOk 45 a b:=⟨fun e=>by omega,fun e=>by omega⟩
 have HVC:=Lib.hid (fun u=>r13_values 45 a b q t (by decide) hv0 u)
 rw[hvr] at HVC
 have HZ:Hid (S[0]? =some []):=Lib.hid (by obtain⟨_,_,_,_,_,_,_,_,_,_,_,_,_,hT,_,_⟩:=h;exact hT.zero)
 clear hvr hv0
 have HD0:=Lib.hid (DsS.start (ins:= #[.int .i64 45,.int .i64 a,.int .i64 b,.string t,.int .i64 q]) h)
 have HK:=Lib.hid hk
 have hx:=heap_alloc_new W (.cells #[.int .i64 45,.int .i64 a,.int .i64 b,.string t,.int .i64 q] 36 (0,0))
 obtain⟨bi,hbi⟩:∃bi,W.heap.size=bi:=⟨_,rfl⟩
 clear h hk
 go_enter Tryz.func99,Tryz.ntmps99
 go_upto_region 1 with fail
 obtain⟨W1,hW1⟩:∃W1,W.alloc (.cells #[.int .i64 45,.int .i64 a,.int .i64 b,.string t,.int .i64 q] 36 (0,0))=W1:=⟨_,rfl⟩
 simp only[hbi,hW1] at HD0 hx⊢
 clear hW1
 obtain⟨x0,x1,x2,x3,x4⟩:=row5c HD0.out.bx
 go_upto_region 2 with(go_at_call 140;refine(HVC.out _).mono ?_;rintro e w2 ⟨rfl,hb⟩;have HD1:=Lib.hid (HD0.out.under hb);clear hb)
 clear HD0 hx x0 x1 x2 x3 x4
 obtain⟨x0,x1,x2,x3,x4⟩:=row5c HD1.out.bx
 cases hl:lessP s 118 1 with
 |none=>
  have hr:R=none:=by
   rw[←hR]
   show(match lessP s 118 1 with
    |some t=>(lessP t 112 1).map fun u=>(some u,none)
    |none=>none)=_
   rw[hl]
  subst hr
  have HL:Hid (lessP s (sgn3 0) 1=none):=Lib.hid hl
  clear hl hR
  go_wp2_with (go_at_call 141;refine(popS_ HD1.out HK.out 0 1 (by decide) (by omega) rfl rfl).mono ?_;intro e w3 hp;obtain⟨rfl,rfl⟩:=hp.none HL.out)
  go_ret3
  exact HD1.out.done (by omega) rfl rfl
 |some u=>
  have hr:R=(lessP u 112 1).map fun u=>(some u,none):=by
   rw[←hR]
   show(match lessP s 118 1 with
    |some t=>(lessP t 112 1).map fun u=>(some u,none)
    |none=>none)=_
   rw[hl]
  have HL:Hid (lessP s (sgn3 0) 1=some u):=Lib.hid hl
  clear hl hR
  cases hl2:lessP u 112 1 with
  |none=>
   rw[hl2] at hr
   replace hr:R=none:=hr
   subst hr
   have HL2:Hid (lessP u (sgn3 1) 1=none):=Lib.hid hl2
   clear hl2
   go_upto_region 40 with(go_at_call 141;refine(popS_ HD1.out HK.out 0 1 (by decide) (by omega) rfl rfl).mono ?_;intro e w3 hp;obtain⟨rfl,j,hj,rfl⟩:=hp.some HL.out;have HJ:=Lib.hid hj;clear hp hj)
   go_wp2_with (go_at_call 141;refine(popS_ HD1.out HJ.out 1 1 (by decide) (by omega) rfl rfl).mono ?_;intro e w3 hp;obtain⟨rfl,rfl⟩:=hp.none HL2.out)
   go_ret3
   exact HD1.out.done (by omega) rfl rfl
  |some v=>
   rw[hl2] at hr
   replace hr:R=some (some v,none):=hr
   subst hr
   have HL2:Hid (lessP u (sgn3 1) 1=some v):=Lib.hid hl2
   clear hl2
   go_upto_region 40 with(go_at_call 141;refine(popS_ HD1.out HK.out 0 1 (by decide) (by omega) rfl rfl).mono ?_;intro e w3 hp;obtain⟨rfl,j,hj,rfl⟩:=hp.some HL.out;have HJ:=Lib.hid hj;clear hp hj)
   go_wp2_with (go_at_call 141;refine(popS_ HD1.out HJ.out 1 1 (by decide) (by omega) rfl rfl).mono ?_;intro e w3 hp;obtain⟨rfl,j2,hj,rfl⟩:=hp.some HL2.out;have HJ2:=Lib.hid hj;clear hp hj)
   go_ret3
   exact HD1.out.done (by omega) rfl ⟨rfl,⟨j2,rfl,HJ2.out⟩,rfl⟩
theorem does_52 (h:SkAt lo w W sb F S) {k:Nat} {s:List UInt8} (hk:S[k]? =some s) (hS:S.length≤1000000):
  Calls Tryz.prog 99 #[.pointer (some ⟨sb,0,none⟩),.agg #[.int .i64 52,.int .i64 a,.int .i64 b,.string t,.int .i64 q],.int .i64 k] W (DoesPost lo w W sb F S (doesR ⟨52,a,b,t,q⟩ s)):=by
 obtain⟨R,hR⟩:∃R,doesR ⟨52,a,b,t,q⟩ s=R:=⟨_,rfl⟩
 rw[hR]
 have hvr:valuesR ⟨52,a,b,t,q⟩=(-1,0):=rfl
 have hv0:VaOk 52 a b:=⟨fun e=>by omega,fun e=>by omega⟩
 have HVC:=Lib.hid (fun u=>r13_values 52 a b q t (by decide) hv0 u)
 rw[hvr] at HVC
 have HZ:Hid (S[0]? =some []):=Lib.hid (by obtain⟨_,_,_,_,_,_,_,_,_,_,_,_,_,hT,_,_⟩:=h;exact hT.zero)
 clear hvr hv0
 have HD0:=Lib.hid (DsS.start (ins:= #[.int .i64 52,.int .i64 a,.int .i64 b,.string t,.int .i64 q]) h)
 have HK:=Lib.hid hk
 have hx:=heap_alloc_new W (.cells #[.int .i64 52,.int .i64 a,.int .i64 b,.string t,.int .i64 q] 36 (0,0))
 obtain⟨bi,hbi⟩:∃bi,W.heap.size=bi:=⟨_,rfl⟩
 clear h hk
 go_enter Tryz.func99,Tryz.ntmps99
 go_upto_region 1 with fail
 obtain⟨W1,hW1⟩:∃W1,W.alloc (.cells #[.int .i64 52,.int .i64 a,.int .i64 b,.string t,.int .i64 q] 36 (0,0))=W1:=⟨_,rfl⟩
 simp only[hbi,hW1] at HD0 hx⊢
 clear hW1
 obtain⟨x0,x1,x2,x3,x4⟩:=row5c HD0.out.bx
 go_upto_region 2 with(go_at_call 140;refine(HVC.out _).mono ?_;rintro e w2 ⟨rfl,hb⟩;have HD1:=Lib.hid (HD0.out.under hb);clear hb)
 clear HD0 hx x0 x1 x2 x3 x4
 obtain⟨x0,x1,x2,x3,x4⟩:=row5c HD1.out.bx
 have hr:R=(lessP s 116 1).map fun t=>(some (118::118::s),some t):=hR.symm
 clear hR
 cases hl:lessP s 116 1 with
 |none=>
  rw[hl] at hr
  replace hr:R=none:=hr
  subst hr
  have HL:Hid (lessP s (sgn3 2) 1=none):=Lib.hid hl
  clear hl
  go_wp2_with (first
   |(go_at_call 141;refine(popS_ HD1.out HK.out 2 1 (by decide) (by omega) rfl rfl).mono ?_;intro e w3 hp;obtain⟨rfl,rfl⟩:=hp.none HL.out)
   |(go_at_call 142;refine(pushS_ HD1.out HK.out (by omega) 0 2 (by decide) (by omega) rfl rfl).mono ?_;intro e w4 hp;obtain⟨j2,S2,rfl,hj2,hpx,hd2⟩:=HD1.out.push hp;have HD2:=Lib.hid hd2;have HJ2:=Lib.hid hj2;have HPX:=Lib.hid hpx;clear hp hpx hd2 hj2))
  go_ret3
  exact HD2.out.done (by omega) rfl rfl
 |some u=>
  rw[hl] at hr
  replace hr:R=some (some (118::118::s),some u):=hr
  subst hr
  have HL:Hid (lessP s (sgn3 2) 1=some u):=Lib.hid hl
  clear hl
  go_wp2_with (first
   |(go_at_call 141;refine(popS_ HD1.out HK.out 2 1 (by decide) (by omega) rfl rfl).mono ?_;intro e w3 hp;obtain⟨rfl,j,hj,rfl⟩:=hp.some HL.out;have HJ:=Lib.hid hj;clear hp hj)
   |(go_at_call 142;refine(pushS_ HD1.out HK.out (by omega) 0 2 (by decide) (by omega) rfl rfl).mono ?_;intro e w4 hp;obtain⟨j2,S2,rfl,hj2,hpx,hd2⟩:=HD1.out.push hp;have HD2:=Lib.hid hd2;have HJ2:=Lib.hid hj2;have HPX:=Lib.hid hpx;clear hp hpx hd2 hj2))
  go_ret3
  exact HD2.out.done (by omega) rfl ⟨rfl,⟨j2,rfl,HJ2.out⟩,j,rfl,pre_get HPX.out HJ.out⟩
theorem does_53 (h:SkAt lo w W sb F S) {k:Nat} {s:List UInt8} (hk:S[k]? =some s) (_hS:S.length≤1000000) (ha:0≤a∧a≤20000):
  Calls Tryz.prog 99 #[.pointer (some ⟨sb,0,none⟩),.agg #[.int .i64 53,.int .i64 a,.int .i64 b,.string t,.int .i64 q],.int .i64 k] W (DoesPost lo w W sb F S (doesR ⟨53,a,b,t,q⟩ s)):=by
 obtain⟨R,hR⟩:∃R,doesR ⟨53,a,b,t,q⟩ s=R:=⟨_,rfl⟩
 rw[hR]
 have hvr:valuesR ⟨53,a,b,t,q⟩=(-1,0):=rfl
 have hv0:VaOk 53 a b:=⟨fun _=>ha,fun e=>by omega⟩
 have HVC:=Lib.hid (fun u=>r13_values 53 a b q t (by decide) hv0 u)
 rw[hvr] at HVC
 have HZ:Hid (S[0]? =some []):=Lib.hid (by obtain⟨_,_,_,_,_,_,_,_,_,_,_,_,_,hT,_,_⟩:=h;exact hT.zero)
 clear hvr hv0
 have HD0:=Lib.hid (DsS.start (ins:= #[.int .i64 53,.int .i64 a,.int .i64 b,.string t,.int .i64 q]) h)
 have HK:=Lib.hid hk
 have hx:=heap_alloc_new W (.cells #[.int .i64 53,.int .i64 a,.int .i64 b,.string t,.int .i64 q] 36 (0,0))
 obtain⟨bi,hbi⟩:∃bi,W.heap.size=bi:=⟨_,rfl⟩
 clear h hk
 go_enter Tryz.func99,Tryz.ntmps99
 go_upto_region 1 with fail
 obtain⟨W1,hW1⟩:∃W1,W.alloc (.cells #[.int .i64 53,.int .i64 a,.int .i64 b,.string t,.int .i64 q] 36 (0,0))=W1:=⟨_,rfl⟩
 simp only[hbi,hW1] at HD0 hx⊢
 clear hW1
 obtain⟨x0,x1,x2,x3,x4⟩:=row5c HD0.out.bx
 go_upto_region 2 with(go_at_call 140;refine(HVC.out _).mono ?_;rintro e w2 ⟨rfl,hb⟩;have HD1:=Lib.hid (HD0.out.under hb);clear hb)
 clear HD0 hx x0 x1 x2 x3 x4
 obtain⟨x0,x1,x2,x3,x4⟩:=row5c HD1.out.bx
 have hr:R=(lessP s 116 a.toNat).map fun t=>(some t,none):=hR.symm
 clear hR
 obtain⟨A,rfl⟩:=Int.eq_ofNat_of_zero_le ha.1
 rw[Int.toNat_natCast] at hr
 have hA:A≤20000:=by omega
 cases hl:lessP s 116 A with
 |none=>
  rw[hl] at hr
  replace hr:R=none:=hr
  subst hr
  have HL:Hid (lessP s (sgn3 2) A=none):=Lib.hid hl
  clear hl
  go_wp2_with (go_at_call 141;refine(popS_ HD1.out HK.out 2 A (by decide) (by omega) rfl rfl).mono ?_;intro e w3 hp;obtain⟨rfl,rfl⟩:=hp.none HL.out)
  go_ret3
  exact HD1.out.done (by omega) rfl rfl
 |some u=>
  rw[hl] at hr
  replace hr:R=some (some u,none):=hr
  subst hr
  have HL:Hid (lessP s (sgn3 2) A=some u):=Lib.hid hl
  clear hl
  go_wp2_with (go_at_call 141;refine(popS_ HD1.out HK.out 2 A (by decide) (by omega) rfl rfl).mono ?_;intro e w3 hp;obtain⟨rfl,j,hj,rfl⟩:=hp.some HL.out;have HJ:=Lib.hid hj;clear hp hj)
  go_ret3
  exact HD1.out.done (by omega) rfl ⟨rfl,⟨j,rfl,HJ.out⟩,rfl⟩
theorem values_bounds {op a b:Int} {t:ByteArray} {q:Int} (hop:1≤op∧op≤53) (hv:VaOk op a b) (h38:¬op=38) (h39:¬op=39) (h40:¬op=40) (h41:¬op=41) (h42:¬op=42) (h43:¬op=43) (h44:¬op=44) (h45:¬op=45) (h51:¬op=51) (h52:¬op=52) (h53:¬op=53):0≤(valuesR ⟨op,a,b,t,q⟩).1∧(valuesR ⟨op,a,b,t,q⟩).1≤1000000∧0≤(valuesR ⟨op,a,b,t,q⟩).2∧(valuesR ⟨op,a,b,t,q⟩).2≤2:=by
 have h1:=hv.1
 have h2:=hv.2
 unfold valuesR
 dsimp only
 by_cases e1:op=1∨op=2∨op=34
 ·rw[if_pos e1];decide
 rw[if_neg e1]
 by_cases e2:op=3∨op=4∨op=5∨op=6∨op=7∨op=8∨op=9∨op=10∨op=11∨op=23∨op=31
 ·rw[if_pos e2];decide
 rw[if_neg e2]
 by_cases e3:op=12∨op=13∨op=14∨op=15∨op=16∨op=35∨op=36∨op=37∨op=50
 ·rw[if_pos e3];decide
 rw[if_neg e3]
 by_cases e4:op=17∨op=33
 ·rw[if_pos e4];decide
 rw[if_neg e4]
 by_cases e5:op=18∨op=20∨op=21∨op=22∨op=30∨op=32
 ·rw[if_pos e5];decide
 rw[if_neg e5]
 by_cases e6:op=19∨op=24
 ·rw[if_pos e6];decide
 rw[if_neg e6]
 by_cases e7:op=25
 ·rw[if_pos e7];decide
 rw[if_neg e7]
 by_cases e8:op=26
 ·rw[if_pos e8]
  dsimp only
  have h4:=h2 e8
  clear h1 h2 e1 e2 e3 e4 e5 e6 e7 h38 h39 h40 h41 h42 h43 h44 h45 h51 h52 h53 hop
  omega
 rw[if_neg e8]
 by_cases e9:op=27∨op=29∨op=47
 ·rw[if_pos e9]
  have h3:=h1 (by rcases e9 with e|e|e<;>rw[e]<;>decide)
  exact⟨h3.1,by have:=h3.2;dsimp only;omega,by dsimp only;decide,by dsimp only;decide⟩
 rw[if_neg e9]
 by_cases e10:op=28
 ·rw[if_pos e10]
  have h3:=h1 (by rw[e10];decide)
  exact⟨by have:=h3.1;dsimp only;omega,by have:=h3.2;dsimp only;omega,by dsimp only;decide,by dsimp only;decide⟩
 rw[if_neg e10]
 by_cases e11:op=46
 ·rw[if_pos e11]
  have h3:=h1 (by rw[e11];decide)
  exact⟨by have:=h3.1;dsimp only;omega,by have:=h3.2;dsimp only;omega,by dsimp only;decide,by dsimp only;decide⟩
 rw[if_neg e11]
 by_cases e12:op=48
 ·rw[if_pos e12]
  have h3:=h1 (by rw[e12];decide)
  exact⟨by have:=h3.1;dsimp only;omega,by have:=h3.2;dsimp only;omega,by dsimp only;decide,by dsimp only;decide⟩
 rw[if_neg e12]
 by_cases e13:op=49
 ·rw[if_pos e13]
  have h3:=h1 (by rw[e13];decide)
  exact⟨h3.1,by have:=h3.2;dsimp only;omega,by dsimp only;decide,by dsimp only;decide⟩
 exfalso
 clear h1 h2 hv
 omega
theorem r13_does {op:Int} (h:SkAt lo w W sb F S) {k:Nat} {s:List UInt8} (hk:S[k]? =some s) (hS:S.length≤1000000) (hop:1≤op∧op≤53) (hv:VaOk op a b):
  Calls Tryz.prog 99 #[.pointer (some ⟨sb,0,none⟩),.agg #[.int .i64 op,.int .i64 a,.int .i64 b,.string t,.int .i64 q],.int .i64 k] W (DoesPost lo w W sb F S (doesR ⟨op,a,b,t,q⟩ s)):=by
 by_cases h38:op=38
 ·subst h38;exact does_38 h hk hS
 by_cases h39:op=39
 ·subst h39;exact does_39 h hk hS
 by_cases h40:op=40
 ·subst h40;exact does_40 h hk hS
 by_cases h41:op=41
 ·subst h41;exact does_41 h hk hS
 by_cases h42:op=42
 ·subst h42;exact does_42 h hk hS
 by_cases h43:op=43
 ·subst h43;exact does_43 h hk hS
 by_cases h44:op=44
 ·subst h44;exact does_44 h hk hS
 by_cases h45:op=45
 ·subst h45;exact does_45 h hk hS
 by_cases h51:op=51
 ·subst h51;exact does_51 h hk hS
 by_cases h52:op=52
 ·subst h52;exact does_52 h hk hS
 by_cases h53:op=53
 ·subst h53;exact does_53 h hk hS (hv.1 (by omega))
 have key:=values_bounds (t:=t) (q:=q) hop hv h38 h39 h40 h41 h42 h43 h44 h45 h51 h52 h53
 exact does_vals h hk hS hop hv key.1 key.2.1 key.2.2
end
end Go.Proofs.YtagnicbknbmccaaGreatDoor
