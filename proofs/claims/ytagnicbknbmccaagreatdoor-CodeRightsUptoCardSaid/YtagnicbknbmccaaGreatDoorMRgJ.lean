/- guiseref13.declared: may a declared function be called so? guiseref13.empty, pop: what they return. guiseref13's stacks: push. -/
import Derived.Test.YtagnicbknbmccaaGreatDoorMRfF
import Derived.Test.YtagnicbknbmccaaGreatDoorMRgF
import Derived.Test.YtagnicbknbmccaaGreatDoorMRfA
import Derived.Test.YtagnicbknbmccaaGreatDoorMRgI
import Derived.Test.YtagnicbknbmccaaGreatDoorRfH
import Derived.Test.YtagnicbknbmccaaGreatDoorMCwF
import Derived.Test.YtagnicbknbmccaaGreatDoorSqC
set_option maxRecDepth 100000
set_option maxHeartbeats 20000000
namespace Go.Proofs.YtagnicbknbmccaaGreatDoor
open Go.RowKit
theorem cut_hit:∀(k:Nat) (s:List UInt8),(∀x∈s.take k,x≠46)→s[k]? =some 46→cutAt 46 s=(s.take k,some (s.drop (k+1)))
 |k,[],_,h=>by simp at h
 |0,x::r,_,h=>by
  obtain rfl:x=46:=by simpa using h
  rw[cutAt,if_pos rfl]
  rfl
 |k+1,x::r,hn,h=>by
  have hx:x≠46:=hn x (by simp)
  rw[cutAt,if_neg hx,cut_hit k r (fun y hy=>hn y (by simp[hy])) (by simpa using h)]
  rfl
theorem cut_pre:∀(k:Nat) (s:List UInt8),(∀x∈s.take k,x≠46)→k≤s.length→k≤(cutAt 46 s).1.length
 |0,_,_,_=>Nat.zero_le _
 |k+1,[],_,h=>by simp at h
 |k+1,x::r,hn,h=>by
  have hx:x≠46:=hn x (by simp)
  rw[cutAt,if_neg hx]
  have:=cut_pre k r (fun y hy=>hn y (by simp[hy])) (by simpa using h)
  show k+1≤(x::(cutAt 46 r).1).length
  rw[List.length_cons]
  omega
theorem cut_none:∀s:List UInt8,(∀x∈s,x≠46)→(cutAt 46 s).2=none
 | [],_=>rfl
 |x::r,h=>by
  rw[cutAt,if_neg (h x (List.mem_cons_self ..))]
  exact cut_none r fun y hy=>h y (List.mem_cons_of_mem _ hy)
theorem declared_hit {s:List UInt8} {k:Nat} (h:∀x∈s.take k,x≠46) (hk:s[k]? =some 46) (h81:k≤81):declaredR s=(nameL (s.take k)&&nameL (s.drop (k+1))):=by
 unfold declaredR
 rw[cut_hit k s h hk]
 dsimp only
 rw[if_pos (by rw[List.length_take];omega)]
theorem declared_far {s:List UInt8} {k:Nat} (h:∀x∈s.take k,x≠46) (hk:81<k∧k≤s.length∨k=s.length):declaredR s=nameL s:=by
 unfold declaredR
 rcases hk with⟨h1,h2⟩|h1
 ·have:=cut_pre k s h h2
  split
  ·rename_i t m he
   rw[he] at this
   rw[if_neg (by simp only at this;omega)]
  ·rfl
 ·subst h1
  rw[List.take_length] at h
  have:=cut_none s h
  split
  ·rename_i t m he
   rw[he] at this
   cases this
  ·rfl
theorem r13_declared (s:List UInt8) (hs:s.length≤4000000000) (w:World):Calls Tryz.prog 93 #[.string ⟨⟨s⟩⟩] w fun e w'=>e= .returned (.bool (declaredR s))∧Below w.heap.size w w':=by
 have HNA:Hid (∀(t:List UInt8) (W:World),t.length≤s.length→Calls Tryz.prog 47 #[.string ⟨⟨t⟩⟩] W fun e w'=>e= .returned (.bool (nameL t))∧Below W.heap.size W w'):=Lib.hid fun t W ht=>r1_Name ⟨⟨t⟩⟩ W (by show t.length≤_;omega)
 obtain⟨T,hT⟩:∃T:ByteArray,(⟨⟨s⟩⟩:ByteArray)=T:=⟨_,rfl⟩
 have hTt:T.data.toList=s:=by rw[←hT]
 have HTS:=Lib.hid hT
 rw[hT]
 obtain⟨L,hL⟩:∃L,T.size=L:=⟨_,rfl⟩
 have hLt:s.length=L:=by rw[←hL,←hTt];simp
 rw[hLt] at hs
 have HT:=Lib.hid hTt
 have HLT:=Lib.hid hLt
 obtain⟨R,hR⟩:∃R,declaredR s=R:=⟨_,rfl⟩
 have HR:=Lib.hid hR
 rw[hR]
 clear hT hTt hLt hR
 go_enter Tryz.func93,Tryz.ntmps93
 go_wp2_with fail
 go_loopw [3] (fun i wr=>∃j:Nat,i= .int .i64 j∧j≤L∧j≤82∧wr=w∧Hid (∀x∈s.take j,x≠46)) (fun i _=>L-(intOf i).toNat)
 case atStart=>exact⟨0,rfl,Nat.zero_le _,by omega,rfl,Lib.hid fun x hx=>by simp at hx⟩
 case round=>
  obtain⟨j,rfl,hj,hj82,rfl,HI⟩:=hrel
  by_cases hlt:j<L∧j≤81
  ·obtain⟨h1,h2⟩:=hlt
   have b1:decide ((j:Int)<(L:Int))=true:=by simp;omega
   have b2:decide ((j:Int)≤81)=true:=by simp;omega
   obtain⟨d,hd,hix⟩:=getB T j (by omega)
   rw[HT.out] at hd
   have hdj:s[j]? =some d:=by have:=congrArg (·[0]?) hd;simpa using this
   clear hd
   by_cases h46:d=46
   ·subst h46
    have h3:∀h,(((T[j]'h).toNat:Int)==46)=true:=fun h=>by rw[hix];rfl
    have HR2:Hid ((nameL (s.take j)&&nameL (s.drop (j+1)))=R):=Lib.hid (by rw[←HR.out,declared_hit HI.out hdj h2])
    have hw1:IntKind.i64.wrap ((j:Int)+1)=(j:Int)+1:=by rw[IntKind.wrap_i64];omega
    obtain⟨P1,hP1⟩:∃P,s.take j=P:=⟨_,rfl⟩
    obtain⟨P2,hP2⟩:∃P,s.drop (j+1)=P:=⟨_,rfl⟩
    have he1:T.extract 0 j=⟨⟨P1⟩⟩:=by rw[ext_list,HT.out,←hP1];rfl
    have he2:T.extract (j+1) L=⟨⟨P2⟩⟩:=by rw[ext_list,HT.out,←hP2];congr 2;exact List.take_of_length_le (by rw[List.length_drop,HLT.out];exact Nat.le_refl _)
    have hN1:∀W,Calls Tryz.prog 47 #[.string ⟨⟨P1⟩⟩] W fun e w'=>e= .returned (.bool (nameL P1))∧Below W.heap.size W w':=fun W=>HNA.out P1 W (by rw[←hP1,List.length_take];omega)
    have hN2:∀W,Calls Tryz.prog 47 #[.string ⟨⟨P2⟩⟩] W fun e w'=>e= .returned (.bool (nameL P2))∧Below W.heap.size W w':=fun W=>HNA.out P2 W (by rw[←hP2,List.length_drop];omega)
    have HN1:=Lib.hid hN1
    have HN2:=Lib.hid hN2
    rw[hP1,hP2] at HR2
    clear hN1 hN2 hP1 hP2 hix hdj HI HR HNA HTS
    cases e1:nameL P1<;>rw[e1] at HR2 HN1<;>clear e1
    all_goals
     go_upto_region 6 with(go_at_call 47;refine(HN1.out _).mono ?_;rintro e w2 ⟨rfl,hb⟩;have HB2:=Lib.hid hb;clear hb)
     go_upto_region 7 with(go_at_call 47;refine(HN2.out _).mono ?_;rintro e w3 ⟨rfl,hb⟩;have HB3:=Lib.hid (HB2.out.trans (hb.mono HB2.out.size));clear hb)
     go_wp2_with fail
     go_ret
     exact⟨ret_bool (by rw[←HR2.out];rfl),HB3.out⟩
   ·have h3:∀h,(((T[j]'h).toNat:Int)==46)=false:=fun h=>by
     rw[hix]
     simp only[beq_eq_false_iff_ne,ne_eq]
     intro e
     exact h46 (UInt8.toNat_inj.1 (by show d.toNat=46;omega))
    have HI2:Hid (∀x∈s.take (j+1),x≠46):=Lib.hid fun x hx=>by
     rw[take_snocL hdj] at hx
     rcases List.mem_append.1 hx with hx|hx
     ·exact HI.out x hx
     ·rw[List.mem_singleton.1 hx];exact h46
    clear hix hdj h46 HI
    go_wp2_with fail
    go_roundw
    case rel=>exact⟨j+1,by simp,by omega,by omega,trivial,HI2⟩
    case measure=>simp[intOf];omega
  ·have HN0:Hid (∀W,Calls Tryz.prog 47 #[.string T] W fun e w'=>e= .returned (.bool R)∧Below W.heap.size W w'):=Lib.hid fun W=>by
    have:=HNA.out s W (Nat.le_refl _)
    rwa [HTS.out,←declared_far HI.out (by rw[HLT.out];omega),HR.out] at this
   have b3:(decide ((j:Int)<(L:Int))&&decide ((j:Int)≤81))=false:=by
    rw[Bool.and_eq_false_iff]
    simp only[decide_eq_false_iff_not]
    omega
   clear HI HR HNA HTS
   by_cases h5:j<L
   ·have b1:decide ((j:Int)<(L:Int))=true:=by simp;omega
    have b2:decide ((j:Int)≤81)=false:=by simp;omega
    clear b3 hlt
    go_wp2_with (go_at_call 47;refine(HN0.out _).mono ?_;rintro e w2 ⟨rfl,hb⟩;have HB2:=Lib.hid hb;clear hb)
    go_ret
    exact⟨rfl,HB2.out⟩
   ·have b1:decide ((j:Int)<(L:Int))=false:=by simp;omega
    clear b3 hlt
    go_wp2_with (go_at_call 47;refine(HN0.out _).mono ?_;rintro e w2 ⟨rfl,hb⟩;have HB2:=Lib.hid hb;clear hb)
    go_ret
    exact⟨rfl,HB2.out⟩
def SkAt (lo:Nat) (w W:World) (sb:Nat) (F:Nat→Prop) (S:List (List UInt8)):Prop:=∃g0 g1 g2 g3 c0 c1 c2 c3 tops bel hig abv,StR lo w W sb g0 g1 g2 g3 c0 c1 c2 c3 S.length S.length S.length S.length tops bel hig abv∧TbOk S tops bel hig abv∧(¬F sb∧¬F g0∧¬F g1∧¬F g2∧¬F g3)∧∀k,F k→k<W.heap.size
theorem row_own {W:World} {lo g:Nat} {e:TypeId} {s:Nat} {xs:List Value} (h:W.heap[g]? =some (.cells xs.toArray e (0,0))) (hlo:lo≤g) (hl:xs.length=s) (_hs:s≤10):W.ownsRow lo e s (.slice (some ⟨g,0,none⟩) 1 1) 1 xs:=by
 refine⟨by rw[hl,Nat.one_mul],.inr ⟨g,1,xs.toArray,rfl,hlo,h,Nat.le_refl _,by unfold maxLen;omega,by simp[hl], ?_⟩⟩
 rw[List.take_of_length_le]
 simp[hl]
theorem below5 (w:World) (a b c d e:Obj):(((((w.alloc a).alloc b).alloc c).alloc d).alloc e).heap[w.heap.size]? =some a∧(((((w.alloc a).alloc b).alloc c).alloc d).alloc e).heap[w.heap.size+1]? =some b∧(((((w.alloc a).alloc b).alloc c).alloc d).alloc e).heap[w.heap.size+1+1]? =some c∧(((((w.alloc a).alloc b).alloc c).alloc d).alloc e).heap[w.heap.size+1+1+1]? =some d∧
  (((((w.alloc a).alloc b).alloc c).alloc d).alloc e).heap[w.heap.size+1+1+1+1]? =some e∧Below w.heap.size w (((((w.alloc a).alloc b).alloc c).alloc d).alloc e):=by
 have h:(((((w.alloc a).alloc b).alloc c).alloc d).alloc e).heap=((((w.heap.push a).push b).push c).push d).push e:=rfl
 refine⟨?_, ?_, ?_, ?_, ?_, ?_⟩
 ·rw[h];simp[Array.getElem_push,Nat.add_assoc]
 ·rw[h];simp[Array.getElem_push,Nat.add_assoc]
 ·rw[h];simp[Array.getElem_push,Nat.add_assoc]
 ·rw[h];simp[Array.getElem_push,Nat.add_assoc]
 ·rw[h];simp[Array.getElem_push,Nat.add_assoc]
 ·exact(((((Below.refl _ _).alloc (Nat.le_refl _) _).alloc (by simp) _).alloc (by simp;omega) _).alloc (by simp;omega) _).alloc (by simp;omega) _
theorem r13_empty (w:World):Calls Tryz.prog 98 #[] w fun e W=>∃sb,e= .returned (.pointer (some ⟨sb,0,none⟩))∧w.heap.size≤sb∧SkAt w.heap.size w W sb (fun _=>False) [[]]:=by
 go_enter Tryz.func98,Tryz.ntmps98
 go_wp2_with fail
 go_ret
 obtain⟨h0,h1,h2,h3,h4,hb⟩:=below5 w (.cells #[.int .i64 (-1)] 3 (0,0)) (.cells #[.int .i64 0] 3 (0,0)) (.cells #[.int .i64 0] 3 (0,0)) (.cells #[.int .i64 0,.int .i64 0,.int .i64 0] 181 (0,0)) (.cells #[.slice (some ⟨w.heap.size,0,none⟩) 1 1,.slice (some ⟨w.heap.size+1,0,none⟩) 1 1,.slice (some ⟨w.heap.size+1+1,0,none⟩) 1 1,.slice (some ⟨w.heap.size+1+1+1,0,none⟩) 1 1] 144 (0,0))
 refine⟨_,rfl,by omega,w.heap.size,w.heap.size+1,w.heap.size+1+1,w.heap.size+1+1+1,1,1,1,1,[-1],[0],[0],[0,0,0],⟨hb,by omega,h4,row_own (s:=1) h0 (by omega) rfl (by omega),row_own (s:=1) h1 (by omega) rfl (by omega),row_own (s:=1) h2 (by omega) rfl (by omega),row_own (s:=3) h3 (by omega) rfl (by omega),⟨by omega,by omega,by omega,by omega⟩,⟨by omega,by omega,by omega,by omega,by omega,by omega⟩⟩,TbOk.begin,⟨id,id,id,id,id⟩,fun k h=>h.elim⟩
def PopPost (S:List (List UInt8)) (s:List UInt8) (c n:Nat) (W:World) (e:Ending) (W':World):Prop:=W'=W∧match lessP s (sgn3 c) n with
 |some t=>∃j,S[j]? =some t∧e= .returned (.tuple #[.int .i64 (j:Nat),.bool true])
 |none=>e= .returned (.tuple #[.int .i64 0,.bool false])
theorem less_nil (c:UInt8) (n:Nat):lessP [] c (n+1)=none:=rfl
theorem less_eq {d c n:Nat} (hd:d<3) (hc:c<3) (s:List UInt8):lessP (sgn3 d::s) (sgn3 c) (n+1)=if d=c then lessP s (sgn3 c) n else none:=by
 rw[lessP]
 by_cases h:d=c
 ·subst h
  rw[if_pos (.inl rfl),if_pos rfl]
 ·rw[if_neg h,if_neg]
  rintro(h1|⟨h1,_⟩)
  ·exact h (sgn_inj hd hc h1)
  ·have:c=0∨c=1∨c=2:=by omega
   rcases this with rfl|rfl|rfl<;>exact absurd h1 (by decide)
theorem r13_pop {lo:Nat} {w W:World} {sb:Nat} {F:Nat→Prop} {S:List (List UInt8)} (h:SkAt lo w W sb F S) {k:Nat} {s:List UInt8} (hk:S[k]? =some s) {c:Nat} (hc:c<3) {n:Nat} (hn:n≤1000000):
  Calls Tryz.prog 141 #[.pointer (some ⟨sb,0,none⟩),.int .i64 k,.int .i64 c,.int .i64 n] W (PopPost S s c n W):=by
 obtain⟨g0,g1,g2,g3,c0,c1,c2,c3,tops,bel,hig,abv,hR,hT,_,_⟩:=h
 obtain⟨b0,b1,_,_,_⟩:=hR.bx
 have HA0:Hid (∀(j:Nat) (x:Int),tops[j]? =some x→W.cell? ⟨g0,j,none⟩=some (.int .i64 x)):=Lib.hid fun j x hj=>(own_at hR.o0 hj).1
 have HA1:Hid (∀(j:Nat) (x:Int),bel[j]? =some x→W.cell? ⟨g1,j,none⟩=some (.int .i64 x)):=Lib.hid fun j x hj=>(own_at hR.o1 hj).1
 have HT:=Lib.hid hT
 have HK:=Lib.hid hk
 obtain⟨N,hN⟩:∃N,S.length=N:=⟨_,rfl⟩
 rw[hN] at b0 b1
 have HN:=Lib.hid hN
 obtain⟨R,hRR⟩:∃R,lessP s (sgn3 c) n=R:=⟨_,rfl⟩
 have HRR:=Lib.hid hRR
 unfold PopPost
 rw[hRR]
 clear hT hR hk hN hRR
 go_enter Tryz.func141,Tryz.ntmps141
 go_wp2_with fail
 go_loopw [1,3] (fun a m wr=>∃(k' n':Nat) (s':List UInt8),a= .int .i64 k'∧m= .int .i64 n'∧wr=W∧n'≤n∧Hid (S[k']? =some s')∧Hid (lessP s' (sgn3 c) n'=R)) (fun _ m _=>(intOf m).toNat)
 case atStart=>exact⟨k,n,s,rfl,rfl,rfl,Nat.le_refl _,HK,HRR⟩
 case round=>
  clear HK HRR
  obtain⟨k',n',s',rfl,rfl,rfl,hn',HK,HRR⟩:=hrel
  cases n' with
  |zero=>
   have hr:=HRR.out
   rw[lessP] at hr
   subst hr
   go_wp2_with fail
   go_ret2
   exact⟨rfl,k',HK.out,rfl⟩
  |succ m=>
   have bm:decide ((0:Int)<((m+1:Nat):Int))=true:=decide_eq_true (by omega)
   have hm1:IntKind.i64.wrap (((m+1:Nat):Int)-1)=(m:Int):=by rw[IntKind.wrap_i64];omega
   obtain⟨M,hM⟩:∃M:Int,((m+1:Nat):Int)=M:=⟨_,rfl⟩
   rw[hM] at bm hm1⊢
   by_cases hk0:k'=0
   ·subst hk0
    have hs:s'=[]:=(Option.some.inj (HT.out.zero.symm.trans HK.out)).symm
    have hr:=HRR.out
    rw[hs,less_nil] at hr
    subst hr
    clear hM
    go_wp2_with fail
    go_ret2
    exact⟨rfl,rfl⟩
   ·obtain⟨d,b,t,hd,hbk,hbt,hst,ht0,ht1⟩:=HT.out.link k' s' (by omega) HK.out
    have a0:=HA0.out k' _ ht0
    have a1:=HA1.out k' _ ht1
    have hkN:k'<N:=by rw[←HN.out];exact(List.getElem?_eq_some_iff.1 HK.out).1
    have hr:=HRR.out
    rw[hst,less_eq hd hc] at hr
    have z0:((k':Int)==0)=false:=by simp;omega
    have HBT:=Lib.hid hbt
    clear hst ht0 ht1 hk0 HRR hbt
    by_cases hdc:d=c
    ·rw[if_pos hdc] at hr
     have HRR:=Lib.hid hr
     have z1:((d:Int) !=(c:Int))=false:=by simp[hdc]
     have HM:=Lib.hid hM
     clear hr hdc hM
     go_wp2_with fail
     go_roundw
     case rel=>exact⟨b,m,t,rfl,rfl,trivial,by omega,HBT,HRR⟩
     case measure=>
      show(intOf (.int .i64 (m:Int))).toNat<(intOf (.int .i64 M)).toNat
      simp only[intOf]
      rw[←HM.out]
      omega
    ·rw[if_neg hdc] at hr
     subst hr
     have z1:((d:Int) !=(c:Int))=true:=by simp;omega
     clear hdc hM
     go_wp2_with fail
     go_ret2
     exact⟨rfl,rfl⟩
theorem SkAt.keepF {lo:Nat} {w W W':World} {sb:Nat} {F G:Nat→Prop} {S:List (List UInt8)} (h:SkAt lo w W sb F S) (hb:Below W.heap.size W W') (hG:∀k,G k→F k∨W.heap.size≤k) (hl:∀k,G k→k<W'.heap.size):SkAt lo w W' sb G S:=by
 obtain⟨g0,g1,g2,g3,c0,c1,c2,c3,tops,bel,hig,abv,hR,hT,⟨f,f0,f1,f2,f3⟩,hF⟩:=h
 obtain⟨l,l0,l1,l2,l3⟩:=hR.lts
 have key:∀k,¬F k→k<W.heap.size→¬G k:=fun k h1 h2 h3=>by
  rcases hG k h3 with e|e
  ·exact h1 e
  ·omega
 exact⟨g0,g1,g2,g3,c0,c1,c2,c3,tops,bel,hig,abv,hR.under hb,hT,⟨key _ f l,key _ f0 l0.2,key _ f1 l1.2,key _ f2 l2.2,key _ f3 l3.2⟩,hl⟩
theorem SkAt.under {lo:Nat} {w W W':World} {sb:Nat} {F:Nat→Prop} {S:List (List UInt8)} (h:SkAt lo w W sb F S) (hb:Below W.heap.size W W'):SkAt lo w W' sb F S:=by
 have h2:=h
 obtain⟨_,_,_,_,_,_,_,_,_,_,_,_,_,_,_,hF⟩:=h2
 exact h.keepF hb (fun k hk=> .inl hk) fun k hk=>Nat.lt_of_lt_of_le (hF k hk) hb.size
def PushPost (lo:Nat) (w W:World) (sb:Nat) (F:Nat→Prop) (S:List (List UInt8)) (s:List UInt8) (c n:Nat) (e:Ending) (W':World):Prop:=∃(j:Nat) (S':List (List UInt8)),e= .returned (.int .i64 j)∧SkAt lo w W' sb F S'∧S<+:S'∧S'.length≤S.length+n∧S'[j]? =some (List.replicate n (sgn3 c)++s)∧(∀k,F k→W'.heap[k]? =W.heap[k]?)∧W.heap.size≤W'.heap.size
theorem r13_push {lo:Nat} {w W:World} {sb:Nat} {F:Nat→Prop} {S:List (List UInt8)} (h:SkAt lo w W sb F S) {k:Nat} {s:List UInt8} (hk:S[k]? =some s) {c:Nat} (hc:c<3) {n:Nat} (hn:n≤1000) (hS:S.length≤10000000):
  Calls Tryz.prog 142 #[.pointer (some ⟨sb,0,none⟩),.int .i64 k,.int .i64 c,.int .i64 n] W (PushPost lo w W sb F S s c n):=by
 have HSK:=Lib.hid h
 have HK:=Lib.hid hk
 obtain⟨i0,hi,hz0,hz1,hz2⟩:=info_parts intInfoR
 obtain⟨j0,hj,hy0,hy1,hy2⟩:=info_parts in3Info
 clear h hk
 unfold PushPost
 go_enter Tryz.func142,Tryz.ntmps142
 go_wp2_with fail
 go_loopw [1,3] (fun a m wr=>∃(k' n':Nat) (s':List UInt8) (S1:List (List UInt8)),a= .int .i64 k'∧m= .int .i64 n'∧n'≤n∧Hid (SkAt lo w wr sb F S1)∧Hid (S<+:S1)∧S1.length≤S.length+(n-n')∧Hid (S1[k']? =some s')∧Hid (List.replicate n' (sgn3 c)++s'=List.replicate n (sgn3 c)++s)∧Hid (∀k,F k→wr.heap[k]? =W.heap[k]?)∧W.heap.size≤wr.heap.size) (fun _ m _=>(intOf m).toNat)
 case atStart=>exact⟨k,n,s,S,rfl,rfl,Nat.le_refl _,HSK,Lib.hid (List.prefix_refl S),by omega,HK,rfl,Lib.hid fun _ _=>rfl,Nat.le_refl _⟩
 case round=>
  clear HSK HK
  obtain⟨k',n',s',S1,rfl,rfl,hn',HSK,HPX,hlen,HK,HRP,HFK,hsz⟩:=hrel
  cases n' with
  |zero=>
   have hs:S1[k']? =some (List.replicate n (sgn3 c)++s):=by rw[HK.out,←HRP.out];rfl
   go_wp2_with fail
   go_ret
   exact⟨k',S1,rfl,HSK.out,HPX.out,by omega,hs,HFK.out,hsz⟩
  |succ m=>
   have bm:decide ((0:Int)<((m+1:Nat):Int))=true:=decide_eq_true (by omega)
   have hm1:IntKind.i64.wrap (((m+1:Nat):Int)-1)=(m:Int):=by rw[IntKind.wrap_i64];omega
   obtain⟨M,hM⟩:∃M:Int,((m+1:Nat):Int)=M:=⟨_,rfl⟩
   rw[hM] at bm hm1⊢
   have HM:=Lib.hid hM
   have HRP2:Hid (List.replicate m (sgn3 c)++(sgn3 c::s')=List.replicate n (sgn3 c)++s):=Lib.hid (by rw[←HRP.out,List.replicate_succ',List.append_assoc];rfl)
   clear hM HRP
   obtain⟨g0,g1,g2,g3,c0,c1,c2,c3,tops,bel,hig,abv,hR,hT,⟨fs,f0,f1,f2,f3⟩,hFl⟩:=HSK.out
   obtain⟨N,hN⟩:∃N,S1.length=N:=⟨_,rfl⟩
   rw[hN] at hR hlen
   have HN:=Lib.hid hN
   have hkN:k'<N:=by rw[←HN.out];exact(List.getElem?_eq_some_iff.1 HK.out).1
   obtain⟨v,hv,hvs⟩:=hT.yes k' c s' HK.out hc
   have a3:=(own_at hR.o3 hv).1
   obtain⟨b0,b1,b2,b3,z0,z1,z2,z3⟩:=hR.bx
   have HR:=Lib.hid hR
   have HT:=Lib.hid hT
   have HFL:=Lib.hid hFl
   have HFN:Hid (¬F sb∧¬F g0∧¬F g1∧¬F g2∧¬F g3):=Lib.hid ⟨fs,f0,f1,f2,f3⟩
   have HV:=Lib.hid hv
   clear hR hT hFl hN hv fs f0 f1 f2 f3
   by_cases hv0:v=0
   ·subst hv0
    have hv0:=HV.out
    have HT2:=Lib.hid (HT.out.push HK.out hc hv0)
    have hhi:=HT.out.high k' s' HK.out
    obtain⟨H,hH⟩:∃H,s'.length=H:=⟨_,rfl⟩
    rw[hH] at hhi
    have HHI:=Lib.hid hhi
    have hHN:H≤N:=by
     have hkk:∀(k:Nat) (t:List UInt8),S1[k]? =some t→t.length≤k:=fun k=>by
      induction k using Nat.strongRecOn with
      |_ k ih=>
       intro t ht
       by_cases hk0:k=0
       ·subst hk0
        rw[HT.out.zero] at ht
        rw[←Option.some.inj ht]
        exact Nat.le_refl _
       ·obtain⟨c',b,u,_,hb,hu,he,_⟩:=HT.out.link k t (by omega) ht
        have:=ih b hb u hu
        rw[he,List.length_cons]
        omega
     have:=hkk k' s' HK.out
     omega
    have HHH:=Lib.hid hH
    have HV00:=Lib.hid hv0
    clear hv0 hhi hvs HV hH
    have w1:IntKind.i64.wrap ((H:Int)+1)=(H:Int)+1:=by rw[IntKind.wrap_i64];omega
    go_upto_region 6 with fail
    go_upto_region 7 with(at_builtin;refine wpList_append_lies _ rfl _ _ 22 rfl lo 3 i0 _ 1 8 Tryz.underlying22 hi hz0 hz1 hz2 rfl (by decide) _ _ _ rfl (HR.out.o0.alloc _) ⟨wr.heap.size,0,none⟩ 1 1 (intsV [(c:Int)]) rfl rfl (fun k u hu=>news_at wr _ _ _ k u hu) (by intro u hu;simp[intsV] at hu;subst hu;rfl) (by decide) (by unfold maxLen;omega) (by omega) (by rw[World.size_alloc];have:=HR.out.lts.1;have:=HR.out.los;omega) _ rfl ?_;intro e0 d0 w3 ho hg hb hl;obtain⟨hk3,hr3,hf3,hs3⟩:=HR.out.app0 ho hg hb;have q0:=(World.cell?_of_block (a:=⟨sb,0,none⟩) hk3).trans b0;have y0:=(frozen_keep hk3 0).trans z0;have HR1:=Lib.hid hr3;have HF1:=Lib.hid hf3;have HQ1:=Lib.hid hb;have HZ1:=Lib.hid hs3;clear ho hg hb hl hk3 hr3 hf3 hs3)
    obtain⟨W1,hW1⟩:∃W1,w3.setCell ⟨sb,0,none⟩ (.slice (some ⟨e0,0,none⟩) (N+1) d0)=W1:=⟨_,rfl⟩
    simp only[hW1] at HR1 HF1 HZ1⊢
    have HFN1:Hid (¬F e0):=Lib.hid (fun e=>(HQ1.out.elim (fun h=>by injection h with h;subst h;exact HFN.out.2.1 e) (fun h=>by have h1:=HFL.out _ e;rw[World.size_alloc] at h;omega)))
    have HFK1:Hid (∀k,F k→W1.heap[k]? =W.heap[k]?):=Lib.hid fun k hk=>(HF1.out k (HFL.out k hk) (fun e=>HFN.out.1 (by rw[←e];exact hk)) (fun e=>HFN.out.2.1 (by rw[←e];exact hk))).trans (HFK.out k hk)
    have HFL1:Hid (∀k,F k→k<W1.heap.size):=Lib.hid fun k hk=>Nat.lt_of_lt_of_le (HFL.out k hk) HZ1.out
    have hsz1:=Nat.le_trans hsz HZ1.out
    clear hW1 HF1 HQ1 HZ1 b0 b1 b2 b3 z0 z1 z2 z3 q0 y0
    obtain⟨b0,b1,b2,b3,z0,z1,z2,z3⟩:=HR1.out.bx
    go_upto_region 8 with(at_builtin;refine wpList_append_lies _ rfl _ _ 22 rfl lo 3 i0 _ 1 8 Tryz.underlying22 hi hz0 hz1 hz2 rfl (by decide) _ _ _ rfl (HR1.out.o1.alloc _) ⟨W1.heap.size,0,none⟩ 1 1 (intsV [(k':Int)]) rfl rfl (fun k u hu=>news_at W1 _ _ _ k u hu) (by intro u hu;simp[intsV] at hu;subst hu;rfl) (by decide) (by unfold maxLen;omega) (by omega) (by rw[World.size_alloc];have:=HR1.out.lts.1;have:=HR1.out.los;omega) _ rfl ?_;intro e1 d1 w3 ho hg hb hl;obtain⟨hk3,hr3,hf3,hs3⟩:=HR1.out.app1 ho hg hb;have q1:=(World.cell?_of_block (a:=⟨sb,1,none⟩) hk3).trans b1;have y1:=(frozen_keep hk3 1).trans z1;have HR2:=Lib.hid hr3;have HF2:=Lib.hid hf3;have HQ2:=Lib.hid hb;have HZ2:=Lib.hid hs3;clear ho hg hb hl hk3 hr3 hf3 hs3)
    obtain⟨W2,hW2⟩:∃W2,w3.setCell ⟨sb,1,none⟩ (.slice (some ⟨e1,0,none⟩) (N+1) d1)=W2:=⟨_,rfl⟩
    simp only[hW2] at HR2 HF2 HZ2⊢
    have HFN2:Hid (¬F e1):=Lib.hid (fun e=>(HQ2.out.elim (fun h=>by injection h with h;subst h;exact HFN.out.2.2.1 e) (fun h=>by have h1:=HFL1.out _ e;rw[World.size_alloc] at h;omega)))
    have HFK2:Hid (∀k,F k→W2.heap[k]? =W.heap[k]?):=Lib.hid fun k hk=>(HF2.out k (HFL1.out k hk) (fun e=>HFN.out.1 (by rw[←e];exact hk)) (fun e=>HFN.out.2.2.1 (by rw[←e];exact hk))).trans (HFK1.out k hk)
    have HFL2:Hid (∀k,F k→k<W2.heap.size):=Lib.hid fun k hk=>Nat.lt_of_lt_of_le (HFL1.out k hk) HZ2.out
    have hsz2:=Nat.le_trans hsz1 HZ2.out
    clear hW2 HF2 HQ2 HZ2 b0 b1 b2 b3 z0 z1 z2 z3 q1 y1
    obtain⟨b0,b1,b2,b3,z0,z1,z2,z3⟩:=HR2.out.bx
    have HV0:=Lib.hid (show abv[k'*3+c]? =some 0 from HV00.out)
    have HRD:Hid (StR lo w W2.drew sb e0 e1 g2 g3 d0 d1 c2 c3 (N+1) (N+1) N N (tops++ [(c:Int)]) (bel++ [(k':Int)]) hig abv):=Lib.hid (HR2.out.under ⟨rfl,rfl,rfl,Nat.le_refl _,fun _ _=>rfl⟩)
    have HFKD:Hid (∀k,F k→W2.drew.heap[k]? =W.heap[k]?):=HFK2
    have HFLD:Hid (∀k,F k→k<W2.drew.heap.size):=HFL2
    have hszD:W.heap.size≤W2.drew.heap.size:=hsz2
    have b2:W2.drew.cell? ⟨sb,2,none⟩=some (.slice (some ⟨g2,0,none⟩) N c2):=b2
    have z2:W2.drew.frozen? ⟨sb,2,none⟩=false:=z2
    have a2:=(own_at HRD.out.o2 HHI.out).1
    have hsl:=HRD.out.lts.1
    refine wp_region_G [17] (fun u=>u.cell? ⟨sb,2,none⟩=some (.slice (some ⟨g2,0,none⟩) N c2)∧u.frozen? ⟨sb,2,none⟩=false) (by rfl) ?_ (fun hHeld=> ?_)
    ·exact⟨b2,z2⟩
    generalize hwd:World.drew W2=wd at HRD HFKD HFLD hszD b2 z2 a2 hsl hHeld⊢
    refine tk 0 (h:=tk 1 (h:=tk 2 (h:=tk 3 (h:=tk 4 (h:=tk 5 (h:= ?_))))))
    try simp only[nmC]
    refine tk 6 (h:=tk 7 (h:=tk 8 (h:=tk 9 (h:=tk 10 (h:= ?_)))))
    try simp only[nmC]
    refine rd1 11 fun KK hKK=> ?_
    go_simp
    refine hKK.out _ _ (⟨b2,z2⟩) (fun hHeld=> ?_)
    clear hKK KK
    try simp only[nmC]
    refine tk 12 (h:= ?_)
    try simp only[nmC]
    refine rd1 13 fun KK hKK=> ?_
    go_simp
    refine hKK.out _ _ (⟨(World.cell?_of_block (a:=⟨sb,2,none⟩) (heap_alloc_old _ _ hsl)).trans b2,(frozen_keep (heap_alloc_old _ _ hsl) 2).trans z2⟩) (fun hHeld=> ?_)
    clear hKK KK
    try simp only[nmC]
    refine rd1 14 fun KK hKK=> ?_
    refine step_append_lies _ rfl (.tmp 54) (.tmp 63) 22 rfl lo 3 i0 _ 1 8 Tryz.underlying22 hi hz0 hz1 hz2 rfl (by decide) (.slice (some ⟨g2,0,none⟩) N c2) N _ rfl (HRD.out.o2.alloc _) ⟨wd.heap.size,0,none⟩ 1 1 (intsV [(H:Int)+1]) rfl rfl (fun k u hu=>news_at wd _ _ _ k u hu) (by intro u hu;simp[intsV] at hu;subst hu;rfl) (by decide) (by unfold maxLen;omega) (by omega) (by rw[World.size_alloc];have:=HRD.out.lts.1;have:=HRD.out.los;omega) _ rfl ?_
    intro e2 d2 w3 ho hg hb hl
    obtain⟨hk3,hr3,hf3,hs3⟩:=HRD.out.app2 ho hg hb
    have q2:=(World.cell?_of_block (a:=⟨sb,2,none⟩) hk3).trans b2
    have y2:=(frozen_keep hk3 2).trans z2
    have HR3:=Lib.hid hr3
    have HF3:=Lib.hid hf3
    have HQ3:=Lib.hid hb
    have HZ3:=Lib.hid hs3
    clear ho hg hb hl hk3 hr3 hf3 hs3
    refine hKK.out _ _ (⟨q2,y2⟩) (fun hHeld=> ?_)
    clear hKK KK
    try simp only[nmC]
    refine rd1 15 fun KK hKK=> ?_
    go_simp
    refine hKK.out _ _ (⟨q2,y2⟩) (fun hHeld=> ?_)
    clear hKK KK
    try simp only[nmC]
    refine rd1 16 fun KK hKK=> ?_
    go_simp
    refine hKK.out _ _ (⟨q2,y2⟩) (fun hHeld=> ?_)
    clear hKK KK
    try simp only[nmC]
    refine rl1 17 fun KK hKK=> ?_
    go_simp
    refine hKK.out _ _ ?_
    clear hKK KK
    try simp only[nmC]
    refine wpAny_done (by kernel_rfl) ?_ _
    obtain⟨W3,hW3⟩:∃W3,w3.setCell ⟨sb,2,none⟩ (.slice (some ⟨e2,0,none⟩) (N+1) d2)=W3:=⟨_,rfl⟩
    simp only[hW3] at HR3 HF3 HZ3⊢
    have HFN3:Hid (¬F e2):=Lib.hid (fun e=>(HQ3.out.elim (fun h=>by injection h with h;subst h;exact HFN.out.2.2.2.1 e) (fun h=>by have h1:=HFLD.out _ e;rw[World.size_alloc] at h;omega)))
    have HFK3:Hid (∀k,F k→W3.heap[k]? =W.heap[k]?):=Lib.hid fun k hk=>(HF3.out k (HFLD.out k hk) (fun e=>HFN.out.1 (by rw[←e];exact hk)) (fun e=>HFN.out.2.2.2.1 (by rw[←e];exact hk))).trans (HFKD.out k hk)
    have HFL3:Hid (∀k,F k→k<W3.heap.size):=Lib.hid fun k hk=>Nat.lt_of_lt_of_le (HFLD.out k hk) HZ3.out
    have hsz3:=Nat.le_trans hszD HZ3.out
    clear hW3 HF3 HQ3 HZ3 b0 b1 b2 b3 z0 z1 z2 z3 q2 y2
    obtain⟨b0,b1,b2,b3,z0,z1,z2,z3⟩:=HR3.out.bx
    go_upto_region 10 with(at_builtin;refine wpList_append_lies _ rfl _ _ 142 rfl lo 181 j0 _ 3 24 Tryz.underlying142 hj hy0 hy1 hy2 rfl (by decide) _ _ _ rfl (HR3.out.o3.alloc _) ⟨W3.heap.size,0,none⟩ 1 1 (intsV [0,0,0]) rfl rfl (fun k u hu=>news_at W3 _ _ _ k u hu) (by intro u hu;simp[intsV] at hu;rcases hu with rfl|rfl|rfl<;>rfl) (by decide) (by unfold maxLen;omega) (by omega) (by rw[World.size_alloc];have:=HR3.out.lts.1;have:=HR3.out.los;omega) _ rfl ?_;intro e3 d3 w3 ho hg hb hl;obtain⟨hk3,hr3,hf3,hs3⟩:=HR3.out.app3 ho hg hb;have q3:=(World.cell?_of_block (a:=⟨sb,3,none⟩) hk3).trans b3;have y3:=(frozen_keep hk3 3).trans z3;have HR4:=Lib.hid hr3;have HF4:=Lib.hid hf3;have HQ4:=Lib.hid hb;have HZ4:=Lib.hid hs3;clear ho hg hb hl hk3 hr3 hf3 hs3)
    obtain⟨W4,hW4⟩:∃W4,w3.setCell ⟨sb,3,none⟩ (.slice (some ⟨e3,0,none⟩) (N+1) d3)=W4:=⟨_,rfl⟩
    simp only[hW4] at HR4 HF4 HZ4⊢
    have HFN4:Hid (¬F e3):=Lib.hid (fun e=>(HQ4.out.elim (fun h=>by injection h with h;subst h;exact HFN.out.2.2.2.2 e) (fun h=>by have h1:=HFL3.out _ e;rw[World.size_alloc] at h;omega)))
    have HFK4:Hid (∀k,F k→W4.heap[k]? =W.heap[k]?):=Lib.hid fun k hk=>(HF4.out k (HFL3.out k hk) (fun e=>HFN.out.1 (by rw[←e];exact hk)) (fun e=>HFN.out.2.2.2.2 (by rw[←e];exact hk))).trans (HFK3.out k hk)
    have HFL4:Hid (∀k,F k→k<W4.heap.size):=Lib.hid fun k hk=>Nat.lt_of_lt_of_le (HFL3.out k hk) HZ4.out
    have hsz4:=Nat.le_trans hsz3 HZ4.out
    clear hW4 HF4 HQ4 HZ4 b0 b1 b2 b3 z0 z1 z2 z3 q3 y3
    obtain⟨b0,b1,b2,b3,z0,z1,z2,z3⟩:=HR4.out.bx
    have hst:=HR4.out.set (k'*3+c) (N:Int)
    obtain⟨hc4,hz4⟩:=own_at HR4.out.o3 (j:=k'*3+c) (x:=0) (by rw[List.getElem?_append_left (by rw[HT.out.l3,HN.out];omega)];exact HV0.out)
    have HST:=Lib.hid hst
    clear hst
    go_wp2_with fail
    go_roundw
    case rel=>
     refine⟨N,m,sgn3 c::s',S1++ [sgn3 c::s'],rfl,rfl,by omega,Lib.hid ?_,Lib.hid (HPX.out.trans (List.prefix_append _ _)),by rw[List.length_append,HN.out];simp;omega,Lib.hid (getA.2 (.inr ⟨HN.out.symm,rfl⟩)),HRP2,Lib.hid fun k hk=> ?_,by rw[World.size_setCell];exact hsz4⟩
     ·have hT2:=HT2.out
      rw[HN.out,HHH.out] at hT2
      refine⟨e0,e1,e2,e3,d0,d1,d2,d3,_,_,_,_, ?_,hT2,⟨HFN.out.1,HFN1.out,HFN2.out,HFN3.out,HFN4.out⟩,fun k hk=>by rw[World.size_setCell];exact HFL4.out k hk⟩
      rw[List.length_append,HN.out]
      exact HST.out
     ·exact(Below.heap_setCell _ _ _ _ (by show k≠e3;intro e;exact HFN4.out (by rw[←e];exact hk))).trans (HFK4.out k hk)
    case measure=>
     show(intOf (.int .i64 (m:Int))).toNat<(intOf (.int .i64 M)).toNat
     simp only[intOf]
     rw[←HM.out]
     omega
   ·have hS1v:=hvs hv0
    have HSV:=Lib.hid hS1v
    have zv:((v:Int)==0)=false:=by simp;omega
    have hvN:v<N:=by rw[←HN.out];exact(List.getElem?_eq_some_iff.1 hS1v).1
    clear hvs hS1v hv0
    go_wp2_with fail
    go_roundw
    case rel=>exact⟨v,m,sgn3 c::s',S1,rfl,rfl,by omega,HSK,HPX,by rw[HN.out];omega,HSV,HRP2,HFK,hsz⟩
    case measure=>
     show(intOf (.int .i64 (m:Int))).toNat<(intOf (.int .i64 M)).toNat
     simp only[intOf]
     rw[←HM.out]
     omega
end Go.Proofs.YtagnicbknbmccaaGreatDoor
