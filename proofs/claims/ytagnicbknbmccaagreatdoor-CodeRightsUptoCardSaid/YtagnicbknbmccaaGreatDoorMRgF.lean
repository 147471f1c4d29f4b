/- guiseref6.Digits: an int's digits. guiseref6.Digits writes an int's digits. guiseref13.split: a text's parts between blanks. -/
import Derived.Laws.IdiomStrings
import Derived.Deep.DeepCutAuto
import Derived.Test.YtagnicbknbmccaaGreatDoorMRfF
import Derived.Test.YtagnicbknbmccaaGreatDoorMScanA
import Derived.Test.YtagnicbknbmccaaGreatDoorCxI
set_option maxRecDepth 100000
set_option maxHeartbeats 8000000
namespace Go.Proofs.YtagnicbknbmccaaGreatDoor
open Go.RowKit
def u8s (l:List UInt8):List Value:=l.map fun c=> .int .u8 (c.toNat:Int)
theorem u8Info:(Tryz.prog.info? 5).map (fun i=>(i.zero,i.size,i.bytes))=some (some (.int .u8 0),1,1):=by kernel_rfl
theorem u8s_app (a b:List UInt8):u8s (a++b)=u8s a++u8s b:=List.map_append
theorem u8s_len (l:List UInt8):(u8s l).length=l.length:=List.length_map _
section
variable {w W:World} {lo g cap n:Nat} {l:List UInt8}
theorem br_form {v:Value} (h:W.ownsRow lo 5 1 v n (u8s l)) (h0:0<n):∃g cap,v= .slice (some ⟨g,0,none⟩) n cap:=by
 rcases h.2 with⟨e,e2⟩|⟨g,cap,cur,e,_⟩
 ·have:=h.1
  rw[e2] at this
  simp at this
  omega
 ·exact⟨g,cap,e⟩
theorem br_cell (h:W.ownsRow lo 5 1 (.slice (some ⟨g,0,none⟩) n cap) n (u8s l)) (hl:l.length=n) {j:Nat} (hj:j<n):W.cell? ⟨g,j,none⟩=some (.int .u8 ((l.getD j 0).toNat:Int))∧W.frozen? ⟨g,j,none⟩=false:=by
 refine⟨?_, ?_⟩
 ·have:=h.cells (g:=g) rfl j (.int .u8 ((l.getD j 0).toNat:Int)) (by unfold u8s;rw[List.getElem?_map,List.getD_eq_getElem?_getD,List.getElem?_eq_getElem (by omega)];rfl)
  rwa [Addr.add_lit,Nat.zero_add] at this
 ·rcases h.2 with⟨e,_⟩|⟨g',cap',cur,e,_,hg,_⟩
  ·cases e
  ·injection e with e
   injection e with e
   injection e with e
   subst e
   exact frozen_of_row W g j _ _ hg
theorem br_set (h:W.ownsRow lo 5 1 (.slice (some ⟨g,0,none⟩) n cap) n (u8s l)) (j:Nat) (c:UInt8):(W.setCell ⟨g,j,none⟩ (.int .u8 (c.toNat:Int))).ownsRow lo 5 1 (.slice (some ⟨g,0,none⟩) n cap) n (u8s (l.set j c)):=by
 obtain⟨h1,h2⟩:=h
 refine⟨by rw[u8s_len,List.length_set,←u8s_len];exact h1, ?_⟩
 rcases h2 with⟨h2,_⟩|⟨g',cap',cur,hv,hb,hg,hc1,hc2,hc3,hc4⟩
 ·cases h2
 ·simp only[Value.slice.injEq,Option.some.injEq,Addr.mk.injEq,and_true,true_and] at hv
  obtain⟨rfl,rfl⟩:=hv
  refine .inr ⟨g,cap,cur.setIfInBounds j (.int .u8 (c.toNat:Int)),rfl,hb,heap_setCell_same W g j _ _ _ hg,by simpa using hc1,hc2,by simpa using hc3, ?_⟩
  unfold u8s
  rw[List.map_set]
  unfold u8s at hc4
  rw[←hc4]
  simp[List.take_set]
theorem br_low (h:W.ownsRow lo 5 1 (.slice (some ⟨g,0,none⟩) n cap) n (u8s l)):lo≤g:=(h.lt g rfl).1
end
theorem grown_lowR {lo:Nat} {w W W2:World} {o:Obj} {row:Option Nat} (hl:Below lo w W) (hlo:lo≤W.heap.size) (hg:(W.alloc o).grownBy W2 row) (hr:∀g,row=some g→lo≤g):Below lo w W2:=
 (hl.alloc hlo o).trans ⟨hg.os,hg.tape,hg.output,hg.size,fun k hk=>hg.block k (by have:=World.size_alloc W o;omega) (fun e=>by have:=hr k e.symm;omega)⟩
def revD (u:Nat):List UInt8:=if h:u=0 then [] else UInt8.ofNat (48+u % 10)::revD (u/10)
termination_by u
decreasing_by omega
theorem revD_zero:revD 0=[]:=by rw[revD,dif_pos rfl]
theorem revD_pos {u:Nat} (h:u≠0):revD u=UInt8.ofNat (48+u % 10)::revD (u/10):=by rw[revD,dif_neg h]
theorem revD_dec:∀(k u:Nat),u<k→u≠0→(revD u).reverse=Lib.decDigits u
 |0,u,h,_=>by omega
 |k+1,u,h,h0=>by
  rw[revD_pos h0,List.reverse_cons,Lib.decDigits]
  by_cases h10:u<10
  ·rw[dif_pos h10,show u/10=0 by omega,revD_zero,show u % 10=u by omega]
   rfl
  ·rw[dif_neg h10,revD_dec k (u/10) (by omega) (by omega)]
theorem revD_len:∀(k u:Nat),u<10^k→(revD u).length≤k
 |0,u,h=>by
  obtain rfl:u=0:=by simpa using h
  rw[revD_zero]
  exact Nat.le_refl _
 |k+1,u,h=>by
  by_cases h0:u=0
  ·subst h0;rw[revD_zero];exact Nat.zero_le _
  ·rw[revD_pos h0,List.length_cons]
   have:=revD_len k (u/10) (by rw[Nat.pow_succ] at h;omega)
   omega
def Half (l m:List UInt8) (L i:Nat):Prop:=m.length=L∧∀j,j<L→m.getD j 0=if j<i∨L≤j+i then l.getD (L-1-j) 0 else l.getD j 0
theorem set_getD (l:List UInt8) (i j:Nat) (c:UInt8) (hi:i<l.length):(l.set i c).getD j 0=if i=j then c else l.getD j 0:=by
 rw[List.getD_eq_getElem?_getD,List.getElem?_set,List.getD_eq_getElem?_getD]
 by_cases h:i=j
 ·subst h
  rw[if_pos rfl,if_pos rfl,if_pos hi];rfl
 ·rw[if_neg h,if_neg h]
theorem Half.start (l:List UInt8):Half l l l.length 0:=⟨rfl,fun j hj=>by rw[if_neg (by omega)]⟩
theorem Half.step {l m:List UInt8} {L i:Nat} (h:Half l m L i) (hi:i<L/2):Half l ((m.set i (m.getD (L-1-i) 0)).set (L-1-i) (m.getD i 0)) L (i+1):=by
 obtain⟨h1,h2⟩:=h
 refine⟨by simp[h1],fun j hj=> ?_⟩
 rw[set_getD _ _ _ _ (by rw[List.length_set];omega),set_getD _ _ _ _ (by omega),h2 j hj,h2 i (by omega),h2 (L-1-i) (by omega)]
 by_cases e1:L-1-i=j
 ·subst e1
  rw[if_pos rfl,if_neg (by omega),if_pos (by omega),show L-1-(L-1-i)=i by omega]
 ·rw[if_neg e1]
  by_cases e2:i=j
  ·subst e2
   rw[if_pos rfl,if_neg (by omega),if_pos (by omega)]
  ·rw[if_neg e2]
   by_cases e3:j<i∨L≤j+i
   ·rw[if_pos e3,if_pos (by omega)]
   ·rw[if_neg e3,if_neg (by omega)]
theorem Half.done {l m:List UInt8} {L i:Nat} (h:Half l m L i) (hl:l.length=L) (hi:¬i<L/2) (hi2:i≤L/2):m=l.reverse:=by
 obtain⟨h1,h2⟩:=h
 apply List.ext_getElem (by simp[h1,hl])
 intro j hj1 hj2
 have hj:j<L:=by omega
 have:=h2 j hj
 rw[List.getD_eq_getElem?_getD,List.getElem?_eq_getElem hj1] at this
 rw[List.getElem_reverse]
 have e:∀k (hk:k<l.length),l.getD k 0=l[k]:=fun k hk=>by rw[List.getD_eq_getElem?_getD,List.getElem?_eq_getElem hk];rfl
 have e3:m[j]=if j<i∨L≤j+i then l.getD (L-1-j) 0 else l.getD j 0:=this
 rw[e3]
 by_cases h5:j<i∨L≤j+i
 ·rw[if_pos h5,e _ (by omega)]
  congr 1
  omega
 ·rw[if_neg h5,e _ (by omega)]
  congr 1
  omega
theorem small_itoa {u:Nat} (h:u<10):Lib.itoa (u:Int)=[UInt8.ofNat (48+u)]:=by
 unfold Lib.itoa
 rw[if_neg (by omega),Int.toNat_natCast,Lib.decDigits,dif_pos h]
theorem dig_byte {u:Nat} (h:u<10):((UInt8.ofNat (48+u)).toNat:Int)=48+(u:Int):=by
 have:(UInt8.ofNat (48+u)).toNat=48+u:=by rw[UInt8.toNat_ofNat'];omega
 omega
theorem r6_Digit1 (u:Nat) (h:u<10) (w:World):Calls Tryz.prog 94 #[.int .i64 u] w fun e w'=>e= .returned (.string ⟨⟨Lib.itoa u⟩⟩)∧Below w.heap.size w w':=by
 have hcv:(convert 75 9 (.slice (some ⟨w.heap.size,0,none⟩) 1 1)).run Tryz.prog (w.alloc (.cells #[.int .u8 (48+(u:Int))] 5 (0,0)))= .ok (.string ⟨⟨Lib.itoa u⟩⟩) (w.alloc (.cells #[.int .u8 (48+(u:Int))] 5 (0,0))):=by
  rw[small_itoa h]
  refine run_convert_bytes_back _ _ _ 5 ⟨w.heap.size,0,none⟩ 1 [UInt8.ofNat (48+u)] Tryz.underlying75 Tryz.underlying5 Tryz.underlying9 fun j hj=> ?_
  obtain rfl:j=0:=by simp at hj;exact hj
  rw[show((⟨w.heap.size,0,none⟩:Addr).add 0)=⟨w.heap.size,0,none⟩ from rfl,cell_of_row _ _ 0 _ _ _ (heap_alloc_new _ _)]
  simp only[List.getElem_cons_zero,dig_byte h]
  rfl
 have e1:IntKind.i64.wrap (48+(u:Int))=48+(u:Int):=by rw[IntKind.wrap_i64];omega
 have e2:IntKind.u8.wrap (48+(u:Int))=48+(u:Int):=by rw[IntKind.wrap_u8];omega
 have b1:decide ((0:Int)≤(u:Int))=true:=by simp
 have b2:decide ((u:Int)<10)=true:=by simp;omega
 obtain⟨S,hS⟩:∃S,Lib.itoa (u:Int)=S:=⟨_,rfl⟩
 rw[hS] at hcv⊢
 clear hS
 go_enter Tryz.func94,Tryz.ntmps94
 go_wp2_with fail
 go_ret
 exact⟨rfl,(Below.refl _ _).alloc (Nat.le_refl _) _⟩
def sgI (neg:Bool) (u:Nat):Int:=if neg then-(u:Int) else u
theorem sg_rem (neg:Bool) (u:Nat):(sgI neg u).tmod 10=sgI neg (u % 10):=by
 cases neg
 ·show(u:Int).tmod 10=((u % 10:Nat):Int)
  rw[Int.tmod_eq_emod_of_nonneg (by omega)];omega
 ·show(-(u:Int)).tmod 10= -((u % 10:Nat):Int)
  rw[Int.neg_tmod,Int.tmod_eq_emod_of_nonneg (by omega)];omega
theorem sg_quo (neg:Bool) (u:Nat):(sgI neg u).tdiv 10=sgI neg (u/10):=by
 cases neg
 ·show(u:Int).tdiv 10=((u/10:Nat):Int)
  rw[Int.tdiv_eq_ediv_of_nonneg (by omega)];omega
 ·show(-(u:Int)).tdiv 10= -((u/10:Nat):Int)
  rw[Int.neg_tdiv,Int.tdiv_eq_ediv_of_nonneg (by omega)];omega
theorem sg_itoa {neg:Bool} {u:Nat} (h0:u≠0):Lib.itoa (sgI neg u)=(revD u++(if neg then [45] else [])).reverse:=by
 rw[List.reverse_append,revD_dec (u+1) u (by omega) h0]
 cases neg
 ·show Lib.itoa (u:Int)=_
  unfold Lib.itoa
  rw[if_neg (by omega),Int.toNat_natCast];rfl
 ·show Lib.itoa (-(u:Int))=_
  unfold Lib.itoa
  rw[if_pos (by omega),show(-(u:Int)).natAbs=u by omega];rfl
theorem sg_abs (neg:Bool) (u:Nat):(sgI neg u).natAbs=u:=by cases neg<;>simp[sgI]
structure DgAt (w W:World) (v:Value) (l:List UInt8):Prop where
 low:Below w.heap.size w W
 own:W.ownsRow w.heap.size 5 1 v l.length (u8s l)
theorem DgAt.start (w:World):DgAt w w (.slice none 0 0) []:=⟨Below.refl _ _,World.ownsRow_nil _ _ _ _⟩
theorem r6_DigitsM (neg:Bool) (U:Nat) (hU:U≤9223372036854775808) (hU2:neg=false→10≤U∧U≤9223372036854775807) (hU1:1≤U) (w:World):Calls Tryz.prog 94 #[.int .i64 (sgI neg U)] w fun e w'=>e= .returned (.string ⟨⟨Lib.itoa (sgI neg U)⟩⟩)∧Below w.heap.size w w':=by
 have HS:=Lib.hid (sg_itoa (neg:=neg) (u:=U) (by omega))
 obtain⟨S,hS⟩:∃S,Lib.itoa (sgI neg U)=S:=⟨_,rfl⟩
 rw[hS] at HS⊢
 have HL:Hid ((revD U).length≤19):=Lib.hid (revD_len 19 U (by omega))
 obtain⟨i0,hi,hz0,hz1,hz2⟩:=info_parts u8Info
 have hs0:∀u,sgI neg u=sgI neg u:=fun _=>rfl
 have b0:(decide ((0:Int)≤sgI neg U)&&decide (sgI neg U<10))=false:=by
  cases neg with
  |false=>
   have:=hU2 rfl
   show(decide ((0:Int)≤(U:Int))&&decide ((U:Int)<10))=false
   simp;omega
  |true=>
   show(decide ((0:Int)≤-(U:Int))&&decide (-(U:Int)<10))=false
   simp;omega
 have bn:decide (sgI neg U<0)=neg:=by
  cases neg with
  |false=>show decide ((U:Int)<0)=false;simp
  |true=>show decide (-(U:Int)<0)=true;simp;omega
 obtain⟨N,hN⟩:∃N,sgI neg U=N:=⟨_,rfl⟩
 rw[hN] at b0 bn⊢
 have HN:=Lib.hid hN
 clear hS hs0 hN
 go_enter Tryz.func94,Tryz.ntmps94
 go_upto_region 1 with fail
 go_cut [14] (fun s14 wx=>s14= .bool false∧wx=w)
 case first=>
  cases b1:decide ((0:Int)≤N) with
  |false=>
   go_wp2_with fail
   go_meet
   exact⟨rfl,rfl⟩
  |true=>
   rw[b1,Bool.true_and] at b0
   go_wp2_with fail
   go_meet
   exact⟨rfl,rfl⟩
 case rest=>
  obtain⟨rfl,hww⟩:=hcut
  have hww2:=hww.symm
  subst hww2
  clear b0
  go_wp2_with fail
  go_loopw [0,4] (fun n b wr=>∃(out:List UInt8) (u:Nat) (A:Option Addr) (L cap:Nat),n= .int .i64 (sgI neg u)∧b= .slice A L cap∧u≤U∧Hid (out.length=L)∧Hid (DgAt w wr (.slice A L cap) out)∧Hid (out++revD u=revD U)) (fun n _ _=>(intOf n).natAbs)
  case atStart=>exact⟨[],U,none,0,0,by rw[HN.out],rfl,Nat.le_refl _,rfl,Lib.hid (DgAt.start _),rfl⟩
  case round=>
   obtain⟨out,u,A,L,cap,rfl,rfl,hu,HLL,HD,HO⟩:=hrel
   by_cases h0:u=0
   ·subst h0
    have hO:=HO.out
    rw[revD_zero,List.append_nil] at hO
    have HX:=Lib.hid hO
    have z0:(sgI neg 0 !=0)=false:=by cases neg<;>rfl
    obtain⟨X,hXe⟩:∃X,out++(if neg then [45] else [])=X:=⟨_,rfl⟩
    have HSX:Hid (S=X.reverse):=Lib.hid (by rw[HS.out,←HX.out,hXe])
    have HX0:Hid (0<X.length):=Lib.hid (by
     rw[←hXe,HX.out,revD_pos (show U≠0 by omega)]
     simp)
    have HX20:Hid (X.length≤20):=Lib.hid (by
     have:=HL.out
     rw[←hXe,HX.out,List.length_append]
     split<;>simp<;>omega)
    have HXE:=Lib.hid hXe
    have hL19:L≤19:=by have:=HL.out;rw[←HX.out,HLL.out] at this;exact this
    have HOW:Hid (wr.ownsRow w.heap.size 5 1 (.slice A L cap) L (u8s out)):=Lib.hid (by have:=HD.out.own;rwa [HLL.out] at this)
    have HLO:=Lib.hid HD.out.low
    have hszL:=HLO.out.size
    clear HO hO hXe HS HN HX
    go_upto_if 38 with fail
    go_cut [4] (fun s4 wx=>∃(A2:Option Addr) (L2 cap2:Nat),s4= .slice A2 L2 cap2∧Hid (DgAt w wx (.slice A2 L2 cap2) X)∧Hid (X.length=L2))
    case first=>
     cases neg with
     |false=>
      have hXo:X=out:=by rw[←HXE.out];exact List.append_nil _
      subst hXo
      go_wp2_with fail
      go_meet
      exact⟨A,L,cap,rfl,HD,HLL⟩
     |true=>
      have HAP:Hid (∀(g2 cap2:Nat) (w3:World),w3.ownsRow w.heap.size 5 1 (.slice (some ⟨g2,0,none⟩) (L+1) cap2) (L+1) (u8s out++ [.int .u8 45])→(wr.alloc (.cells #[.int .u8 45] 5 (0,0))).grownBy w3 (Value.slice A L cap).ownBlock→DgAt w w3 (.slice (some ⟨g2,0,none⟩) (L+1) cap2) X):=Lib.hid fun g2 cap2 w3 ho hg=>⟨grown_lowR HLO.out HLO.out.size hg (fun g e=>(HOW.out.lt g e).1),by
       rw[←HXE.out]
       simp only[if_true]
       rw[List.length_append,HLL.out,u8s_app]
       exact ho⟩
      go_wp2_with (at_builtin;refine wpList_append_lies _ rfl _ _ 75 rfl w.heap.size 5 i0 _ 1 1 Tryz.underlying75 hi hz0 hz1 hz2 rfl (by decide) _ _ _ rfl (HOW.out.alloc _) ⟨wr.heap.size,0,none⟩ 1 1 [.int .u8 45] rfl rfl (fun k u hu=>news_at wr _ _ _ k u hu) (by intro u hu;simp at hu;subst hu;rfl) (by decide) (by unfold maxLen;omega) (by omega) (by rw[World.size_alloc];omega) _ rfl ?_;intro g2 cap2 w3 ho hg hb hl;have HN3:=Lib.hid (HAP.out _ _ _ ho hg);clear ho hg hb hl)
      go_meet
      exact⟨some ⟨g2,0,none⟩,L+1,cap2,rfl,HN3,Lib.hid (by rw[←HXE.out];simp[HLL.out])⟩
    case rest=>
     obtain⟨A2,L2,cap2,rfl,HD2,HL2⟩:=hcut
     have hown:wc.ownsRow w.heap.size 5 1 (.slice A2 L2 cap2) L2 (u8s X):=by have:=HD2.out.own;rwa [HL2.out] at this
     have h20:0<L2:=by rw[←HL2.out];exact HX0.out
     have h220:L2≤20:=by rw[←HL2.out];exact HX20.out
     obtain⟨g,c3,he⟩:=br_form hown h20
     injection he with he1 he2 he3
     subst he1 he3
     have HO2:=Lib.hid hown
     have hquo:IntKind.i64.wrap ((L2:Int).tdiv 2)=((L2/2:Nat):Int):=by
      rw[Int.tdiv_eq_ediv_of_nonneg (by omega),IntKind.wrap_i64];omega
     have hquo2:(L2:Int).tdiv 2=((L2/2:Nat):Int):=by rw[Int.tdiv_eq_ediv_of_nonneg (by omega)];omega
     clear hown he2 HOW HLO HD HLL hL19 hszL
     go_wp2_with fail
     go_loopw [6] (fun i wr=>∃(j:Nat) (M:List UInt8),i= .int .i64 j∧j≤L2/2∧Hid (wr.ownsRow w.heap.size 5 1 (.slice (some ⟨g,0,none⟩) L2 cap2) L2 (u8s M))∧Hid (Half X M L2 j)∧Hid (Below w.heap.size w wr)) (fun i _=>L2-(intOf i).toNat)
     case atStart=>exact⟨0,X,rfl,by omega,HO2,Lib.hid (by rw[←HL2.out];exact Half.start X),Lib.hid HD2.out.low⟩
     case round=>
      obtain⟨j,M,rfl,hj,HM,HH,HB⟩:=hrel
      have hM:=HH.out.1
      by_cases hlt:j<L2/2
      ·obtain⟨k,hk⟩:∃k,L2-1-j=k:=⟨_,rfl⟩
       obtain⟨ci,fi⟩:=br_cell HM.out hM (show j<L2 by omega)
       obtain⟨ck,fk⟩:=br_cell HM.out hM (show k<L2 by omega)
       have w1:IntKind.i64.wrap ((L2:Int)-1)=(L2:Int)-1:=by rw[IntKind.wrap_i64];omega
       have w2:(L2:Int)-1-(j:Int)=(k:Int):=by omega
       have w3:IntKind.i64.wrap (k:Int)=(k:Int):=by rw[IntKind.wrap_i64];omega
       have hkl:k<L2:=by omega
       have hjl:j<L2:=by omega
       have hjk:j≠k:=by omega
       have blt:decide ((j:Int)<((L2/2:Nat):Int))=true:=by simp only[decide_eq_true_eq];omega
       have HH2:Hid (Half X ((M.set j (M.getD k 0)).set k (M.getD j 0)) L2 (j+1)):=Lib.hid (by have:=HH.out.step hlt;rwa [hk] at this)
       have HO3:Hid ((((wr.setCell ⟨g,j,none⟩ (.int .u8 ((M.getD k 0).toNat:Int))).setCell ⟨g,k,none⟩ (.int .u8 ((M.getD j 0).toNat:Int)))).ownsRow w.heap.size 5 1 (.slice (some ⟨g,0,none⟩) L2 cap2) L2 (u8s ((M.set j (M.getD k 0)).set k (M.getD j 0)))):=Lib.hid (br_set (br_set HM.out j (M.getD k 0)) k (M.getD j 0))
       have HB3:Hid (Below w.heap.size w ((wr.setCell ⟨g,j,none⟩ (.int .u8 ((M.getD k 0).toNat:Int))).setCell ⟨g,k,none⟩ (.int .u8 ((M.getD j 0).toNat:Int)))):=Lib.hid ((HB.out.setCell (br_low HM.out) _).setCell (br_low HM.out) _)
       clear HH HM HB hM hk
       generalize (M.set j (M.getD k 0)).set k (M.getD j 0)=M2 at HH2 HO3
       generalize M.getD j 0=bj at ci HO3 HB3
       generalize M.getD k 0=bk at ck HO3 HB3
       go_wp2_with fail
       go_roundw
       case rel=>exact⟨j+1,M2,by simp,by omega,HO3,HH2,HB3⟩
       case measure=>simp[intOf];omega
      ·obtain rfl:j=L2/2:=by omega
       have hMS:M=S:=by rw[HSX.out];exact HH.out.done HL2.out hlt hj
       subst hMS
       have hcv:(convert 75 9 (.slice (some ⟨g,0,none⟩) M.length cap2)).run Tryz.prog wr= .ok (.string ⟨M.toArray⟩) wr:=run_convert_bytes_back wr _ _ 5 ⟨g,0,none⟩ cap2 M Tryz.underlying75 Tryz.underlying5 Tryz.underlying9 fun i hi=>by
        have h:=(br_cell HM.out hM (show i<L2 by omega)).1
        rw[List.getD_eq_getElem?_getD,List.getElem?_eq_getElem hi] at h
        rw[Addr.add_lit,Nat.zero_add]
        exact h
       rw[hM] at hcv
       have blt:decide ((((L2/2:Nat)):Int)<((L2/2:Nat):Int))=false:=by simp
       clear HH hM hlt
       go_wp2_with fail
       go_ret
       exact⟨rfl,HB.out⟩
   ·have hne:(sgI neg u !=0)=true:=by
     cases neg with
     |false=>show((u:Int) !=0)=true;simp;omega
     |true=>show(-(u:Int) !=0)=true;simp;omega
    have hlo:out.length<19:=by
     have h1:=HL.out
     rw[←HO.out,revD_pos h0,List.length_append,List.length_cons] at h1
     omega
    have hrem:(sgI neg u).tmod 10=sgI neg (u % 10):=sg_rem neg u
    have hquo:IntKind.i64.wrap ((sgI neg u).tdiv 10)=sgI neg (u/10):=by
     rw[sg_quo,IntKind.wrap_i64]
     cases neg<;>simp only[sgI,if_true,if_false,Bool.false_eq_true]<;>omega
    obtain⟨d,hd⟩:∃d,u % 10=d:=⟨_,rfl⟩
    have hd10:d<10:=by omega
    have HB:=Lib.hid (dig_byte hd10)
    have HNX:Hid ((out++ [UInt8.ofNat (48+d)])++revD (u/10)=revD U):=Lib.hid (by rw[←HO.out,revD_pos h0,hd,List.append_assoc];rfl)
    rw[hd] at hrem
    have e1:IntKind.i64.wrap (48+(d:Int))=48+(d:Int):=by rw[IntKind.wrap_i64];omega
    have e2:IntKind.u8.wrap (48+(d:Int))=48+(d:Int):=by rw[IntKind.wrap_u8];omega
    have HOW:Hid (wr.ownsRow w.heap.size 5 1 (.slice A L cap) L (u8s out)):=Lib.hid (by have:=HD.out.own;rwa [HLL.out] at this)
    have HLO:=Lib.hid HD.out.low
    have hszL:=HLO.out.size
    rw[HLL.out] at hlo
    clear HO hd
    obtain⟨NX,hNX⟩:∃NX,sgI neg (u/10)=NX:=⟨_,rfl⟩
    rw[hNX] at hquo
    have HNX2:=Lib.hid hNX
    clear hNX
    have HAP:Hid (∀(g2 cap2:Nat) (w3:World),w3.ownsRow w.heap.size 5 1 (.slice (some ⟨g2,0,none⟩) (L+1) cap2) (L+1) (u8s out++ [.int .u8 (48+(d:Int))])→(wr.alloc (.cells #[.int .u8 (48+(d:Int))] 5 (0,0))).grownBy w3 (Value.slice A L cap).ownBlock→DgAt w w3 (.slice (some ⟨g2,0,none⟩) (L+1) cap2) (out++ [UInt8.ofNat (48+d)])):=Lib.hid fun g2 cap2 w3 ho hg=>⟨grown_lowR HLO.out HLO.out.size hg (fun g e=>(HOW.out.lt g e).1),by
     rw[List.length_append,HLL.out,u8s_app,show u8s [UInt8.ofNat (48+d)]=[.int .u8 (48+(d:Int))] by rw[←HB.out];rfl]
     exact ho⟩
    cases neg with
    |false=>
     have hm0:sgI false d=(d:Int):=rfl
     rw[hm0] at hrem
     have bd:decide ((d:Int)<0)=false:=by simp
     clear hm0
     go_wp2_with (at_builtin;refine wpList_append_lies _ rfl _ _ 75 rfl w.heap.size 5 i0 _ 1 1 Tryz.underlying75 hi hz0 hz1 hz2 rfl (by decide) _ _ _ rfl (HOW.out.alloc _) ⟨wr.heap.size,0,none⟩ 1 1 [.int .u8 (48+(d:Int))] rfl rfl (fun k u hu=>news_at wr _ _ _ k u hu) (by intro u hu;simp at hu;subst hu;rfl) (by decide) (by unfold maxLen;omega) (by omega) (by rw[World.size_alloc];omega) _ rfl ?_;intro g2 cap2 w3 ho hg hb hl;have HN3:=Lib.hid (HAP.out _ _ _ ho hg);clear ho hg hb hl)
     go_roundw
     case rel=>exact⟨out++ [UInt8.ofNat (48+d)],u/10,some ⟨g2,0,none⟩,L+1,cap2,by rw[HNX2.out],rfl,by omega,Lib.hid (by rw[List.length_append,HLL.out];rfl),HN3,HNX⟩
     case measure=>
      show(intOf (.int .i64 NX)).natAbs<(intOf (.int .i64 (sgI false u))).natAbs
      simp only[intOf]
      rw[←HNX2.out,sg_abs,sg_abs]
      omega
    |true=>
     have hm0:sgI true d= -(d:Int):=rfl
     rw[hm0] at hrem
     have e3:IntKind.i64.wrap (d:Int)=(d:Int):=by rw[IntKind.wrap_i64];omega
     clear hm0
     by_cases hd0:d=0
     ·have bd:decide ((0:Int)<(d:Int))=false:=by simp;omega
      have bd0:decide (0<d)=false:=by simp;omega
      have e4:IntKind.i64.wrap (48+ -(d:Int))=48+(d:Int):=by rw[IntKind.wrap_i64];omega
      clear hd0
      go_wp2_with (at_builtin;refine wpList_append_lies _ rfl _ _ 75 rfl w.heap.size 5 i0 _ 1 1 Tryz.underlying75 hi hz0 hz1 hz2 rfl (by decide) _ _ _ rfl (HOW.out.alloc _) ⟨wr.heap.size,0,none⟩ 1 1 [.int .u8 (48+(d:Int))] rfl rfl (fun k u hu=>news_at wr _ _ _ k u hu) (by intro u hu;simp at hu;subst hu;rfl) (by decide) (by unfold maxLen;omega) (by omega) (by rw[World.size_alloc];omega) _ rfl ?_;intro g2 cap2 w3 ho hg hb hl;have HN3:=Lib.hid (HAP.out _ _ _ ho hg);clear ho hg hb hl)
      go_roundw
      case rel=>exact⟨out++ [UInt8.ofNat (48+d)],u/10,some ⟨g2,0,none⟩,L+1,cap2,by rw[HNX2.out],rfl,by omega,Lib.hid (by rw[List.length_append,HLL.out];rfl),HN3,HNX⟩
      case measure=>
       show(intOf (.int .i64 NX)).natAbs<(intOf (.int .i64 (sgI true u))).natAbs
       simp only[intOf]
       rw[←HNX2.out,sg_abs,sg_abs]
       omega
     ·have bd:decide ((0:Int)<(d:Int))=true:=by simp;omega
      have bd0:decide (0<d)=true:=by simp;omega
      clear hd0
      go_wp2_with (at_builtin;refine wpList_append_lies _ rfl _ _ 75 rfl w.heap.size 5 i0 _ 1 1 Tryz.underlying75 hi hz0 hz1 hz2 rfl (by decide) _ _ _ rfl (HOW.out.alloc _) ⟨wr.heap.size,0,none⟩ 1 1 [.int .u8 (48+(d:Int))] rfl rfl (fun k u hu=>news_at wr _ _ _ k u hu) (by intro u hu;simp at hu;subst hu;rfl) (by decide) (by unfold maxLen;omega) (by omega) (by rw[World.size_alloc];omega) _ rfl ?_;intro g2 cap2 w3 ho hg hb hl;have HN3:=Lib.hid (HAP.out _ _ _ ho hg);clear ho hg hb hl)
      go_roundw
      case rel=>exact⟨out++ [UInt8.ofNat (48+d)],u/10,some ⟨g2,0,none⟩,L+1,cap2,by rw[HNX2.out],rfl,by omega,Lib.hid (by rw[List.length_append,HLL.out];rfl),HN3,HNX⟩
      case measure=>
       show(intOf (.int .i64 NX)).natAbs<(intOf (.int .i64 (sgI true u))).natAbs
       simp only[intOf]
       rw[←HNX2.out,sg_abs,sg_abs]
       omega
theorem r6_Digits (n:Int) (hn:okI n) (w:World):Calls Tryz.prog 94 #[.int .i64 n] w fun e w'=>e= .returned (.string ⟨⟨Lib.itoa n⟩⟩)∧Below w.heap.size w w':=by
 obtain⟨h1,h2⟩:=hn
 by_cases h:0≤n
 ·obtain⟨u,rfl⟩:=Int.eq_ofNat_of_zero_le h
  by_cases hu:u<10
  ·exact r6_Digit1 u hu w
  ·exact r6_DigitsM false u (by omega) (fun _=>⟨by omega,by omega⟩) (by omega) w
 ·obtain⟨u,rfl⟩:∃u:Nat,n= -(u:Int):=⟨n.natAbs,by omega⟩
  exact r6_DigitsM true u (by omega) (fun e=>by cases e) (by omega) w
theorem strInfoR:(Tryz.prog.info? 9).map (fun i=>(i.zero,i.size,i.bytes))=some (some (.string ⟨#[]⟩),1,16):=by kernel_rfl
theorem split_at:∀(k:Nat) (s:List UInt8),(∀x∈s.take k,x≠32)→s[k]? =some 32→splitC 32 s=s.take k::splitC 32 (s.drop (k+1))
 |k,[],_,h=>by simp at h
 |0,x::r,_,h=>by
  obtain rfl:x=32:=by simpa using h
  rw[splitC,if_pos rfl]
  rfl
 |k+1,x::r,hn,h=>by
  have hx:x≠32:=hn x (by simp)
  rw[splitC,if_neg hx,split_at k r (fun y hy=>hn y (by simp[hy])) (by simpa using h)]
  rfl
theorem split_end:∀s:List UInt8,(∀x∈s,x≠32)→splitC 32 s=[s]
 | [],_=>rfl
 |x::r,h=>by
  rw[splitC,if_neg (h x (List.mem_cons_self ..)),split_end r fun y hy=>h y (List.mem_cons_of_mem _ hy)]
theorem ext_list (s:ByteArray) (a b:Nat):s.extract a b=⟨⟨(s.data.toList.drop a).take (b-a)⟩⟩:=by
 have e:(s.extract a b).data=⟨(s.data.toList.drop a).take (b-a)⟩:=by
  rw[ByteArray.data_extract]
  apply Array.toList_inj.1
  simp
 exact ByteArray.ext e
def strs (l:List (List UInt8)):List Value:=l.map fun t=> .string ⟨⟨t⟩⟩
theorem strs_app (a b:List (List UInt8)):strs (a++b)=strs a++strs b:=List.map_append
structure SrAt (w W:World) (v:Value) (n:Nat) (l:List (List UInt8)):Prop where
 low:Below w.heap.size w W
 own:W.ownsRow w.heap.size 9 1 v n (strs l)
 len:l.length=n
theorem SrAt.start (w:World):SrAt w w (.slice none 0 0) 0 []:=⟨Below.refl _ _,World.ownsRow_nil _ _ _ _,rfl⟩
def StrRow (W:World) (A:Option Addr) (n:Nat) (l:List (List UInt8)):Prop:=l.length=n∧∀(j:Nat) (t:List UInt8),l[j]? =some t→∃g,A=some ⟨g,0,none⟩∧W.cell? ⟨g,j,none⟩=some (.string ⟨⟨t⟩⟩)
theorem SrAt.row {w W:World} {A:Option Addr} {n c:Nat} {l:List (List UInt8)} (h:SrAt w W (.slice A n c) n l):StrRow W A n l:=by
 refine⟨h.len,fun j t hj=> ?_⟩
 rcases h.own.2 with⟨e,e2⟩|⟨g,cap,cur,e,_⟩
 ·have h1:=(List.getElem?_eq_some_iff.1 hj).1
  have h2:=h.len
  omega
 ·injection e with e1 e2 e3
  subst e1
  have:=h.own.cells (g:=g) rfl j (.string ⟨⟨t⟩⟩) (by unfold strs;rw[List.getElem?_map,hj];rfl)
  rw[Addr.add_lit,Nat.zero_add] at this
  exact⟨g,rfl,this⟩
def SplSt (s:List UInt8) (out:List (List UInt8)) (f i:Nat):Prop:=(i≤s.length∧f≤i∧(∀x∈(s.drop f).take (i-f),x≠32)∧out++splitC 32 (s.drop f)=splitC 32 s)∨(i=s.length+1∧f=i∧out=splitC 32 s)
theorem SplSt.start (s:List UInt8):SplSt s [] 0 0:= .inl ⟨Nat.zero_le _,Nat.le_refl _,fun x hx=>by simp at hx,rfl⟩
theorem take_snocL {l:List UInt8} {k:Nat} {c:UInt8} (h:l[k]? =some c):l.take (k+1)=l.take k++ [c]:=by
 rw[List.take_add_one,h];rfl
theorem SplSt.on {s:List UInt8} {out:List (List UInt8)} {f i:Nat} {c:UInt8} (h:SplSt s out f i) (hi:s[i]? =some c) (hc:c≠32):SplSt s out f (i+1):=by
 have hil:=(List.getElem?_eq_some_iff.1 hi).1
 rcases h with⟨h1,h2,h3,h4⟩|⟨h1,_⟩
 ·refine .inl ⟨by omega,by omega,fun x hx=> ?_,h4⟩
  have hd:(s.drop f)[i-f]? =some c:=by rw[List.getElem?_drop,show f+(i-f)=i by omega];exact hi
  rw[show i+1-f=(i-f)+1 by omega,take_snocL hd] at hx
  rcases List.mem_append.1 hx with hx|hx
  ·exact h3 x hx
  ·rw[List.mem_singleton.1 hx];exact hc
 ·omega
theorem SplSt.part {s:List UInt8} {out:List (List UInt8)} {f i:Nat} (h:SplSt s out f i) (hi:s[i]? =some 32∨i=s.length):SplSt s (out++ [(s.drop f).take (i-f)]) (i+1) (i+1)∧f≤i:=by
 rcases h with⟨h1,h2,h3,h4⟩|⟨h1,_⟩
 ·refine⟨?_,h2⟩
  rcases hi with hi|hi
  ·have hil:=(List.getElem?_eq_some_iff.1 hi).1
   have hd:(s.drop f)[i-f]? =some 32:=by rw[List.getElem?_drop,show f+(i-f)=i by omega];exact hi
   refine .inl ⟨by omega,Nat.le_refl _,fun x hx=>by simp at hx, ?_⟩
   rw[←h4,split_at (i-f) (s.drop f) h3 hd,List.drop_drop,show f+(i-f+1)=i+1 by omega,List.append_assoc]
   rfl
  ·subst hi
   refine .inr ⟨rfl,rfl, ?_⟩
   have e:(s.drop f).take (s.length-f)=s.drop f:=List.take_of_length_le (by rw[List.length_drop];exact Nat.le_refl _)
   rw[e] at h3⊢
   rw[←h4,split_end _ h3]
 ·rcases hi with hi|hi
  ·have hil:=(List.getElem?_eq_some_iff.1 hi).1;omega
  ·omega
theorem splitC_len (c:UInt8):∀s:List UInt8,(splitC c s).length≤s.length+1
 | []=>Nat.le_refl _
 |x::r=>by
  have h:=splitC_len c r
  rw[splitC]
  split
  ·rw[List.length_cons,List.length_cons];omega
  ·cases hs:splitC c r with
   |nil=>simp
   |cons y ys=>rw[hs] at h;simpa using Nat.le_succ_of_le h
theorem SplSt.le {s:List UInt8} {out:List (List UInt8)} {f i:Nat} (h:SplSt s out f i):out.length≤s.length+1:=by
 have h0:=splitC_len 32 s
 rcases h with⟨_,_,_,h4⟩|⟨_,_,h4⟩
 ·have:=congrArg List.length h4
  rw[List.length_append] at this
  omega
 ·rw[h4];exact h0
theorem r13_split (s:List UInt8) (hs:s.length≤4000000000) (w:World):Calls Tryz.prog 105 #[.string ⟨⟨s⟩⟩] w fun e w'=>∃A n c,e= .returned (.slice A n c)∧Below w.heap.size w w'∧StrRow w' A n (splitC 32 s):=by
 obtain⟨T,hT⟩:∃T:ByteArray,(⟨⟨s⟩⟩:ByteArray)=T:=⟨_,rfl⟩
 have hTt:T.data.toList=s:=by rw[←hT]
 rw[hT]
 obtain⟨L,hL⟩:∃L,T.size=L:=⟨_,rfl⟩
 have hLt:s.length=L:=by rw[←hL,←hTt];simp
 rw[hLt] at hs
 have HT:=Lib.hid hTt
 have HLT:=Lib.hid hLt
 obtain⟨i0,hi,hz0,hz1,hz2⟩:=info_parts strInfoR
 clear hT hTt hLt
 go_enter Tryz.func105,Tryz.ntmps105
 go_wp2_with fail
 go_loopw [3,4,5] (fun o f i wr=>∃(A:Option Addr) (n c fr j:Nat) (out:List (List UInt8)),o= .slice A n c∧f= .int .i64 fr∧i= .int .i64 j∧j≤L+1∧Hid (SrAt w wr (.slice A n c) n out)∧Hid (SplSt s out fr j)) (fun _ _ i _=>L+1-(intOf i).toNat)
 case atStart=>exact⟨none,0,0,0,0,[],rfl,rfl,rfl,by omega,Lib.hid (SrAt.start w),Lib.hid (SplSt.start s)⟩
 case round=>
  obtain⟨A,n,c,fr,j,out,rfl,rfl,rfl,hj,HR,HS⟩:=hrel
  have hn:n≤L+1:=by rw[←HR.out.len,←HLT.out];exact HS.out.le
  by_cases hlt:j≤L
  ·have hle:decide ((j:Int)≤(L:Int))=true:=by simp;omega
   have hpart:(s[j]? =some 32∨j=L)→Hid (SplSt s (out++ [(s.drop fr).take (j-fr)]) (j+1) (j+1))∧fr≤j:=fun h=>by
    have:=HS.out.part (by rw[HLT.out];exact h)
    exact⟨Lib.hid this.1,this.2⟩
   have HPT:=Lib.hid hpart
   have HOW:Hid (wr.ownsRow w.heap.size 9 1 (.slice A n c) n (strs out)):=Lib.hid HR.out.own
   have HLO:=Lib.hid HR.out.low
   have hszL:=HLO.out.size
   clear hpart
   by_cases hjL:j=L
   ·subst hjL
    obtain⟨HS2,hfr⟩:=HPT.out (.inr rfl)
    have hw1:IntKind.i64.wrap ((j:Int)+1)=(j:Int)+1:=by rw[IntKind.wrap_i64];omega
    have hex:T.extract fr j=⟨⟨(s.drop fr).take (j-fr)⟩⟩:=by rw[ext_list,HT.out]
    obtain⟨P,hP⟩:∃P,(s.drop fr).take (j-fr)=P:=⟨_,rfl⟩
    rw[hP] at hex HS2
    have HAP:Hid (∀(g2 cap2:Nat) (w3:World),w3.ownsRow w.heap.size 9 1 (.slice (some ⟨g2,0,none⟩) (n+1) cap2) (n+1) (strs out++ [.string ⟨⟨P⟩⟩])→(wr.alloc (.cells #[.string ⟨⟨P⟩⟩] 9 (0,0))).grownBy w3 (Value.slice A n c).ownBlock→SrAt w w3 (.slice (some ⟨g2,0,none⟩) (n+1) cap2) (n+1) (out++ [P])):=Lib.hid fun g2 cap2 w3 ho hg=>⟨grown_lowR HLO.out HLO.out.size hg (fun g e=>(HOW.out.lt g e).1),by rw[strs_app];exact ho,by rw[List.length_append,HR.out.len];rfl⟩
    clear hP HPT HS
    go_wp2_with (at_builtin;refine wpList_append_lies _ rfl _ _ 25 rfl w.heap.size 9 i0 _ 1 16 Tryz.underlying25 hi hz0 hz1 hz2 rfl (by decide) _ _ _ rfl (HOW.out.alloc _) ⟨wr.heap.size,0,none⟩ 1 1 [.string ⟨⟨P⟩⟩] rfl rfl (fun k u hu=>news_at wr _ _ _ k u hu) (by intro u hu;simp at hu;subst hu;rfl) (by decide) (by unfold maxLen;omega) (by omega) (by rw[World.size_alloc];omega) _ rfl ?_;intro g2 cap2 w3 ho hg hb hl;have HN3:=Lib.hid (HAP.out _ _ _ ho hg);clear ho hg hb hl)
    go_roundw
    case rel=>exact⟨some ⟨g2,0,none⟩,n+1,cap2,j+1,j+1,out++ [P],rfl,by simp,by simp,by omega,HN3,HS2⟩
    case measure=>simp[intOf]
   ·have hne:((j:Int)==(L:Int))=false:=by simp;omega
    obtain⟨d,hd,hix⟩:=getB T j (by omega)
    rw[HT.out] at hd
    have hdj:s[j]? =some d:=by have:=congrArg (·[0]?) hd;simpa using this
    clear hd
    by_cases h32:d=32
    ·subst h32
     have h3:∀h,(((T[j]'h).toNat:Int)==32)=true:=fun h=>by rw[hix];rfl
     obtain⟨HS2,hfr⟩:=HPT.out (.inl hdj)
     have hw1:IntKind.i64.wrap ((j:Int)+1)=(j:Int)+1:=by rw[IntKind.wrap_i64];omega
     have hex:T.extract fr j=⟨⟨(s.drop fr).take (j-fr)⟩⟩:=by rw[ext_list,HT.out]
     obtain⟨P,hP⟩:∃P,(s.drop fr).take (j-fr)=P:=⟨_,rfl⟩
     rw[hP] at hex HS2
     have HAP:Hid (∀(g2 cap2:Nat) (w3:World),w3.ownsRow w.heap.size 9 1 (.slice (some ⟨g2,0,none⟩) (n+1) cap2) (n+1) (strs out++ [.string ⟨⟨P⟩⟩])→(wr.alloc (.cells #[.string ⟨⟨P⟩⟩] 9 (0,0))).grownBy w3 (Value.slice A n c).ownBlock→SrAt w w3 (.slice (some ⟨g2,0,none⟩) (n+1) cap2) (n+1) (out++ [P])):=Lib.hid fun g2 cap2 w3 ho hg=>⟨grown_lowR HLO.out HLO.out.size hg (fun g e=>(HOW.out.lt g e).1),by rw[strs_app];exact ho,by rw[List.length_append,HR.out.len];rfl⟩
     clear hP HPT HS
     clear hix hdj
     go_wp2_with (at_builtin;refine wpList_append_lies _ rfl _ _ 25 rfl w.heap.size 9 i0 _ 1 16 Tryz.underlying25 hi hz0 hz1 hz2 rfl (by decide) _ _ _ rfl (HOW.out.alloc _) ⟨wr.heap.size,0,none⟩ 1 1 [.string ⟨⟨P⟩⟩] rfl rfl (fun k u hu=>news_at wr _ _ _ k u hu) (by intro u hu;simp at hu;subst hu;rfl) (by decide) (by unfold maxLen;omega) (by omega) (by rw[World.size_alloc];omega) _ rfl ?_;intro g2 cap2 w3 ho hg hb hl;have HN3:=Lib.hid (HAP.out _ _ _ ho hg);clear ho hg hb hl)
     go_roundw
     case rel=>exact⟨some ⟨g2,0,none⟩,n+1,cap2,j+1,j+1,out++ [P],rfl,by simp,by simp,by omega,HN3,HS2⟩
     case measure=>simp[intOf];omega
    ·have h3:∀h,(((T[j]'h).toNat:Int)==32)=false:=fun h=>by
      rw[hix]
      simp only[beq_eq_false_iff_ne,ne_eq]
      intro e
      exact h32 (UInt8.toNat_inj.1 (by show d.toNat=32;omega))
     have HS2:Hid (SplSt s out fr (j+1)):=Lib.hid (HS.out.on hdj h32)
     clear hix hdj h32 HPT HS
     go_wp2_with fail
     go_roundw
     case rel=>exact⟨A,n,c,fr,j+1,out,rfl,rfl,by simp,by omega,HR,HS2⟩
     case measure=>simp[intOf];omega
  ·obtain rfl:j=L+1:=by omega
   have hout:out=splitC 32 s:=by
    rcases HS.out with⟨h,_⟩|⟨_,_,h⟩
    ·rw[HLT.out] at h;omega
    ·exact h
   have hle:decide (((L+1:Nat):Int)≤(L:Int))=false:=by simp;omega
   subst hout
   clear HS
   go_wp2_with fail
   go_ret
   exact⟨_,_,_,rfl,HR.out.low,HR.out.row⟩
end Go.Proofs.YtagnicbknbmccaaGreatDoor
