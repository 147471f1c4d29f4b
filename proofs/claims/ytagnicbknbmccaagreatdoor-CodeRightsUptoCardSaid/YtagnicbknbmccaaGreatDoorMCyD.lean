/- code.Same of any two programs. slices.EqualFunc of two programs' functions; code.Same of any two programs. -/
import Derived.Test.YtagnicbknbmccaaGreatDoorShelf
import Derived.Test.YtagnicbknbmccaaGreatDoorSqC
import Derived.Test.YtagnicbknbmccaaGreatDoorMCyA
import Derived.Test.YtagnicbknbmccaaGreatDoorMCwF
set_option maxRecDepth 100000
set_option maxHeartbeats 4000000
namespace Go.Proofs.YtagnicbknbmccaaGreatDoor
open Go.RowKit
theorem drew_below (w:World) (q:Nat):Below w.heap.size w (w.drewN q):=⟨rfl,rfl,rfl,Nat.le_refl _,fun _ _=>rfl⟩
theorem equalInts_any {w:World} {A A':Option Addr} {l l':List Int} {c c' n m:Nat} (hn:l.length=n) (hm:l'.length=m) (h:RowIs w w.heap.size A (l.map (Value.int .i64))) (h':RowIs w w.heap.size A' (l'.map (Value.int .i64))) (hb:n≤140737488351232):
  Calls Tryz.prog 71 #[.slice A n c,.slice A' m c'] w fun e w'=>e= .returned (.bool (l==l'))∧Below w.heap.size w w':=by
 by_cases e:n=m
 ·subst e
  by_cases h0:n=0
  ·subst h0
   obtain rfl:=List.eq_nil_of_length_eq_zero hn
   obtain rfl:=List.eq_nil_of_length_eq_zero hm
   refine(Tryz.slices_Equal_int_empty A A' c 0 c' w (by decide)).mono ?_
   rintro e w' ⟨rfl,rfl⟩
   exact⟨rfl,Below.refl _ _⟩
  ·obtain⟨g,o,rfl,_,hc⟩:=h.at (by rw[List.length_map];omega)
   obtain⟨g',o',rfl,_,hc'⟩:=h'.at (by rw[List.length_map];omega)
   refine(Tryz.slices_Equal_int g o n c g' o' n c' l l' w (by omega) (by omega) (by omega) (by omega) (fun j hj=>hc j _ ?_) (fun j hj=>hc' j _ ?_)).mono ?_
   ·simp[List.getElem?_eq_getElem hj]
   ·simp[List.getElem?_eq_getElem hj]
   ·rintro e w' ⟨rfl,q,rfl⟩
    rw[List.take_of_length_le (by omega),List.take_of_length_le (by omega)]
    exact⟨rfl,drew_below w q⟩
 ·refine(Tryz.slices_Equal_int_lens A A' n c m c' w e).mono ?_
  rintro e w' ⟨rfl,rfl⟩
  refine⟨?_,Below.refl _ _⟩
  rw[show(l==l')=false from beq_eq_false_iff_ne.2 fun h=>e (by rw[←hn,←hm,h])]
theorem equalStrs_any {w:World} {A A':Option Addr} {l l':List ByteArray} {c c' n m:Nat} (hn:l.length=n) (hm:l'.length=m) (h:RowIs w w.heap.size A (l.map Value.string)) (h':RowIs w w.heap.size A' (l'.map Value.string)) (hb:n≤140737488351232):
  Calls Tryz.prog 68 #[.slice A n c,.slice A' m c'] w fun e w'=>e= .returned (.bool (decide (l=l')))∧Below w.heap.size w w':=by
 by_cases e:n=m
 ·subst e
  by_cases h0:n=0
  ·subst h0
   obtain rfl:=List.eq_nil_of_length_eq_zero hn
   obtain rfl:=List.eq_nil_of_length_eq_zero hm
   refine(Tryz.slices_Equal_string_empty A A' c 0 c' w (by decide)).mono ?_
   rintro e w' ⟨rfl,rfl⟩
   exact⟨rfl,Below.refl _ _⟩
  ·obtain⟨g,o,rfl,_,hc⟩:=h.at (by rw[List.length_map];omega)
   obtain⟨g',o',rfl,_,hc'⟩:=h'.at (by rw[List.length_map];omega)
   refine(Tryz.slices_Equal_string g o n c g' o' n c' l l' w (by omega) (by omega) (by omega) (by omega) (fun j hj=>hc j _ ?_) (fun j hj=>hc' j _ ?_)).mono ?_
   ·simp[List.getElem?_eq_getElem hj]
   ·simp[List.getElem?_eq_getElem hj]
   ·rintro e w' ⟨rfl,q,rfl⟩
    rw[List.take_of_length_le (by omega),List.take_of_length_le (by omega)]
    exact⟨rfl,drew_below w q⟩
 ·refine(Tryz.slices_Equal_string_lens A A' n c m c' w e).mono ?_
  rintro e w' ⟨rfl,rfl⟩
  refine⟨?_,Below.refl _ _⟩
  rw[decide_eq_false fun h=>e (by rw[←hn,←hm,h])]
theorem eqs_part (x y:Cf):((x.name.toList==y.name.toList)=false∧sameF x y=false)∨
  ((x.name.toList==y.name.toList)=true∧(x.params==y.params)=false∧sameF x y=false)∨
  ((x.name.toList==y.name.toList)=true∧(x.params==y.params)=true∧(x.slots==y.slots)=false∧sameF x y=false)∨
  ((x.name.toList==y.name.toList)=true∧(x.params==y.params)=true∧(x.slots==y.slots)=true∧(x.around==y.around)=false∧sameF x y=false)∨
  ((x.name.toList==y.name.toList)=true∧(x.params==y.params)=true∧(x.slots==y.slots)=true∧(x.around==y.around)=true∧(x.taken==y.taken)=false∧sameF x y=false)∨
  ((x.name.toList==y.name.toList)=true∧(x.params==y.params)=true∧(x.slots==y.slots)=true∧(x.around==y.around)=true∧(x.taken==y.taken)=true∧sameF x y=sameIs x.code y.code):=by
 have ht:x.name.toList=y.name.toList ↔ x.name=y.name:=⟨toList_inj,congrArg _⟩
 unfold sameF
 by_cases h2:x.name=y.name
 ·by_cases h3:x.params=y.params
  ·by_cases h4:x.slots=y.slots
   ·by_cases h5:x.around=y.around
    ·by_cases h1:x.taken=y.taken
     ·simp[h1,h2,h3,h4,h5]
     ·simp[h1,h2,h3,h4,h5]
    ·simp[h2,h3,h4,h5]
   ·simp[h2,h3,h4]
  ·simp[h2,h3]
 ·simp[h2,ht]
def funV (f:Cf) (v:Fv):Value:= .agg #[.string f.name,.int .i64 f.params,.int .i64 f.slots,.slice v.ta f.taken.length v.tc,.int .i64 f.around,.slice v.ca f.code.length v.cc]
theorem same1_any {w:World} {x y:Cf} {a b:Fv} (hx:LiesF w w.heap.size (x,a)) (hy:LiesF w w.heap.size (y,b)) (hok:CfOk x):
  Calls Tryz.prog 70 #[funV x a,funV y b] w fun e w'=>e= .returned (.bool (sameF x y))∧Below w.heap.size w w':=by
 obtain⟨R,hR⟩:∃R,sameF x y=R:=⟨_,rfl⟩
 have HPT:=Lib.hid (eqs_part x y)
 rw[hR] at HPT⊢
 unfold funV
 obtain⟨tn,htn⟩:∃tn,x.taken.length=tn:=⟨_,rfl⟩
 obtain⟨tn',htn'⟩:∃tn,y.taken.length=tn:=⟨_,rfl⟩
 obtain⟨cn,hcn⟩:∃cn,x.code.length=cn:=⟨_,rfl⟩
 obtain⟨cn',hcn'⟩:∃cn,y.code.length=cn:=⟨_,rfl⟩
 rw[htn,htn',hcn,hcn']
 have htb:tn≤140737488351232:=by rw[←htn];exact hok.2.2.2.2.1
 have hcb:cn≤140737488351232:=by rw[←hcn];exact hok.2.2.2.2.2.1
 have hB3:∀X:World,X=((w.alloc (.cells #[.string x.name,.int .i64 x.params,.int .i64 x.slots,.slice a.ta tn a.tc,.int .i64 x.around,.slice a.ca cn a.cc] 33 (0,0))).alloc (.cells #[.string y.name,.int .i64 y.params,.int .i64 y.slots,.slice b.ta tn' b.tc,.int .i64 y.around,.slice b.ca cn' b.cc] 33 (0,0)))→Below w.heap.size w X:=by
  rintro X rfl
  exact((Below.refl _ _).alloc (Nat.le_refl _) _).alloc (by simp) _
 have hx0:=heap_alloc_old (w.alloc (.cells #[.string x.name,.int .i64 x.params,.int .i64 x.slots,.slice a.ta tn a.tc,.int .i64 x.around,.slice a.ca cn a.cc] 33 (0,0))) (.cells #[.string y.name,.int .i64 y.params,.int .i64 y.slots,.slice b.ta tn' b.tc,.int .i64 y.around,.slice b.ca cn' b.cc] 33 (0,0)) (show w.heap.size<_ by simp)|>.trans (heap_alloc_new w _)
 have hy0:=heap_alloc_new (w.alloc (.cells #[.string x.name,.int .i64 x.params,.int .i64 x.slots,.slice a.ta tn a.tc,.int .i64 x.around,.slice a.ca cn a.cc] 33 (0,0))) (.cells #[.string y.name,.int .i64 y.params,.int .i64 y.slots,.slice b.ta tn' b.tc,.int .i64 y.around,.slice b.ca cn' b.cc] 33 (0,0))
 rw[World.size_alloc] at hy0
 have HN:=Lib.hid (And.intro htn (And.intro htn' (And.intro hcn hcn')))
 have HX:=Lib.hid hx
 have HY:=Lib.hid hy
 have FIN:=Lib.hid hB3
 clear htn htn' hcn hcn' hx hy hB3 hok hR
 go_enter Tryz.func70,Tryz.ntmps70
 go_upto_region 1 with fail
 have hw3:=FIN.out _ rfl
 obtain⟨W3,hW3⟩:∃W3,((w.alloc (.cells #[.string x.name,.int .i64 x.params,.int .i64 x.slots,.slice a.ta tn a.tc,.int .i64 x.around,.slice a.ca cn a.cc] 33 (0,0))).alloc (.cells #[.string y.name,.int .i64 y.params,.int .i64 y.slots,.slice b.ta tn' b.tc,.int .i64 y.around,.slice b.ca cn' b.cc] 33 (0,0)))=W3:=⟨_,rfl⟩
 simp only[hW3] at hw3 hx0 hy0⊢
 have t0:=fun k=>cell_of_row W3 w.heap.size k _ _ _ hx0
 have s0:=fun k=>cell_of_row W3 (w.heap.size+1) k _ _ _ hy0
 have a0:=t0 0
 have a1:=t0 1
 have a2:=t0 2
 have a3:=t0 3
 have a4:=t0 4
 have a5:=t0 5
 have b0:=s0 0
 have b1:=s0 1
 have b2:=s0 2
 have b3:=s0 3
 have b4:=s0 4
 have b5:=s0 5
 simp only[gq] at a0 a1 a2 a3 a4 a5 b0 b1 b2 b3 b4 b5
 have HW3:=Lib.hid hw3
 have HX3:=Lib.hid (HX.out.up hw3)
 have HY3:=Lib.hid (HY.out.up hw3)
 have HA5:=Lib.hid a5
 have HB5:=Lib.hid b5
 clear t0 s0 hx0 hy0 hw3 hW3 FIN a5 b5
 rcases HPT.out with⟨g0,hs⟩|⟨g0,g1,hs⟩|⟨g0,g1,g2,hs⟩|⟨g0,g1,g2,g3,hs⟩|⟨g0,g1,g2,g3,g4,hs⟩|⟨g0,g1,g2,g3,g4,hs⟩
 rotate_left 4
 ·subst hs
  go_wp2_with (go_at_call 71;refine(equalInts_any HN.out.1 HN.out.2.1 HX3.out.1 HY3.out.1 htb).mono ?_;rintro e w5 ⟨rfl,hb5⟩;rw[g4])
  go_ret
  exact⟨rfl,HW3.out.trans (hb5.mono HW3.out.size)⟩
 ·obtain⟨R2,hR2⟩:∃R2,sameIs x.code y.code=R2:=⟨_,rfl⟩
  rw[hR2] at hs
  subst hs
  have HR2:=Lib.hid hR2
  clear hR2
  go_wp2_with (first
   |(go_at_call 71;refine(equalInts_any HN.out.1 HN.out.2.1 HX3.out.1 HY3.out.1 htb).mono ?_;rintro e w5 ⟨rfl,hb5⟩;rw[g4];have A5:=old_cell0 HA5.out hb5;have B5:=old_cell0 HB5.out hb5;have HX5:=Lib.hid (HX3.out.up hb5);have HY5:=Lib.hid (HY3.out.up hb5))
   |(go_at_call 72;refine(equalIns_any HN.out.2.2.1 HN.out.2.2.2 HX5.out.2.1 HY5.out.2.1 hcb).mono ?_;rintro e w6 ⟨rfl,hb6⟩;rw[HR2.out]))
  go_ret
  exact⟨rfl,HW3.out.trans ((hb5.trans (hb6.mono hb5.size)).mono HW3.out.size)⟩
 all_goals
  subst hs
  go_wp2_with fail
  go_ret
  exact⟨rfl,HW3.out⟩
theorem equalFns_any {w:World} {p q:Cp} {n n' m m' fc fc':Nat} {fa fa' ga ga':Option Addr} {xs ys:List (Cf×Fv)} (hp:PgAt w p n m fa ga xs) (hq:PgAt w q n' m' fa' ga' ys) (hok:CpOk p):
  Calls Tryz.prog 69 #[.slice fa n fc,.slice fa' n' fc',.func (.func 70) #[] #[]] w fun e w'=>e= .returned (.bool (sameFs p.funcs q.funcs))∧Below w.heap.size w w':=by
 obtain⟨R,hR⟩:∃R,sameFs p.funcs q.funcs=R:=⟨_,rfl⟩
 rw[hR]
 have hn47:n≤140737488351232:=hp.fn▸hok.1
 have HP:=Lib.hid hp
 have HQ:=Lib.hid hq
 have HOK:=Lib.hid hok
 have HR:=Lib.hid hR
 clear hp hq hok hR
 by_cases e1:n=n'
 rotate_left
 ·have e1':((n:Int) !=(n':Int))=true:=by simp;omega
  have hR:R=false:=by
   rw[←HR.out,sameFs_len (by rw[HP.out.fn,HQ.out.fn];exact e1)]
  subst hR
  go_enter Tryz.func69,Tryz.ntmps69
  go_wp2_with fail
  go_ret
  exact⟨rfl,Below.refl _ _⟩
 subst e1
 have e1':((n:Int) !=(n:Int))=false:=by simp
 have hcall:∀(v u:Value) (w':World),(callFunc 70 #[v,u]).run Tryz.prog w'= .ok (.enter 70 #[v,u]) w':=fun v u w'=>enters_of Tryz.func70 (by kernel_rfl) rfl _ _
 go_enter Tryz.func69,Tryz.ntmps69
 go_wp2_with fail
 go_loopw [17] (fun i ws=>∃k:Nat,i= .int .i64 k∧k≤n∧Hid (Below w.heap.size w ws)∧Hid (sameFs (p.funcs.drop k) (q.funcs.drop k)=R)) (fun i _=>n-(intOf i).toNat)
 case atStart=>exact⟨0,rfl,Nat.zero_le _,Lib.hid (Below.refl _ _),by simpa using HR⟩
 case round=>
  obtain⟨k,rfl,hk,HB,HJ⟩:=hrel
  by_cases hkt:k<n
  ·obtain⟨x,hx⟩:∃x,p.funcs[k]? =some x:=⟨_,List.getElem?_eq_getElem (by rw[HP.out.fn];exact hkt)⟩
   obtain⟨y,hy⟩:∃y,q.funcs[k]? =some y:=⟨_,List.getElem?_eq_getElem (by rw[HQ.out.fn];exact hkt)⟩
   obtain⟨g,o,fv,rfl,hlx,x0,x1,x2,x3,x4,x5⟩:=HP.out.func hx
   obtain⟨g',o',fv',rfl,hly,y0,y1,y2,y3,y4,y5⟩:=HQ.out.func hy
   have c0:=old_cell0 x0 HB.out
   have c1:=old_cell0 x1 HB.out
   have c2:=old_cell0 x2 HB.out
   have c3:=old_cell0 x3 HB.out
   have c4:=old_cell0 x4 HB.out
   have c5:=old_cell0 x5 HB.out
   have d0:=old_cell0 y0 HB.out
   have d1:=old_cell0 y1 HB.out
   have d2:=old_cell0 y2 HB.out
   have d3:=old_cell0 y3 HB.out
   have d4:=old_cell0 y4 HB.out
   have d5:=old_cell0 y5 HB.out
   have hq:=HJ.out
   rw[drop_cons hx,drop_cons hy,sameFs_cons] at hq
   have HOX:=Lib.hid (HOK.out.2.2.1 x (List.mem_of_getElem? hx))
   have hB3:∀o1 o2,Below wr.heap.size wr ((wr.alloc o1).alloc o2):=fun o1 o2=>((Below.refl _ _).alloc (Nat.le_refl _) _).alloc (by simp) _
   have HB3:=Lib.hid hB3
   have HS1:Hid (∀W,Below wr.heap.size wr W→Calls Tryz.prog 70 #[.agg #[.string x.name,.int .i64 x.params,.int .i64 x.slots,.slice fv.ta x.taken.length fv.tc,.int .i64 x.around,.slice fv.ca x.code.length fv.cc],.agg #[.string y.name,.int .i64 y.params,.int .i64 y.slots,.slice fv'.ta y.taken.length fv'.tc,.int .i64 y.around,.slice fv'.ca y.code.length fv'.cc]] W fun e w'=>e= .returned (.bool (sameF x y))∧Below W.heap.size W w'):=
    Lib.hid fun W hb=>same1_any ((hlx.up HB.out).up hb) ((hly.up HB.out).up hb) HOX.out
   have HJ2:=Lib.hid hq
   clear hx hy x0 x1 x2 x3 x4 x5 y0 y1 y2 y3 y4 y5 hq hlx hly hB3
   obtain⟨tn,htn⟩:∃tn,x.taken.length=tn:=⟨_,rfl⟩
   obtain⟨tn',htn'⟩:∃tn,y.taken.length=tn:=⟨_,rfl⟩
   obtain⟨cn,hcn⟩:∃cn,x.code.length=cn:=⟨_,rfl⟩
   obtain⟨cn',hcn'⟩:∃cn,y.code.length=cn:=⟨_,rfl⟩
   rw[htn,htn',hcn,hcn'] at HS1
   rw[htn] at c3
   rw[htn'] at d3
   rw[hcn] at c5
   rw[hcn'] at d5
   clear htn htn' hcn hcn'
   have k3:=World.block_lt_of_cell? wr _ c0
   have k4:=World.block_lt_of_cell? wr _ d0
   dsimp only at k3 k4
   cases hs:sameF x y with
   |true=>
    rw[hs] at HS1 HJ2
    clear hs
    go_wp2_with (go_at_call 70;refine(HS1.out _ (HB3.out _ _)).mono ?_;rintro e w5 ⟨rfl,hb5⟩)
    go_roundw
    case rel=>exact⟨k+1,by simp,by omega,Lib.hid (HB.out.trans (((HB3.out _ _).trans (hb5.mono (HB3.out _ _).size)).mono HB.out.size)),HJ2⟩
    case measure=>simp[intOf];omega
   |false=>
    rw[hs] at HS1 HJ2
    clear hs
    obtain rfl:false=R:=HJ2.out
    go_wp2_with (go_at_call 70;refine(HS1.out _ (HB3.out _ _)).mono ?_;rintro e w5 ⟨rfl,hb5⟩)
    go_ret
    exact⟨rfl,HB.out.trans (((HB3.out _ _).trans (hb5.mono (HB3.out _ _).size)).mono HB.out.size)⟩
  ·obtain rfl:k=n:=by omega
   have hR:R=true:=by
    rw[←HJ.out,List.drop_of_length_le (by rw[HP.out.fn];exact Nat.le_refl _),List.drop_of_length_le (by rw[HQ.out.fn];exact Nat.le_refl _)]
    rfl
   subst hR
   go_wp2_with fail
   go_ret
   exact⟨rfl,HB.out⟩
theorem PgAt.up {w W:World} {p:Cp} {n m:Nat} {fa ga:Option Addr} {xs:List (Cf×Fv)} (h:PgAt w p n m fa ga xs) (hb:Below w.heap.size w W):PgAt W p n m fa ga xs:=
 ⟨h.fn,h.gn,h.fs,(h.fr.keep hb.block).more hb.size,(h.gr.keep hb.block).more hb.size,fun x hx=>(h.ls x hx).up hb⟩
theorem sameC_any {w:World} {p q:Cp} {v u:Value} (h:LiesC w w.heap.size p v) (h':LiesC w w.heap.size q u) (hok:CpOk p):
  Calls Tryz.prog 30 #[v,u] w fun e w'=>e= .returned (.bool (sameC p q))∧Below w.heap.size w w':=by
 obtain⟨n,m,fa,fc,ga,gc,xs,rfl,_,_,hp⟩:=h.pieces
 obtain⟨n',m',fa',fc',ga',gc',ys,rfl,_,_,hq⟩:=h'.pieces
 obtain⟨R,hR⟩:∃R,sameC p q=R:=⟨_,rfl⟩
 rw[hR]
 have hm47:m≤140737488351232:=hp.gn▸hok.2.1
 have hfin:∀X:World,X=(w.alloc (.cells #[.slice fa n fc,.slice ga m gc] 27 (0,0))).alloc (.cells #[.slice fa' n' fc',.slice ga' m' gc'] 27 (0,0))→Below w.heap.size w X:=by
  rintro X rfl
  exact((Below.refl _ _).alloc (Nat.le_refl _) _).alloc (by simp) _
 have HP:=Lib.hid hp
 have HQ:=Lib.hid hq
 have HOK:=Lib.hid hok
 have HR:Hid ((decide (p.globals=q.globals)&&sameFs p.funcs q.funcs)=R):=Lib.hid hR
 have FIN:=Lib.hid hfin
 clear h h' hp hq hok hR hfin
 go_enter Tryz.func30,Tryz.ntmps30
 go_upto_region 1 with fail
 have hW:=FIN.out _ rfl
 have hp0:=heap_alloc_old (w.alloc (.cells #[.slice fa n fc,.slice ga m gc] 27 (0,0))) (.cells #[.slice fa' n' fc',.slice ga' m' gc'] 27 (0,0)) (show w.heap.size<_ by simp)|>.trans (heap_alloc_new w _)
 have hq0:=heap_alloc_new (w.alloc (.cells #[.slice fa n fc,.slice ga m gc] 27 (0,0))) (.cells #[.slice fa' n' fc',.slice ga' m' gc'] 27 (0,0))
 rw[World.size_alloc] at hq0
 obtain⟨W2,hW2⟩:∃W2,(w.alloc (.cells #[.slice fa n fc,.slice ga m gc] 27 (0,0))).alloc (.cells #[.slice fa' n' fc',.slice ga' m' gc'] 27 (0,0))=W2:=⟨_,rfl⟩
 simp only[hW2] at hW hp0 hq0⊢
 obtain⟨p0,p1⟩:=cr2 W2 _ hp0
 obtain⟨q0,q1⟩:=cr2 W2 _ hq0
 simp only[gq] at p0 p1 q0 q1
 have HW:=Lib.hid hW
 have HP2:=Lib.hid (HP.out.up hW)
 have HQ2:=Lib.hid (HQ.out.up hW)
 have HC:=Lib.hid (And.intro p0 q0)
 clear hW hW2 hp0 hq0 FIN p0 q0
 by_cases hg:p.globals=q.globals
 ·have hd:decide (p.globals=q.globals)=true:=decide_eq_true hg
  rw[hd,Bool.true_and] at HR
  clear hg
  go_wp2_with (first
   |(go_at_call 68;refine(equalStrs_any HP2.out.gn HQ2.out.gn HP2.out.gr HQ2.out.gr hm47).mono ?_;rintro e w5 ⟨rfl,hb5⟩;rw[hd];have p0:=old_cell0 HC.out.1 hb5;have q0:=old_cell0 HC.out.2 hb5;have HP5:=Lib.hid (HP2.out.up hb5);have HQ5:=Lib.hid (HQ2.out.up hb5))
   |(go_at_call 69;refine(equalFns_any HP5.out HQ5.out HOK.out).mono ?_;rintro e w6 ⟨rfl,hb6⟩;rw[HR.out]))
  go_ret
  exact⟨rfl,HW.out.trans ((hb5.trans (hb6.mono hb5.size)).mono HW.out.size)⟩
 ·have hd:decide (p.globals=q.globals)=false:=decide_eq_false hg
  rw[hd,Bool.false_and] at HR
  obtain rfl:false=R:=HR.out
  clear hg
  go_wp2_with (go_at_call 68;refine(equalStrs_any HP2.out.gn HQ2.out.gn HP2.out.gr HQ2.out.gr hm47).mono ?_;rintro e w5 ⟨rfl,hb5⟩;rw[hd])
  go_ret
  exact⟨rfl,HW.out.trans (hb5.mono HW.out.size)⟩
end Go.Proofs.YtagnicbknbmccaaGreatDoor
