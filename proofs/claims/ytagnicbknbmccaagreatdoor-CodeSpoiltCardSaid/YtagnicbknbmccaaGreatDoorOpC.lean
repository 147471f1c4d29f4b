/- An argument of type code.Program is a program that lies in memory. -/
import Derived.Test.YtagnicbknbmccaaGreatDoorRows
import Derived.ChangeArms
import Derived.SizedLaws
import Derived.ProofKit
import Derived.OpenShut
import Derived.KernelRfl
import Derived.Lib.LaidTab
import Derived.Test.YtagnicbknbmccaaGreatDoorMCyA
namespace Go.Proofs.YtagnicbknbmccaaGreatDoor
open Go.RowKit Go.ChangeShapes Go.WideShapes Go.ChangeAt
theorem okI_wf {n:Int} (h:(Lit.int .i64 n).wf=true):okI n:=by
 unfold okI
 exact bounds_i64 h
theorem cells_at {W:World} {a:Addr} {k:Nat} {cs:List Value} (h:W.cells? 0 a k=some cs) (hk:0<k):∃b o,a=⟨b,o,none⟩∧cs.length=k∧∀(j:Nat) (v:Value),cs[j]? =some v→W.cell? ⟨b,o+j,none⟩=some v:=by
 obtain⟨b,o,sp⟩:=a
 unfold World.cells? at h
 rw[if_pos (Nat.zero_le _)] at h
 have hl:=Lib.mapM_length h
 rw[List.length_range] at hl
 have hat:=fun i hi=>Lib.mapM_at h i i (by rw[List.getElem?_range hi])
 have hs:sp=none:=by
  cases sp with
  |none=>rfl
  |some x=>
   exfalso
   obtain⟨v,_,hv⟩:=hat 0 hk
   rw[show(⟨b,o,some x⟩:Addr).add 0=⟨b,o,some x⟩ by simp[Addr.add]] at hv
   unfold World.cell? at hv
   split at hv<;>simp at hv
 subst hs
 refine⟨b,o,rfl,hl,fun j v hj=> ?_⟩
 have hjk:j<k:=by
  have:=(List.getElem?_eq_some_iff.1 hj).1
  omega
 obtain⟨u,hu,hc⟩:=hat j hjk
 rw[hj] at hu
 obtain rfl:=Option.some.inj hu
 rwa [Addr.add_lit] at hc
theorem choose_list {α:Type} {R:Nat→α→Prop}:∀n,(∀i,i<n→∃a,R i a)→∃l:List α,l.length=n∧∀(i:Nat) (a:α),l[i]? =some a→R i a
 |0,_=>⟨[],rfl,fun i a h=>by simp at h⟩
 |n+1,h=>by
  obtain⟨l,hl,hr⟩:=choose_list n fun i hi=>h i (by omega)
  obtain⟨a,ha⟩:=h n (by omega)
  refine⟨l++ [a],by simp[hl],fun i x hx=> ?_⟩
  by_cases hi:i<l.length
  ·rw[List.getElem?_append_left hi] at hx
   exact hr i x hx
  ·have hil:=(List.getElem?_eq_some_iff.1 hx).1
   simp at hil
   obtain rfl:i=n:=by omega
   rw[List.getElem?_append_right (by omega),hl,Nat.sub_self] at hx
   obtain rfl:=Option.some.inj hx
   exact ha
theorem wAll_mem {H:Type} {P:Program} {e:TypeId}:∀ {l:List (DataW H)} {i:Nat} {d:DataW H},l[i]? =some d→∀n∈d.weights P e,n∈DataW.weightsAll P e l
 |x::l,0,d,h,n,hn=>by
  simp at h;subst h
  simp only[DataW.weightsAll,List.mem_append];exact .inl hn
 |x::l,i+1,d,h,n,hn=>by
  simp only[DataW.weightsAll,List.mem_append];exact .inr (wAll_mem (l:=l) (i:=i) (by simpa using h) n hn)
theorem slice_row {H:Type} {enc:TypeId×Value→H} {P:Program} {W:World} {sp:Nat→Bool} {held:Bool} {α:Type} {T e:TypeId} {k:Nat} (hT:P.underlying T=some (.slice e)) (hk:P.cellsOf e=k) (hk0:0<k) (ec:α→List Value) (hec:∀x,(ec x).length=k) (Q:α→Prop)
  {fuel:Nat} {v:Value} {r:DataW H×List MemPlace} (h:DataW.trod enc P W 0 sp held fuel T [v]=some r) (hw:∀x∈r.1.weights P T,x≤reachBytes)
  (ih:∀f cs y,DataW.trod enc P W 0 sp held f e cs=some y→(∀x∈y.1.weights P e,x≤reachBytes)→∃a,cs=ec a∧Q a):
  ∃(A:Option Addr) (n cap:Nat) (l:List α),v= .slice A n cap∧n≤cap∧l.length=n∧RowIs W W.heap.size A (l.flatMap ec)∧(∀a∈l,Q a)∧n*P.bytesOf e≤reachBytes:=by
 rcases DataW.trod_slice hT h with⟨hc,_⟩|⟨ad,len,cap,elems,rest,f',rfl,hc,hy,_,hlc,hcm,hel,hE,_,_⟩
 ·simp only[List.cons.injEq,and_true] at hc
  subst hc
  exact⟨none,0,0,[],rfl,Nat.le_refl _,rfl,.inl rfl,(fun a ha=>nomatch ha),by simp⟩
 ·simp only[List.cons.injEq,and_true] at hc
  subst hc
  rw[hk] at hE
  have hwt:∀x,x=(elems.length+rest.length)*P.bytesOf e∨x∈DataW.weightsAll P e (elems.map (·.1))→x≤reachBytes:=by
   intro x hx
   apply hw
   rw[hy]
   simp only[DataW.weights,hT,List.mem_cons,List.mem_append,List.length_map]
   rcases hx with rfl|hx
   ·exact .inl rfl
   ·exact .inr (.inl hx)
  have hel2:∀i,i<len→∃a,(∃b o,ad.add (i*k)=⟨b,o,none⟩∧∀(j:Nat) (v:Value),(ec a)[j]? =some v→W.cell? ⟨b,o+j,none⟩=some v)∧Q a:=by
   intro i hi
   have h1:=hE i hi
   obtain⟨y,hy⟩:∃y,elems[i]? =some y:=⟨elems[i]'(by rw[hel];exact hi),List.getElem?_eq_getElem _⟩
   rw[hy] at h1
   obtain⟨cs,hcs,ht⟩:=Option.bind_eq_some_iff.1 h1
   obtain⟨a,rfl,hq⟩:=ih f' cs y ht (fun x hx=>hwt x (.inr (wAll_mem (i:=i) (d:=y.1) (by simp[hy]) x hx)))
   obtain⟨b,o,hb,_,hcc⟩:=cells_at hcs hk0
   exact⟨a,⟨b,o,hb,hcc⟩,hq⟩
  obtain⟨l,hl,hr⟩:=choose_list len hel2
  have hbytes:len*P.bytesOf e≤reachBytes:=Nat.le_trans (Nat.mul_le_mul_right _ (by omega)) (hwt _ (.inl rfl))
  refine⟨some ad,len,cap,l,rfl,hlc,hl, ?_,fun a ha=> ?_,hbytes⟩
  ·by_cases h0:len=0
   ·left
    rw[List.eq_nil_of_length_eq_zero (by omega:l.length=0)]
    rfl
   ·right
    obtain⟨a0,ha0⟩:∃a,l[0]? =some a:=⟨_,List.getElem?_eq_getElem (by omega)⟩
    obtain⟨⟨b,o,hb,hc0⟩,_⟩:=hr 0 a0 ha0
    have had:ad=⟨b,o,none⟩:=by
     have:ad.add (0*k)=ad:=by simp[Addr.add]
     rw[←this,hb]
    have hlt:b<W.heap.size:=by
     obtain⟨v,hv⟩:∃v,(ec a0)[0]? =some v:=⟨_,List.getElem?_eq_getElem (by rw[hec];exact hk0)⟩
     exact World.block_lt_of_cell? W _ (hc0 0 v hv)
    refine⟨b,o,by rw[had],hlt,fun j v hj=> ?_⟩
    have hjl:=(List.getElem?_eq_some_iff.1 hj).1
    rw[flat_len hec] at hjl
    have hdiv:j/k<l.length:=Nat.div_lt_of_lt_mul (by rw[Nat.mul_comm];exact hjl)
    obtain⟨x,hx⟩:∃x,l[j/k]? =some x:=⟨_,List.getElem?_eq_getElem hdiv⟩
    have hmod:=Nat.mod_lt j hk0
    have hjk:j=j/k*k+j % k:=by rw[Nat.mul_comm];exact(Nat.div_add_mod j k).symm
    rw[hjk,flat_at hec l (j/k) x hx _ hmod] at hj
    obtain⟨⟨b',o',hb',hcx⟩,_⟩:=hr (j/k) x hx
    rw[had,Addr.add_lit] at hb'
    simp only[Addr.mk.injEq,and_true] at hb'
    obtain⟨rfl,rfl⟩:=hb'
    have:=hcx _ _ hj
    rw[Nat.add_assoc,←hjk] at this
    exact this
  ·obtain⟨i,hi⟩:=List.getElem?_of_mem ha
   exact(hr i a hi).2
theorem cellsInt:Tryz.prog.cellsOf 3=1:=by kernel_rfl
theorem bytesInt:Tryz.prog.bytesOf 3=8:=by kernel_rfl
section
variable {H:Type} {enc:TypeId×Value→H} {W:World} {sp:Nat→Bool} {held:Bool}
theorem int_of {fuel:Nat} {T:TypeId} {cs:List Value} {r:DataW H×List MemPlace} (hT:Tryz.prog.underlying T=some (.int .i64)) (h:DataW.trod enc Tryz.prog W 0 sp held fuel T cs=some r):∃n,cs=[.int .i64 n]∧okI n:=by
 obtain⟨n,hn,_,wn⟩:=DataW.trod_int hT h
 exact⟨n,hn,okI_wf wn⟩
theorem ints_row {fuel:Nat} {v:Value} {r:DataW H×List MemPlace} (h:DataW.trod enc Tryz.prog W 0 sp held fuel 22 [v]=some r) (hw:∀x∈r.1.weights Tryz.prog 22,x≤reachBytes):
  ∃(A:Option Addr) (cap:Nat) (l:List Int),v= .slice A l.length cap∧l.length≤cap∧RowIs W W.heap.size A (l.map (Value.int .i64))∧(∀t∈l,okI t)∧l.length≤140737488351232:=by
 obtain⟨A,n,cap,l,rfl,hc,rfl,hr,hq,hb⟩:=slice_row Tryz.underlying22 cellsInt (by decide) (fun n:Int=> [Value.int .i64 n]) (fun _=>rfl) okI h hw (fun f cs y hy _=>int_of Tryz.underlying3 hy)
 refine⟨A,cap,l,rfl,hc, ?_,hq, ?_⟩
 ·rw[List.map_eq_flatMap];exact hr
 ·rw[bytesInt] at hb;unfold reachBytes at hb;omega
end
end Go.Proofs.YtagnicbknbmccaaGreatDoor
