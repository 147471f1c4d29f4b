/- An argument of type code.Program is a program that lies in memory; nothing in it is greater than its bulk. -/
import Derived.Test.YtagnicbknbmccaaGreatDoorRows
import Derived.ChangeArms
import Derived.SizedLaws
import Derived.ProofKit
import Derived.OpenShut
import Derived.KernelRfl
import Derived.Lib.LaidTab
import Derived.Test.YtagnicbknbmccaaGreatDoorMCyA
set_option maxRecDepth 100000
namespace Go.Proofs.YtagnicbknbmccaaGreatDoor
open Go.RowKit Go.ChangeShapes Go.WideShapes Go.ChangeAt
theorem okI_wfB {n:Int} (h:(Lit.int .i64 n).wf=true):okI n:=by
 unfold okI
 exact bounds_i64 h
theorem cells_atB {W:World} {a:Addr} {k:Nat} {cs:List Value} (h:W.cells? 0 a k=some cs) (hk:0<k):∃b o,a=⟨b,o,none⟩∧cs.length=k∧∀(j:Nat) (v:Value),cs[j]? =some v→W.cell? ⟨b,o+j,none⟩=some v:=by
 obtain⟨b,o,sp⟩:=a
 unfold World.cells? at h
 rw[if_pos (Nat.zero_le _)] at h
 have hl:=Lib.mapM_length h
 rw[List.length_range] at hl
 have hat:=fun i hi=>Lib.mapM_at h i i (by rw[List.getElem?_range hi])
 have hs:sp=none:=by
  cases sp with
  |none=>rfl
  |some x=>
   exfalso
   obtain⟨v,_,hv⟩:=hat 0 hk
   rw[show(⟨b,o,some x⟩:Addr).add 0=⟨b,o,some x⟩ by simp[Addr.add]] at hv
   unfold World.cell? at hv
   split at hv<;>simp at hv
 subst hs
 refine⟨b,o,rfl,hl,fun j v hj=> ?_⟩
 have hjk:j<k:=by
  have:=(List.getElem?_eq_some_iff.1 hj).1
  omega
 obtain⟨u,hu,hc⟩:=hat j hjk
 rw[hj] at hu
 obtain rfl:=Option.some.inj hu
 rwa [Addr.add_lit] at hc
theorem choose_listB {α:Type} {R:Nat→α→Prop}:∀n,(∀i,i<n→∃a,R i a)→∃l:List α,l.length=n∧∀(i:Nat) (a:α),l[i]? =some a→R i a
 |0,_=>⟨[],rfl,fun i a h=>by simp at h⟩
 |n+1,h=>by
  obtain⟨l,hl,hr⟩:=choose_listB n fun i hi=>h i (by omega)
  obtain⟨a,ha⟩:=h n (by omega)
  refine⟨l++ [a],by simp[hl],fun i x hx=> ?_⟩
  by_cases hi:i<l.length
  ·rw[List.getElem?_append_left hi] at hx
   exact hr i x hx
  ·have hil:=(List.getElem?_eq_some_iff.1 hx).1
   simp at hil
   obtain rfl:i=n:=by omega
   rw[List.getElem?_append_right (by omega),hl,Nat.sub_self] at hx
   obtain rfl:=Option.some.inj hx
   exact ha
def CiB (N:Nat) (x:Ci):Prop:=okI x.op∧okI x.a∧okI x.b∧okI x.at_∧x.text.size≤N
def CfB (N:Nat) (f:Cf):Prop:=f.name.size≤N∧okI f.params∧okI f.slots∧okI f.around∧f.taken.length≤N∧f.code.length≤N∧(∀t∈f.taken,okI t)∧∀x∈f.code,CiB N x
def CpB (N:Nat) (p:Cp):Prop:=p.funcs.length≤N∧p.globals.length≤N∧(∀f∈p.funcs,CfB N f)∧∀s∈p.globals,s.size≤N
theorem bulk_one {H:Type} (d:DataW H):1≤Rows.uptoBulk d:=by
 cases d with
 |lit l=>cases l<;>simp[Rows.uptoBulk]
 |nil=>simp[Rows.uptoBulk]
 |ptr d=>simp[Rows.uptoBulk]
 |slice elems spare=>simp[Rows.uptoBulk]
 |agg parts=>simp[Rows.uptoBulk]
 |iface t d=>simp[Rows.uptoBulk]
 |map entries=>simp[Rows.uptoBulk]
 |held h=>simp[Rows.uptoBulk]
theorem bulk_part {H:Type} {d:DataW H}:∀ {l:List (DataW H)},d∈l→Rows.uptoBulk d≤Rows.uptoBulkAll l
 |x::r,h=>by
  simp only[Rows.uptoBulkAll]
  rcases List.mem_cons.1 h with e|e
  ·subst e;omega
  ·have:=bulk_part e;omega
theorem bulk_len {H:Type}:∀l:List (DataW H),l.length≤Rows.uptoBulkAll l
 | []=>by simp[Rows.uptoBulkAll]
 |x::r=>by have:=bulk_one x;have:=bulk_len r;simp only[Rows.uptoBulkAll,List.length_cons];omega
theorem slice_rowB {H:Type} {enc:TypeId×Value→H} {P:Program} {W:World} {sp:Nat→Bool} {held:Bool} {α:Type} {T e:TypeId} {k:Nat} (hT:P.underlying T=some (.slice e)) (hk:P.cellsOf e=k) (hk0:0<k) (ec:α→List Value) (hec:∀x,(ec x).length=k) (Q:α→Prop) (N:Nat)
  {fuel:Nat} {v:Value} {r:DataW H×List MemPlace} (h:DataW.trod enc P W 0 sp held fuel T [v]=some r) (hw:Rows.uptoBulk r.1≤N)
  (ih:∀f cs y,DataW.trod enc P W 0 sp held f e cs=some y→Rows.uptoBulk y.1≤N→∃a,cs=ec a∧Q a):
  ∃(A:Option Addr) (n cap:Nat) (l:List α),v= .slice A n cap∧n≤cap∧l.length=n∧RowIs W W.heap.size A (l.flatMap ec)∧(∀a∈l,Q a)∧n≤N:=by
 rcases DataW.trod_slice hT h with⟨hc,_⟩|⟨ad,len,cap,elems,rest,f',rfl,hc,hy,_,hlc,hcm,hel,hE,_,_⟩
 ·simp only[List.cons.injEq,and_true] at hc
  subst hc
  exact⟨none,0,0,[],rfl,Nat.le_refl _,rfl,.inl rfl,(fun a ha=>nomatch ha),by simp⟩
 ·simp only[List.cons.injEq,and_true] at hc
  subst hc
  rw[hk] at hE
  rw[hy] at hw
  simp only[Rows.uptoBulk] at hw
  have hlen:len≤N:=by
   have:=bulk_len (elems.map (·.1))
   rw[List.length_map] at this
   omega
  have hel2:∀i,i<len→∃a,(∃b o,ad.add (i*k)=⟨b,o,none⟩∧∀(j:Nat) (v:Value),(ec a)[j]? =some v→W.cell? ⟨b,o+j,none⟩=some v)∧Q a:=by
   intro i hi
   have h1:=hE i hi
   obtain⟨y,hy⟩:∃y,elems[i]? =some y:=⟨elems[i]'(by rw[hel];exact hi),List.getElem?_eq_getElem _⟩
   rw[hy] at h1
   obtain⟨cs,hcs,ht⟩:=Option.bind_eq_some_iff.1 h1
   obtain⟨a,rfl,hq⟩:=ih f' cs y ht (by have:=bulk_part (List.mem_map.2 ⟨y,List.mem_of_getElem? hy,rfl⟩:y.1∈elems.map (·.1));omega)
   obtain⟨b,o,hb,_,hcc⟩:=cells_atB hcs hk0
   exact⟨a,⟨b,o,hb,hcc⟩,hq⟩
  obtain⟨l,hl,hr⟩:=choose_listB len hel2
  refine⟨some ad,len,cap,l,rfl,hlc,hl, ?_,fun a ha=> ?_,hlen⟩
  ·by_cases h0:len=0
   ·left
    rw[List.eq_nil_of_length_eq_zero (by omega:l.length=0)]
    rfl
   ·right
    obtain⟨a0,ha0⟩:∃a,l[0]? =some a:=⟨_,List.getElem?_eq_getElem (by omega)⟩
    obtain⟨⟨b,o,hb,hc0⟩,_⟩:=hr 0 a0 ha0
    have had:ad=⟨b,o,none⟩:=by
     have:ad.add (0*k)=ad:=by simp[Addr.add]
     rw[←this,hb]
    have hlt:b<W.heap.size:=by
     obtain⟨v,hv⟩:∃v,(ec a0)[0]? =some v:=⟨_,List.getElem?_eq_getElem (by rw[hec];exact hk0)⟩
     exact World.block_lt_of_cell? W _ (hc0 0 v hv)
    refine⟨b,o,by rw[had],hlt,fun j v hj=> ?_⟩
    have hjl:=(List.getElem?_eq_some_iff.1 hj).1
    rw[flat_len hec] at hjl
    have hdiv:j/k<l.length:=Nat.div_lt_of_lt_mul (by rw[Nat.mul_comm];exact hjl)
    obtain⟨x,hx⟩:∃x,l[j/k]? =some x:=⟨_,List.getElem?_eq_getElem hdiv⟩
    have hmod:=Nat.mod_lt j hk0
    have hjk:j=j/k*k+j % k:=by rw[Nat.mul_comm];exact(Nat.div_add_mod j k).symm
    rw[hjk,flat_at hec l (j/k) x hx _ hmod] at hj
    obtain⟨⟨b',o',hb',hcx⟩,_⟩:=hr (j/k) x hx
    rw[had,Addr.add_lit] at hb'
    simp only[Addr.mk.injEq,and_true] at hb'
    obtain⟨rfl,rfl⟩:=hb'
    have:=hcx _ _ hj
    rw[Nat.add_assoc,←hjk] at this
    exact this
  ·obtain⟨i,hi⟩:=List.getElem?_of_mem ha
   exact(hr i a hi).2
theorem cellsIntB:Tryz.prog.cellsOf 3=1:=by kernel_rfl
theorem cellsOpB:Tryz.prog.cellsOf 34=1:=by kernel_rfl
theorem cellsStrB:Tryz.prog.cellsOf 9=1:=by kernel_rfl
theorem cellsInsB:Tryz.prog.cellsOf 36=5:=by kernel_rfl
theorem cellsFunB:Tryz.prog.cellsOf 33=6:=by kernel_rfl
theorem cellsPrgB:Tryz.prog.cellsOf 27=2:=by kernel_rfl
theorem cellsSl1B:Tryz.prog.cellsOf 22=1:=by kernel_rfl
theorem cellsSl2B:Tryz.prog.cellsOf 31=1:=by kernel_rfl
theorem cellsSl3B:Tryz.prog.cellsOf 24=1:=by kernel_rfl
theorem cellsSl4B:Tryz.prog.cellsOf 25=1:=by kernel_rfl
section
variable {H:Type} {enc:TypeId×Value→H} {W:World} {sp:Nat→Bool} {held:Bool} {N:Nat}
theorem int_ofB {fuel:Nat} {T:TypeId} {cs:List Value} {r:DataW H×List MemPlace} (hT:Tryz.prog.underlying T=some (.int .i64)) (h:DataW.trod enc Tryz.prog W 0 sp held fuel T cs=some r):∃n,cs=[.int .i64 n]∧okI n:=by
 obtain⟨n,hn,_,wn⟩:=DataW.trod_int hT h
 exact⟨n,hn,okI_wfB wn⟩
theorem str_ofB {fuel:Nat} {cs:List Value} {r:DataW H×List MemPlace} (h:DataW.trod enc Tryz.prog W 0 sp held fuel 9 cs=some r) (hw:Rows.uptoBulk r.1≤N):∃s,cs=[.string s]∧s.size≤N:=by
 obtain⟨s,hs,hy,_⟩:=DataW.trod_string Tryz.underlying9 h
 refine⟨s,hs, ?_⟩
 rw[hy] at hw
 simp only[Rows.uptoBulk,Array.length_toList] at hw
 show s.data.size≤N
 omega
theorem each_leB {xs:List (DataW H×List MemPlace)} (hw:Rows.uptoBulk (DataW.agg (xs.map (·.1)):DataW H)≤N) {j:Nat} {y:DataW H×List MemPlace} (hy:xs[j]? =some y):Rows.uptoBulk y.1≤N:=by
 simp only[Rows.uptoBulk] at hw
 have:=bulk_part (List.mem_map.2 ⟨y,List.mem_of_getElem? hy,rfl⟩:y.1∈xs.map (·.1))
 omega
theorem ints_rowB {fuel:Nat} {v:Value} {r:DataW H×List MemPlace} (h:DataW.trod enc Tryz.prog W 0 sp held fuel 22 [v]=some r) (hw:Rows.uptoBulk r.1≤N):
  ∃(A:Option Addr) (cap:Nat) (l:List Int),v= .slice A l.length cap∧l.length≤cap∧RowIs W W.heap.size A (l.map (Value.int .i64))∧(∀t∈l,okI t)∧l.length≤N:=by
 obtain⟨A,n,cap,l,rfl,hc,rfl,hr,hq,hb⟩:=slice_rowB Tryz.underlying22 cellsIntB (by decide) (fun n:Int=> [Value.int .i64 n]) (fun _=>rfl) okI N h hw (fun f cs y hy _=>int_ofB Tryz.underlying3 hy)
 refine⟨A,cap,l,rfl,hc, ?_,hq, ?_⟩
 ·rw[List.map_eq_flatMap];exact hr
 ·exact hb
theorem strs_rowB {fuel:Nat} {v:Value} {r:DataW H×List MemPlace} (h:DataW.trod enc Tryz.prog W 0 sp held fuel 25 [v]=some r) (hw:Rows.uptoBulk r.1≤N):
  ∃(A:Option Addr) (cap:Nat) (l:List ByteArray),v= .slice A l.length cap∧l.length≤cap∧RowIs W W.heap.size A (l.map Value.string)∧(∀s∈l,s.size≤N)∧l.length≤N:=by
 obtain⟨A,n,cap,l,rfl,hc,rfl,hr,hq,hb⟩:=slice_rowB Tryz.underlying25 cellsStrB (by decide) (fun s:ByteArray=> [Value.string s]) (fun _=>rfl) (fun s=>s.size≤N) N h hw (fun f cs y hy hw=>str_ofB hy hw)
 refine⟨A,cap,l,rfl,hc, ?_,hq, ?_⟩
 ·rw[List.map_eq_flatMap];exact hr
 ·exact hb
theorem ins_ofB {fuel:Nat} {cs:List Value} {r:DataW H×List MemPlace} (h:DataW.trod enc Tryz.prog W 0 sp held fuel 36 cs=some r) (hw:Rows.uptoBulk r.1≤N):∃x:Ci,cs=insCells x∧CiB N x:=by
 obtain⟨xs,f,rfl,rfl,hlen,hxl,hf⟩:=DataW.trod_struct Tryz.underlying36 h
 rw[cellsInsB] at hlen
 obtain⟨c0,c1,c2,c3,c4,rfl⟩:∃c0 c1 c2 c3 c4,cs=[c0,c1,c2,c3,c4]:=by
  match cs,hlen with
  | [a,b,c,d,e],_=>exact⟨a,b,c,d,e,rfl⟩
 have f0:DataW.trod enc Tryz.prog W 0 sp held f 34 [c0]=xs[0]? :=by have:=hf 0 _ rfl;simpa[cellsOpB] using this
 have f1:DataW.trod enc Tryz.prog W 0 sp held f 3 [c1]=xs[1]? :=by have:=hf 1 _ rfl;simpa[cellsIntB] using this
 have f2:DataW.trod enc Tryz.prog W 0 sp held f 3 [c2]=xs[2]? :=by have:=hf 2 _ rfl;simpa[cellsIntB] using this
 have f3:DataW.trod enc Tryz.prog W 0 sp held f 9 [c3]=xs[3]? :=by have:=hf 3 _ rfl;simpa[cellsStrB] using this
 have f4:DataW.trod enc Tryz.prog W 0 sp held f 3 [c4]=xs[4]? :=by have:=hf 4 _ rfl;simpa[cellsIntB] using this
 have hx:∀i,i<5→∃y,xs[i]? =some y:=fun i hi=>⟨xs[i]'(by rw[hxl];exact hi),List.getElem?_eq_getElem _⟩
 obtain⟨y0,e0⟩:=hx 0 (by omega)
 obtain⟨y1,e1⟩:=hx 1 (by omega)
 obtain⟨y2,e2⟩:=hx 2 (by omega)
 obtain⟨y3,e3⟩:=hx 3 (by omega)
 obtain⟨y4,e4⟩:=hx 4 (by omega)
 rw[e0] at f0
 rw[e1] at f1
 rw[e2] at f2
 rw[e3] at f3
 rw[e4] at f4
 obtain⟨o,ho,ok0⟩:=int_ofB Tryz.underlying34 f0
 obtain⟨a,ha,ok1⟩:=int_ofB Tryz.underlying3 f1
 obtain⟨b,hb,ok2⟩:=int_ofB Tryz.underlying3 f2
 obtain⟨s,hs,ok3⟩:=str_ofB f3 (each_leB hw e3)
 obtain⟨t,ht,ok4⟩:=int_ofB Tryz.underlying3 f4
 simp only[List.cons.injEq,and_true] at ho ha hb hs ht
 subst ho ha hb hs ht
 exact⟨⟨o,a,b,s,t⟩,rfl,ok0,ok1,ok2,ok4,ok3⟩
theorem inss_rowB {fuel:Nat} {v:Value} {r:DataW H×List MemPlace} (h:DataW.trod enc Tryz.prog W 0 sp held fuel 31 [v]=some r) (hw:Rows.uptoBulk r.1≤N):
  ∃(A:Option Addr) (cap:Nat) (l:List Ci),v= .slice A l.length cap∧l.length≤cap∧RowIs W W.heap.size A (l.flatMap insCells)∧(∀x∈l,CiB N x)∧l.length≤N:=by
 obtain⟨A,n,cap,l,rfl,hc,rfl,hr,hq,hb⟩:=slice_rowB Tryz.underlying31 cellsInsB (by decide) insCells ins_len (CiB N) N h hw (fun f cs y hy hw=>ins_ofB hy hw)
 exact⟨A,cap,l,rfl,hc,hr,hq,hb⟩
theorem fun_ofB {fuel:Nat} {cs:List Value} {r:DataW H×List MemPlace} (h:DataW.trod enc Tryz.prog W 0 sp held fuel 33 cs=some r) (hw:Rows.uptoBulk r.1≤N):∃x:Cf×Fv,cs=fnCells x∧(LiesF W W.heap.size x∧CfB N x.1):=by
 obtain⟨xs,f,rfl,rfl,hlen,hxl,hf⟩:=DataW.trod_struct Tryz.underlying33 h
 rw[cellsFunB] at hlen
 obtain⟨c0,c1,c2,c3,c4,c5,rfl⟩:∃c0 c1 c2 c3 c4 c5,cs=[c0,c1,c2,c3,c4,c5]:=by
  match cs,hlen with
  | [a,b,c,d,e,f],_=>exact⟨a,b,c,d,e,f,rfl⟩
 have f0:DataW.trod enc Tryz.prog W 0 sp held f 9 [c0]=xs[0]? :=by have:=hf 0 _ rfl;simpa[cellsStrB] using this
 have f1:DataW.trod enc Tryz.prog W 0 sp held f 3 [c1]=xs[1]? :=by have:=hf 1 _ rfl;simpa[cellsIntB] using this
 have f2:DataW.trod enc Tryz.prog W 0 sp held f 3 [c2]=xs[2]? :=by have:=hf 2 _ rfl;simpa[cellsIntB] using this
 have f3:DataW.trod enc Tryz.prog W 0 sp held f 22 [c3]=xs[3]? :=by have:=hf 3 _ rfl;simpa[cellsSl1B] using this
 have f4:DataW.trod enc Tryz.prog W 0 sp held f 3 [c4]=xs[4]? :=by have:=hf 4 _ rfl;simpa[cellsIntB] using this
 have f5:DataW.trod enc Tryz.prog W 0 sp held f 31 [c5]=xs[5]? :=by have:=hf 5 _ rfl;simpa[cellsSl2B] using this
 have hx:∀i,i<6→∃y,xs[i]? =some y:=fun i hi=>⟨xs[i]'(by rw[hxl];exact hi),List.getElem?_eq_getElem _⟩
 obtain⟨y0,e0⟩:=hx 0 (by omega)
 obtain⟨y1,e1⟩:=hx 1 (by omega)
 obtain⟨y2,e2⟩:=hx 2 (by omega)
 obtain⟨y3,e3⟩:=hx 3 (by omega)
 obtain⟨y4,e4⟩:=hx 4 (by omega)
 obtain⟨y5,e5⟩:=hx 5 (by omega)
 rw[e0] at f0
 rw[e1] at f1
 rw[e2] at f2
 rw[e3] at f3
 rw[e4] at f4
 rw[e5] at f5
 obtain⟨s,hs,ok0⟩:=str_ofB f0 (each_leB hw e0)
 obtain⟨a,ha,ok1⟩:=int_ofB Tryz.underlying3 f1
 obtain⟨b,hb,ok2⟩:=int_ofB Tryz.underlying3 f2
 obtain⟨ta,tc,tl,ht,hc3,hr3,hq3,hb3⟩:=ints_rowB f3 (each_leB hw e3)
 obtain⟨t,htt,ok4⟩:=int_ofB Tryz.underlying3 f4
 obtain⟨ca,cc,cl,hcl,hc5,hr5,hq5,hb5⟩:=inss_rowB f5 (each_leB hw e5)
 simp only[List.cons.injEq,and_true] at hs ha hb htt
 subst hs ha hb htt ht hcl
 exact⟨(⟨s,a,b,tl,t,cl⟩,⟨ta,tc,ca,cc⟩),rfl,⟨hr3,hr5,hc3,hc5⟩,ok0,ok1,ok2,ok4,hb3,hb5,hq3,hq5⟩
theorem prog_ofB {fuel:Nat} {cs:List Value} {r:DataW H×List MemPlace} (h:DataW.trod enc Tryz.prog W 0 sp held fuel 27 cs=some r) (hw:Rows.uptoBulk r.1≤N):∃(p:Cp) (c0 c1:Value),cs=[c0,c1]∧LiesC W W.heap.size p (.agg #[c0,c1])∧CpB N p:=by
 obtain⟨xs,f,rfl,rfl,hlen,hxl,hf⟩:=DataW.trod_struct Tryz.underlying27 h
 rw[cellsPrgB] at hlen
 obtain⟨c0,c1,rfl⟩:∃c0 c1,cs=[c0,c1]:=by
  match cs,hlen with
  | [a,b],_=>exact⟨a,b,rfl⟩
 have f0:DataW.trod enc Tryz.prog W 0 sp held f 24 [c0]=xs[0]? :=by have:=hf 0 _ rfl;simpa[cellsSl3B] using this
 have f1:DataW.trod enc Tryz.prog W 0 sp held f 25 [c1]=xs[1]? :=by have:=hf 1 _ rfl;simpa[cellsSl4B] using this
 have hx:∀i,i<2→∃y,xs[i]? =some y:=fun i hi=>⟨xs[i]'(by rw[hxl];exact hi),List.getElem?_eq_getElem _⟩
 obtain⟨y0,e0⟩:=hx 0 (by omega)
 obtain⟨y1,e1⟩:=hx 1 (by omega)
 rw[e0] at f0
 rw[e1] at f1
 obtain⟨fa,n,fc,l,rfl,hc0,rfl,hr0,hq0,hb0⟩:=slice_rowB Tryz.underlying24 cellsFunB (by decide) fnCells fn_len (fun x=>LiesF W W.heap.size x∧CfB N x.1) N f0 (each_leB hw e0) (fun f cs y hy hw=>fun_ofB hy hw)
 obtain⟨ga,gc,gl,rfl,hc1,hr1,hq1,hb1⟩:=strs_rowB f1 (each_leB hw e1)
 refine⟨⟨l.map Prod.fst,gl⟩,_,_,rfl,⟨fa,fc,ga,gc,l,rfl,by simp,hr0,hr1,by simpa using hc0,hc1,fun x hx=>(hq0 x hx).1⟩,by simpa using hb0,hb1,fun f hf=> ?_,hq1⟩
 obtain⟨x,hx,rfl⟩:=List.mem_map.1 hf
 exact(hq0 x hx).2
end
theorem prog_argB {N:Nat} {H:Type} {enc:TypeId×Value→H} {W:World} {b0:Nat} {v:Value} {d:DataW H} {p:List MemPlace} (hv:Value.okWide Tryz.prog W .any b0 27 v)
  (h:DataW.Trod enc Tryz.prog W 0 (fun _=>true) true 27 v d p) (hw:Rows.uptoBulk d≤N):∃q:Cp,LiesC W W.heap.size q v∧CpB N q:=by
 obtain⟨cs,rfl,hsz⟩:=okWide_struct Tryz.underlying27 hv
 obtain⟨fuel,hf⟩:=h
 obtain⟨q,c0,c1,e,hl,hok⟩:=prog_ofB (enc:=enc) (W:=W) (sp:=fun _=>true) (held:=true) (fuel:=fuel) (cs:=cs.toList) (r:=(d,p)) hf hw
 have e':cs= #[c0,c1]:=by
  apply Array.toList_inj.1
  exact e
 subst e'
 exact⟨q,hl,hok⟩
end Go.Proofs.YtagnicbknbmccaaGreatDoor
