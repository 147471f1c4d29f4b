/- What guiseref13 says of an instruction's text and numbers, in plain form: it is what the program says. guiseref13.float and declared in plain form. Rows of digits of one length: the order of texts is the order of the numbers. The stack check of a function in plain form: it is the run that looks at the first instruction that can be next. -/
import Derived.Test.YtagnicbknbmccaaGreatDoorMScanA
import Derived.Test.YtagnicbknbmccaaGreatDoorMCwF
namespace Go.Proofs.YtagnicbknbmccaaGreatDoor
theorem nodup_iff:∀l:List (List UInt8),nodup l=true ↔ ∀(i j:Nat) (a b:List UInt8),i<j→l[i]? =some a→l[j]? =some b→a≠b
 | []=>⟨fun _ i j a b _ h=>by simp at h,fun _=>rfl⟩
 |x::r=>by
  rw[nodup,Bool.and_eq_true,nodup_iff r]
  constructor
  ·rintro⟨h1,h2⟩ i j a b hij hi hj
   cases j with
   |zero=>omega
   |succ j=>
    rw[List.getElem?_cons_succ] at hj
    cases i with
    |zero=>
     rw[List.getElem?_cons_zero] at hi
     obtain rfl:=Option.some.inj hi
     intro e
     subst e
     have:=List.mem_of_getElem? hj
     simp[this] at h1
    |succ i=>
     rw[List.getElem?_cons_succ] at hi
     exact h2 i j a b (by omega) hi hj
  ·intro h
   refine⟨?_,fun i j a b hij hi hj=>h (i+1) (j+1) a b (by omega) hi hj⟩
   cases hc:r.contains x with
   |false=>rfl
   |true=>
    have hm:x∈r:=by simpa using hc
    obtain⟨j,hj⟩:=List.getElem?_of_mem hm
    exact absurd rfl (h 0 (j+1) x x (by omega) rfl hj)
theorem name_lenR {s:List UInt8} (h:nameL s=true):s.length≤40:=by
 unfold nameL nameB at h
 simp only[Bool.and_eq_true,decide_eq_true_eq] at h
 exact h.2.2.1
theorem name_any:nameL [97,110,121]=false:=by kernel_rfl
theorem split_sum (c:UInt8):∀s:List UInt8,s.length+1=((splitC c s).map fun t=>t.length+1).sum
 | []=>by simp[splitC]
 |x::r=>by
  have ih:=split_sum c r
  rw[splitC]
  split
  ·simp only[List.map_cons,List.sum_cons,List.length_nil,List.length_cons]
   omega
  ·split
   ·rename_i h
    rw[h] at ih
    simp at ih
   ·rename_i y ys h
    rw[h] at ih
    simp only[List.map_cons,List.sum_cons,List.length_cons] at ih⊢
    omega
theorem sum_le:∀l:List (List UInt8),(∀t∈l,t.length≤40)→(l.map fun t=>t.length+1).sum≤41*l.length
 | [],_=>by simp
 |t::r,h=>by
  have h1:=h t (List.mem_cons_self ..)
  have h2:=sum_le r fun x hx=>h x (List.mem_cons_of_mem _ hx)
  simp only[List.map_cons,List.sum_cons,List.length_cons]
  omega
def namesR (s:List UInt8) (n:Int) (u:Nat):Bool:=decide (s.length≤2000)&&(decide (((splitC 32 s).length:Int)=n)&&((splitC 32 s).all nameL&&nodup ((splitC 32 s).drop u)))
theorem names_short {s:List UInt8} (h:(splitC 32 s).all nameL=true) (hn:(splitC 32 s).length≤31):s.length≤2000:=by
 have h1:=split_sum 32 s
 have h2:=sum_le (splitC 32 s) fun t ht=>name_lenR (List.all_eq_true.1 h t ht)
 omega
theorem namesR_fields (s:List UInt8) (n:Int) (hn:n≤31):namesR s n 1=namesB s n:=by
 unfold namesR namesB
 cases ha:(splitC 32 s).all nameL with
 |false=>simp
 |true=>
  by_cases hl:((splitC 32 s).length:Int)=n
  ·have:=names_short ha (by omega)
   simp[hl,this]
  ·simp[hl]
theorem namesR_two (s:List UInt8):namesR s 2 2=namesB s 2:=by
 unfold namesR namesB
 cases ha:(splitC 32 s).all nameL with
 |false=>simp
 |true=>
  by_cases hl:((splitC 32 s).length:Int)=2
  ·have:=names_short ha (by omega)
   have hl2:(splitC 32 s).length=2:=by omega
   match hs:splitC 32 s,hl2 with
   | [a,b],_=>simp[this,nodup]
  ·simp[hl]
def someR (s:List UInt8) (ptr:Int) (all:Bool):Bool:=
 if ptr=1 then nameL s else(nameL s||s==[97,110,121]||s==[109,97,112]||s==[102,117,110,99])&&(all|| !(s==[97,110,121]))
theorem someR_eq (s:List UInt8) (ptr:Int) (all:Bool):someR s ptr all=typedB s (ptr==1) all:=by
 unfold someR typedB
 by_cases h1:ptr=1
 ·subst h1
  simp
 ·have h2:(ptr==1)=false:=by simpa using h1
  rw[if_neg h1,h2]
  by_cases h3:s=[97,110,121]
  ·subst h3
   rw[name_any]
   cases all<;>rfl
  ·have h4:(s==[97,110,121])=false:=by simpa using h3
   rw[h4]
   cases nameL s<;>cases all<;>simp
theorem hexV_lt {c:UInt8} {d:Nat} (h:hexV c=some d):d<16:=by
 unfold hexV at h
 split at h
 ·injection h;omega
 ·split at h
  ·injection h;omega
  ·cases h
theorem hexV_inj {c c':UInt8} {d:Nat} (h:hexV c=some d) (h':hexV c'=some d):c=c':=by
 apply UInt8.toNat_inj.1
 unfold hexV at h h'
 split at h
 ·split at h'
  ·injection h with h;injection h' with h';omega
  ·split at h'
   ·injection h with h;injection h' with h';omega
   ·cases h'
 ·split at h
  ·split at h'
   ·injection h with h;injection h' with h';omega
   ·split at h'
    ·injection h with h;injection h' with h';omega
    ·cases h'
  ·cases h
theorem hex_inj:∀(s t:List UInt8) (n m a:Nat),s.length=t.length→hexNum s n=some a→hexNum t m=some a→n=m∧s=t
 | [],[],n,m,a,_,h,h'=>by
  rw[hexNum] at h h'
  injection h with h
  injection h' with h'
  exact⟨h.trans h'.symm,rfl⟩
 | [],_::_,_,_,_,h,_,_=>by cases h
 |_::_,[],_,_,_,h,_,_=>by cases h
 |c::r,c'::r',n,m,a,hl,h,h'=>by
  rw[hexNum] at h h'
  cases hc:hexV c with
  |none=>rw[hc] at h;cases h
  |some d=>
   cases hc':hexV c' with
   |none=>rw[hc'] at h';cases h'
   |some d'=>
    rw[hc] at h
    rw[hc'] at h'
    obtain⟨e1,e2⟩:=hex_inj r r' _ _ a (by simpa using hl) h h'
    have l1:=hexV_lt hc
    have l2:=hexV_lt hc'
    obtain rfl:d=d':=by omega
    exact⟨by omega,by rw[hexV_inj hc hc',e2]⟩
theorem hex_nan:hexNum [55,102,102,56,48,48,48,48,48,48,48,48,48,48,48,49] 0=some 0x7FF8000000000001:=by kernel_rfl
def floatR (s:List UInt8):Bool:=decide (s.length=16)&&match hexNum s 0 with
 |none=>false
 |some n=> !(n/4503599627370496 % 2048==2047&& !(n % 4503599627370496==0))||s==[55,102,102,56,48,48,48,48,48,48,48,48,48,48,48,49]
theorem floatR_eq (s:List UInt8):floatR s=floatBitsB s:=by
 unfold floatR floatBitsB
 by_cases hl:s.length=16
 ·cases h:hexNum s 0 with
  |none=>rfl
  |some n=>
   have e:(s==[55,102,102,56,48,48,48,48,48,48,48,48,48,48,48,49])=(n==0x7FF8000000000001):=by
    rw[Bool.eq_iff_iff]
    simp only[beq_iff_eq]
    constructor
    ·intro e
     rw[e,hex_nan] at h
     exact(Option.some.inj h).symm
    ·intro e
     subst e
     exact(hex_inj s [55,102,102,56,48,48,48,48,48,48,48,48,48,48,48,49] 0 0 _ (by rw[hl];rfl) h hex_nan).2
   simp only[e]
 ·simp[hl]
def declaredR (s:List UInt8):Bool:=match cutAt 46 s with
 |(t,some m)=>if t.length≤81 then nameL t&&nameL m else nameL s
 |(_,none)=>nameL s
theorem declaredR_eq (s:List UInt8):declaredR s=declaredB s:=by
 have h1:=cutAt_spec 46 s
 unfold declaredR declaredB
 obtain⟨t,o,e⟩:∃t o,cutAt 46 s=(t,o):=⟨_,_,rfl⟩
 rw[e] at h1⊢
 simp only at h1
 cases o with
 |none=>rw[(h1.1 rfl).1]
 |some m=>
  dsimp only
  split
  ·rfl
  ·rename_i hn
   have hs:=(h1.2 m rfl).2
   have e1:nameL t=false:=by
    cases h:nameL t with
    |false=>rfl
    |true=>have:=name_lenR h;omega
   have e2:nameL s=false:=by
    cases h:nameL s with
    |false=>rfl
    |true=>
     have:=name_lenR h
     rw[hs,List.length_append,List.length_cons] at this
     omega
   rw[e1,e2]
   rfl
theorem dl_ge:∀(l:List UInt8) (n:Nat),n*10^l.length≤digitsLoop l n
 | [],n=>by simp[digitsLoop]
 |c::r,n=>by
  have ih:=dl_ge r (10*n+(c.toNat-48))
  show _≤digitsLoop r (10*n+(c.toNat-48))
  refine Nat.le_trans ?_ ih
  rw[List.length_cons,Nat.pow_succ,Nat.mul_comm (10^r.length) 10,←Nat.mul_assoc]
  exact Nat.mul_le_mul_right _ (by omega)
theorem dl_lt_lt {a b:List UInt8} (hl:a.length=b.length) (ha:a.all digB=true) {n m:Nat} (h:n<m):digitsLoop a n<digitsLoop b m:=by
 have h1:=dl_lt a n ha
 have h2:=dl_ge b m
 rw[←hl] at h2
 have h3:(n+1)*10^a.length≤m*10^a.length:=Nat.mul_le_mul_right _ h
 omega
theorem dig_sub {c:UInt8} (h:digB c=true):48≤c.toNat∧c.toNat≤57:=by simpa[digB] using h
theorem less_dl:∀(a b:List UInt8) (n:Nat),a.length=b.length→a.all digB=true→b.all digB=true→Op.bytesLess a b=decide (digitsLoop a n<digitsLoop b n)
 | [],[],n,_,_,_=>by simp[Op.bytesLess]
 | [],_::_,_,h,_,_=>by cases h
 |_::_,[],_,h,_,_=>by cases h
 |c::r,d::q,n,hl,ha,hb=>by
  rw[List.all_cons,Bool.and_eq_true] at ha hb
  have hc:=dig_sub ha.1
  have hd:=dig_sub hb.1
  have hl2:r.length=q.length:=by simpa using hl
  rw[Op.bytesLess]
  show(decide (c<d)||(c==d&&Op.bytesLess r q))=decide (digitsLoop r (10*n+(c.toNat-48))<digitsLoop q (10*n+(d.toNat-48)))
  by_cases h1:c.toNat<d.toNat
  ·have e1:c<d:=UInt8.lt_iff_toNat_lt.2 h1
   have:=dl_lt_lt hl2 ha.2 (n:=10*n+(c.toNat-48)) (m:=10*n+(d.toNat-48)) (by omega)
   simp[e1,this]
  ·have e1:¬c<d:=fun h=>h1 (UInt8.lt_iff_toNat_lt.1 h)
   by_cases h2:c=d
   ·subst h2
    rw[less_dl r q (10*n+(c.toNat-48)) hl2 ha.2 hb.2]
    simp[e1]
   ·have h3:d.toNat<c.toNat:=by
     have:c.toNat≠d.toNat:=fun e=>h2 (UInt8.toNat_inj.1 e)
     omega
    have:=dl_lt_lt hl2.symm hb.2 (n:=10*n+(d.toNat-48)) (m:=10*n+(c.toNat-48)) (by omega)
    have e3:(c==d)=false:=by simpa using h2
    simp[e1,e3]
    omega
theorem dl_inj:∀(a b:List UInt8) (n:Nat),a.length=b.length→a.all digB=true→b.all digB=true→digitsLoop a n=digitsLoop b n→a=b
 | [],[],_,_,_,_,_=>rfl
 | [],_::_,_,h,_,_,_=>by cases h
 |_::_,[],_,h,_,_,_=>by cases h
 |c::r,d::q,n,hl,ha,hb,he=>by
  rw[List.all_cons,Bool.and_eq_true] at ha hb
  have hc:=dig_sub ha.1
  have hd:=dig_sub hb.1
  have hl2:r.length=q.length:=by simpa using hl
  have he:digitsLoop r (10*n+(c.toNat-48))=digitsLoop q (10*n+(d.toNat-48)):=he
  have h1:c.toNat=d.toNat:=by
   rcases Nat.lt_trichotomy c.toNat d.toNat with h|h|h
   ·have:=dl_lt_lt hl2 ha.2 (n:=10*n+(c.toNat-48)) (m:=10*n+(d.toNat-48)) (by omega)
    omega
   ·exact h
   ·have:=dl_lt_lt hl2.symm hb.2 (n:=10*n+(d.toNat-48)) (m:=10*n+(c.toNat-48)) (by omega)
    omega
  obtain rfl:c=d:=UInt8.toNat_inj.1 h1
  rw[dl_inj r q _ hl2 ha.2 hb.2 he]
def maxW:List UInt8:=[57,50,50,51,51,55,50,48,51,54,56,53,52,55,55,53,56,48,55]
def minW:List UInt8:=[57,50,50,51,51,55,50,48,51,54,56,53,52,55,55,53,56,48,56]
theorem max_facts:maxW.length=19∧maxW.all digB=true∧digitsLoop maxW 0=9223372036854775807:=⟨rfl,by kernel_rfl,by kernel_rfl⟩
theorem min_facts:minW.length=19∧minW.all digB=true∧digitsLoop minW 0=9223372036854775808:=⟨rfl,by kernel_rfl,by kernel_rfl⟩
theorem leq_max {t:List UInt8} (hl:t.length=19) (ht:t.all digB=true):(Op.bytesLess t maxW||t==maxW)=decide (digitsLoop t 0≤9223372036854775807):=by
 obtain⟨m1,m2,m3⟩:=max_facts
 rw[less_dl t maxW 0 (by rw[hl,m1]) ht m2,m3]
 have e:(t==maxW)=decide (digitsLoop t 0=9223372036854775807):=by
  rw[Bool.eq_iff_iff]
  simp only[beq_iff_eq,decide_eq_true_eq]
  exact⟨fun e=>by rw[e,m3],fun e=>dl_inj t maxW 0 (by rw[hl,m1]) ht m2 (by rw[e,m3])⟩
 rw[e,Bool.eq_iff_iff]
 simp only[Bool.or_eq_true,decide_eq_true_eq]
 omega
theorem eq_min {t:List UInt8} (hl:t.length=19) (ht:t.all digB=true):(t==minW)=decide (digitsLoop t 0=9223372036854775808):=by
 obtain⟨m1,m2,m3⟩:=min_facts
 rw[Bool.eq_iff_iff]
 simp only[beq_iff_eq,decide_eq_true_eq]
 exact⟨fun e=>by rw[e,m3],fun e=>dl_inj t minW 0 (by rw[hl,m1]) ht m2 (by rw[e,m3])⟩
theorem swap_perm (l:List Int) {i j:Nat} (hi:i<l.length) (hj:j<l.length):(swapL l i j).Perm l:=by
 have h:=List.set_set_perm hi hj
 unfold swapL
 rwa [List.getD_eq_getElem?_getD,List.getD_eq_getElem?_getD,List.getElem?_eq_getElem hi,List.getElem?_eq_getElem hj]
theorem up_perm:∀(f:Nat) (l:List Int) (j:Nat),j<l.length→(upL f l j).Perm l
 |0,l,_,_=> .refl l
 |f+1,l,j,hj=>by
  rw[upL]
  split
  ·exact .refl l
  ·exact(up_perm f _ _ (by rw[swap_len];omega)).trans (swap_perm l (by omega) hj)
theorem down_perm:∀(f:Nat) (l:List Int) (i n:Nat),n≤l.length→(downL f l i n).Perm l
 |0,l,_,_,_=> .refl l
 |f+1,l,i,n,hn=>by
  rw[downL]
  split
  ·exact .refl l
  ·obtain⟨j,hj⟩:∃j,(if 2*i+2<n∧l.getD (2*i+2) 0<l.getD (2*i+1) 0 then 2*i+2 else 2*i+1)=j:=⟨_,rfl⟩
   have hjn:j<n:=by rw[←hj];split<;>omega
   simp only[hj]
   split
   ·exact(down_perm f _ _ _ (by rw[swap_len];exact hn)).trans (swap_perm l (by omega) (by omega))
   ·exact .refl l
theorem push_has (l:List Int) (n:Int):n∈pushL l n∧∀x∈l,x∈pushL l n:=by
 have h:=up_perm (l.length+1) (l++ [n]) l.length (by simp)
 exact⟨h.mem_iff.2 (by simp),fun x hx=>h.mem_iff.2 (by simp[hx])⟩
theorem pop_has {l:List Int} (hl:l≠ []):∀x∈l,x=(popL l).1∨x∈(popL l).2:=by
 intro x hx
 have h0:0<l.length:=List.length_pos_iff.2 hl
 have hp:=(down_perm l.length (swapL l 0 (l.length-1)) 0 (l.length-1) (by rw[swap_len];omega)).trans (swap_perm l h0 (by omega))
 have hlen:=hp.length_eq
 have hx2:=hp.mem_iff.2 hx
 obtain⟨D,hD⟩:∃D,downL l.length (swapL l 0 (l.length-1)) 0 (l.length-1)=D:=⟨_,rfl⟩
 rw[hD] at hx2 hlen
 have e1:(popL l).1=D.getD (l.length-1) 0:=by unfold popL;simp only[hD]
 have e2:(popL l).2=D.take (l.length-1):=by unfold popL;simp only[hD]
 rw[e1,e2]
 obtain⟨j,hj⟩:=List.getElem?_of_mem hx2
 have hjl:=(List.getElem?_eq_some_iff.1 hj).1
 by_cases hlast:j=l.length-1
 ·left
  rw[←hlast,List.getD_eq_getElem?_getD,hj]
  rfl
 ·right
  exact List.mem_of_getElem? (i:=j) (by rw[List.getElem?_take,if_pos (by omega)];exact hj)
def handB (a:List (Option (List UInt8))) (k:Nat) (s:List UInt8):List (Option (List UInt8))×Bool:=match a.getD k none with
 |none=>(a.set k (some s),true)
 |some t=>(a,t==s)
def roundB (code:List Ci) (a:List (Option (List UInt8))) (k:Nat):Option Int×List (Option (List UInt8)):=match code[k]?,a.getD k none with
 |some x,some s=>match leavesP x s with
  |none=>(some k,a)
  |some (nx,th)=>
   let h1:=if x.op=34∨x.op=50 then(a,true) else handB a (k+1) nx
   if h1.2=false then(some (k+1),h1.1) else
   let h2:=if goesB x.op then handB h1.1 x.a.toNat th else(h1.1,true)
   if h2.2=false then(some x.a,h2.1) else(none,h2.1)
 |_,_=>(none,a)
theorem hand_bare (c:Cst) (k:Nat) (s:List UInt8):(handP c k s).1.at_=(handB c.at_ k s).1∧(handP c k s).2=(handB c.at_ k s).2∧(handP c k s).1.seen=c.seen:=by
 unfold handP handB
 cases c.at_.getD k none<;>exact⟨rfl,rfl,rfl⟩
structure Todo (code:List Ci) (c:Cst):Prop where
 heap:HeapL c.todo c.todo.length
 has:∀k,k<code.length→c.at_.getD k none≠none→c.seen.getD k false=false→(k:Int)∈c.todo
theorem Todo.hand {code:List Ci} {c:Cst} (h:Todo code c) (k:Nat) (s:List UInt8):Todo code (handP c k s).1:=by
 unfold handP
 split
 ·refine⟨pushL_heap h.heap _,fun j hj ha hs=> ?_⟩
  simp only at ha hs⊢
  by_cases hjk:j=k
  ·subst hjk
   exact(push_has _ _).1
  ·refine(push_has _ _).2 _ (h.has j hj ?_ hs)
   rwa [List.getD_eq_getElem?_getD,List.getElem?_set,if_neg (fun e=>hjk e.symm),←List.getD_eq_getElem?_getD] at ha
 ·exact h
theorem round_bare {code:List Ci} (c:Cst) (k:Nat):(roundP code c k).1=(roundB code c.at_ k).1∧(roundP code c k).2.at_=(roundB code c.at_ k).2∧(roundP code c k).2.seen=c.seen:=by
 unfold roundP roundB
 cases code[k]? with
 |none=>exact⟨rfl,rfl,rfl⟩
 |some x=>
  cases c.at_.getD k none with
  |none=>exact⟨rfl,rfl,rfl⟩
  |some s=>
   dsimp only
   cases leavesP x s with
   |none=>exact⟨rfl,rfl,rfl⟩
   |some pr=>
   obtain⟨nx,th⟩:=pr
   dsimp only
   obtain⟨h1,hh1,e1,e2,e3⟩:∃h1:Cst×Bool,(if x.op=34∨x.op=50 then(c,true) else handP c (k+1) nx)=h1∧h1.1.at_=(if x.op=34∨x.op=50 then(c.at_,true) else handB c.at_ (k+1) nx).1∧h1.2=(if x.op=34∨x.op=50 then(c.at_,true) else handB c.at_ (k+1) nx).2∧h1.1.seen=c.seen:=by
    refine⟨_,rfl, ?_⟩
    split
    ·exact⟨rfl,rfl,rfl⟩
    ·exact hand_bare c (k+1) nx
   simp only[hh1]
   obtain⟨b1,hb1⟩:∃b1,(if x.op=34∨x.op=50 then(c.at_,true) else handB c.at_ (k+1) nx)=b1:=⟨_,rfl⟩
   rw[hb1] at e1 e2
   simp only[hb1,←e2]
   split
   ·exact⟨rfl,e1,e3⟩
   ·obtain⟨h2,hh2,f1,f2,f3⟩:∃h2:Cst×Bool,(if goesB x.op=true then handP h1.1 x.a.toNat th else(h1.1,true))=h2∧h2.1.at_=(if goesB x.op=true then handB b1.1 x.a.toNat th else(b1.1,true)).1∧h2.2=(if goesB x.op=true then handB b1.1 x.a.toNat th else(b1.1,true)).2∧h2.1.seen=c.seen:=by
     refine⟨_,rfl, ?_⟩
     split
     ·obtain⟨p1,p2,p3⟩:=hand_bare h1.1 x.a.toNat th
      rw[e1] at p1 p2
      exact⟨p1,p2,p3.trans e3⟩
     ·exact⟨e1,rfl,e3⟩
    simp only[hh2]
    obtain⟨b2,hb2⟩:∃b2,(if goesB x.op=true then handB b1.1 x.a.toNat th else(b1.1,true))=b2:=⟨_,rfl⟩
    rw[hb2] at f1 f2
    simp only[hb2,←f2]
    split
    ·exact⟨rfl,f1,f3⟩
    ·exact⟨rfl,f1,f3⟩
theorem Todo.round {code:List Ci} {c:Cst} (h:Todo code c) (k:Nat):Todo code (roundP code c k).2:=by
 unfold roundP
 split
 ·rename_i x s hx hs
  split
  ·exact h
  ·rename_i nx th _
   have h1:Todo code (if x.op=34∨x.op=50 then(c,true) else handP c (k+1) nx).1:=by
    split
    ·exact h
    ·exact h.hand _ _
   obtain⟨q,hq⟩:∃q,(if x.op=34∨x.op=50 then(c,true) else handP c (k+1) nx)=q:=⟨_,rfl⟩
   rw[hq] at h1
   simp only[hq]
   split
   ·exact h1
   ·have h2:Todo code (if goesB x.op=true then handP q.1 x.a.toNat th else(q.1,true)).1:=by
     split
     ·exact h1.hand _ _
     ·exact h1
    obtain⟨q2,hq2⟩:∃q2,(if goesB x.op=true then handP q.1 x.a.toNat th else(q.1,true))=q2:=⟨_,rfl⟩
    rw[hq2] at h2
    simp only[hq2]
    split
    ·exact h2
    ·exact h2
 ·exact h
def PendB (code:List Ci) (a:List (Option (List UInt8))) (d:List Bool) (k:Nat):Prop:=k<code.length∧a.getD k none≠none∧d.getD k false=false
inductive MinRun (code:List Ci):List (Option (List UInt8))→List Bool→Option Int→Prop
 |stop {a d}:(∀k,¬PendB code a d k)→MinRun code a d none
 |bad {a d k e a'}:PendB code a d k→(∀j,PendB code a d j→k≤j)→roundB code a k=(some e,a')→MinRun code a d (some e)
 |go {a d k a' r}:PendB code a d k→(∀j,PendB code a d j→k≤j)→roundB code a k=(none,a')→MinRun code a' (d.set k true) r→MinRun code a d r
theorem loop_min {code:List Ci} (hfit:∀(k:Nat) (x:Ci),code[k]? =some x→FitI code k x):∀(f:Nat) (c:Cst),Inv code c→Todo code c→c.mu<f→MinRun code c.at_ c.seen (fitsLoop code f c)
 |0,_,_,_,h=>by omega
 |f+1,c,hI,hT,hf=>by
  rw[fitsLoop]
  by_cases h0:c.todo=[]
  ·rw[if_pos h0]
   exact .stop fun k ⟨h1,h2,h3⟩=>by
    have:=hT.has k h1 h2 h3
    rw[h0] at this
    cases this
  ·rw[if_neg h0]
   obtain⟨k,hk,hkl,s,hs⟩:=pop_at hI h0
   obtain⟨hI1,hm1⟩:=hI.pop h0
   obtain⟨_,hmin,hheap⟩:=popL_heap hT.heap h0
   have hhas:=pop_has h0
   rw[hk] at hmin hhas⊢
   rw[Int.toNat_natCast]
   by_cases hsn:c.seen.getD k false=true
   ·rw[if_pos hsn]
    refine loop_min hfit f {c with todo:=(popL c.todo).2} hI1 ⟨hheap,fun j hj ha hd=> ?_⟩ (by omega)
    rcases hhas _ (hT.has j hj ha hd) with e|e
    ·obtain rfl:j=k:=by omega
     simp only at hd
     rw[hsn] at hd
     cases hd
    ·exact e
   ·rw[if_neg hsn]
    have hsf:c.seen.getD k false=false:=by simpa using hsn
    have hp:PendB code c.at_ c.seen k:=⟨hkl,by rw[hs];simp,hsf⟩
    have hle:∀j,PendB code c.at_ c.seen j→k≤j:=fun j ⟨h1,h2,h3⟩=>by
     obtain⟨i,hi⟩:=List.getElem?_of_mem (hT.has j h1 h2 h3)
     have hil:=(List.getElem?_eq_some_iff.1 hi).1
     have:=hmin i hil
     rw[List.getD_eq_getElem?_getD,hi] at this
     simp only[Option.getD_some] at this
     omega
    obtain⟨hI2,hm2⟩:=hI1.look hkl hsf
    have hT2:Todo code {at_:=c.at_,seen:=c.seen.set k true,todo:=(popL c.todo).2}:=⟨hheap,fun j hj ha hd=>by
     simp only at ha hd
     by_cases hjk:j=k
     ·subst hjk
      rw[List.getD_eq_getElem?_getD,List.getElem?_set,if_pos rfl,if_pos (by rw[hI.seen];exact hkl)] at hd
      cases hd
     ·rw[List.getD_eq_getElem?_getD,List.getElem?_set,if_neg (fun e=>hjk e.symm),←List.getD_eq_getElem?_getD] at hd
      rcases hhas _ (hT.has j hj ha hd) with e|e
      ·omega
      ·exact e⟩
    obtain⟨b1,b2,b3⟩:=round_bare (code:=code) {at_:=c.at_,seen:=c.seen.set k true,todo:=(popL c.todo).2} k
    have hI3:=hI2.round hfit k
    have hT3:=hT2.round k
    obtain⟨q,hq⟩:∃q,roundP code {at_:=c.at_,seen:=c.seen.set k true,todo:=(popL c.todo).2} k=q:=⟨_,rfl⟩
    rw[hq] at b1 b2 b3 hI3 hT3
    simp only at b1 b2 b3 hI3 hm1 hm2
    rw[hq]
    obtain⟨o,c'⟩:=q
    cases o with
    |some e=>exact .bad hp hle (a':=c'.at_) (Prod.ext b1.symm b2.symm)
    |none=>
     obtain⟨hI4,hm4⟩:=hI3 rfl
     simp only at b1 b2 b3 hm4 hI4 hT3
     have ih:=loop_min hfit f c' hI4 hT3 (by omega)
     rw[b2,b3] at ih
     exact .go hp hle (Prod.ext b1.symm rfl) ih
theorem MinRun.at {code:List Ci} {a:List (Option (List UInt8))} {d:List Bool} {r:Option Int} (h:MinRun code a d r) {k:Nat} (hp:PendB code a d k) (hle:∀j,PendB code a d j→k≤j):
  (∀e a',roundB code a k=(some e,a')→r=some e)∧∀a',roundB code a k=(none,a')→MinRun code a' (d.set k true) r:=by
 cases h with
 |stop h1=>exact absurd hp (h1 _)
 |bad p m e=>
  obtain rfl:=Nat.le_antisymm (m _ hp) (hle _ p)
  refine⟨fun e' a' he=> ?_,fun a' he=> ?_⟩
  ·rw[e] at he
   rw[(Prod.mk.inj he).1]
  ·rw[e] at he
   cases he
 |go p m e h2=>
  obtain rfl:=Nat.le_antisymm (m _ hp) (hle _ p)
  refine⟨fun e' a' he=> ?_,fun a' he=> ?_⟩
  ·rw[e] at he
   cases he
  ·rw[e] at he
   rw[←(Prod.mk.inj he).2]
   exact h2
theorem MinRun.done {code:List Ci} {a:List (Option (List UInt8))} {d:List Bool} {r:Option Int} (h:MinRun code a d r) (hn:∀k,¬PendB code a d k):r=none:=by
 cases h with
 |stop _=>rfl
 |bad p _ _=>exact absurd p (hn _)
 |go p _ _ _=>exact absurd p (hn _)
theorem handB_new (a:List (Option (List UInt8))) (k:Nat) (s:List UInt8) (j:Nat) (h:(handB a k s).1.getD j none≠none):a.getD j none≠none∨j=k:=by
 unfold handB at h
 split at h
 ·by_cases hjk:k=j
  ·exact .inr hjk.symm
  ·simp only at h
   rw[List.getD_eq_getElem?_getD,List.getElem?_set,if_neg hjk,←List.getD_eq_getElem?_getD] at h
   exact .inl h
 ·exact .inl h
theorem roundB_new {code:List Ci} {a:List (Option (List UInt8))} {k:Nat} {x:Ci} (hx:code[k]? =some x) (j:Nat) (h:(roundB code a k).2.getD j none≠none):a.getD j none≠none∨j=k+1∨(goesB x.op=true∧j=x.a.toNat):=by
 unfold roundB at h
 rw[hx] at h
 split at h
 ·rename_i y s hy hs
  obtain rfl:=Option.some.inj hy
  split at h
  ·exact .inl h
  ·rename_i nx th _
   obtain⟨q,hq⟩:∃q,(if x.op=34∨x.op=50 then(a,true) else handB a (k+1) nx)=q:=⟨_,rfl⟩
   have h1:∀j,q.1.getD j none≠none→a.getD j none≠none∨j=k+1:=fun j hj=>by
    rw[←hq] at hj
    split at hj
    ·exact .inl hj
    ·exact handB_new a (k+1) nx j hj
   simp only[hq] at h
   split at h
   ·rcases h1 j h with e|e
    ·exact .inl e
    ·exact .inr (.inl e)
   ·obtain⟨q2,hq2⟩:∃q2,(if goesB x.op=true then handB q.1 x.a.toNat th else(q.1,true))=q2:=⟨_,rfl⟩
    have h2:∀j,q2.1.getD j none≠none→q.1.getD j none≠none∨(goesB x.op=true∧j=x.a.toNat):=fun j hj=>by
     rw[←hq2] at hj
     split at hj
     ·rename_i hg
      rcases handB_new _ _ _ _ hj with e|e
      ·exact .inl e
      ·exact .inr ⟨hg,e⟩
     ·exact .inl hj
    simp only[hq2] at h
    have h3:q2.1.getD j none≠none:=by
     split at h
     ·exact h
     ·exact h
    rcases h2 j h3 with e|e
    ·rcases h1 j e with e|e
     ·exact .inl e
     ·exact .inr (.inl e)
    ·exact .inr (.inr e)
 ·exact .inl h
theorem rep_getD {α:Type} (n:Nat) (x:α) (k:Nat):(List.replicate n x).getD k x=x:=by
 rw[List.getD_eq_getElem?_getD,List.getElem?_replicate]
 split<;>rfl
theorem fits_run {code:List Ci} (h0:0<code.length) (hfit:∀(k:Nat) (x:Ci),code[k]? =some x→FitI code k x):MinRun code (some []::List.replicate code.length none) (List.replicate code.length false) (fitsP code):=by
 obtain⟨hI,hm⟩:=Inv.begin code h0
 have hT:Todo code ⟨some []::List.replicate code.length none,List.replicate code.length false,[0]⟩:=by
  refine⟨fun i hi hl=>by simp at hl;omega,fun k hk ha hd=> ?_⟩
  cases k with
  |zero=>simp
  |succ k=>
   simp only[List.getD_cons_succ] at ha
   exact absurd (rep_getD _ _ k) ha
 have:=loop_min hfit (4*code.length+4) _ hI hT (by rw[hm];omega)
 exact this
end Go.Proofs.YtagnicbknbmccaaGreatDoor
