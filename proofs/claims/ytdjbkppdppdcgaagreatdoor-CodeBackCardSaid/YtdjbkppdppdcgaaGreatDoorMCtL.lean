/- CodeTurns, the plain law: in a right program each way back leads to a step, or to a loop's turn. What the walk over instructions asks of one that is fine by itself. The walk over instructions: what holds from round to round. Where every instruction has a stack that its ways keep, the stack fits: in whatever order they are looked at. The right programs that the laws make of raw numbers, in plain form. What Read takes is what List writes: the lines again. Numbers and quoted texts read back. What List writes is what Read takes. What List writes of a right program is what Read takes: the whole. What the makers of right programs make keeps its stacks. -/
import Derived.Test.YtdjbkppdppdcgaaGreatDoorMScanA
import Derived.Test.YtdjbkppdppdcgaaGreatDoorMLex1
namespace Go.Proofs.YtdjbkppdppdcgaaGreatDoor
theorem right_codes {p:Cp} (h:rightC p=none):codesFrom p 0 p.funcs=none:=by
 unfold rightC at h
 split at h
 ·cases h
 split at h
 ·cases h
 split at h
 ·cases h
 split at h
 ·cases h
 split at h
 ·cases h
 assumption
theorem codes_at {p:Cp}:∀(l:List Cf) (i:Nat),codesFrom p i l=none→∀(j:Nat) (f:Cf),l[j]? =some f→f.code≠ []∧fineFrom p (i+j) f.code 0 f.code=none
 | [],_,_,j,f,hf=>by simp at hf
 |g::r,i,h,j,f,hf=>by
  rw[codesFrom] at h
  split at h
  ·cases h
  ·rename_i hne
   split at h
   ·cases h
   ·rename_i hfi
    cases j with
    |zero=>
     simp only[List.getElem?_cons_zero,Option.some.injEq] at hf
     subst hf
     exact⟨hne,hfi⟩
    |succ j=>
     rw[List.getElem?_cons_succ] at hf
     have:=codes_at r (i+1) h j f hf
     rw[show i+1+j=i+(j+1) by omega] at this
     exact this
theorem fine_at {p:Cp} {f:Nat} {code:List Ci}:∀(l:List Ci) (k:Nat),fineFrom p f code k l=none→∀(j:Nat) (x:Ci),l[j]? =some x→fineB p f code (k+j) x=true
 | [],_,_,j,x,hx=>by simp at hx
 |y::r,k,h,j,x,hx=>by
  rw[fineFrom] at h
  split at h
  ·rename_i hy
   cases j with
   |zero=>
    simp only[List.getElem?_cons_zero,Option.some.injEq] at hx
    subst hx
    exact hy
   |succ j=>
    rw[List.getElem?_cons_succ] at hx
    have:=fine_at r (k+1) h j x hx
    rw[show k+1+j=k+(j+1) by omega] at this
    exact this
  ·cases h
theorem right_fine {p:Cp} (h:rightC p=none) {i k:Nat} {f:Cf} {x:Ci} (hf:p.funcs[i]? =some f) (hx:f.code[k]? =some x):fineB p i f.code k x=true:=by
 have h1:=(codes_at p.funcs 0 (right_codes h) i f hf).2
 have h2:=fine_at f.code 0 h1 k x hx
 rw[Nat.zero_add,Nat.zero_add] at h2
 exact h2
structure FitI (code:List Ci) (k:Nat) (x:Ci):Prop where
 last:x.op≠34→x.op≠50→k+1<code.length
 goes:goesB x.op=true→0≤x.a∧x.a<code.length
 slice:x.op=26→(x.a=2∨x.a=3)∧(x.b=0∨x.b=1∨x.b=2∨x.b=3)
 count:0≤(countedP x).2∧(countedP x).2≤40000
 op:1≤x.op∧x.op≤53
theorem form_op {op:Int} (h:(formOf op).word.isEmpty=false):1≤op∧op≤53:=by
 unfold formOf at h
 split at h
 ·assumption
 ·cases h
theorem fine_fit {p:Cp} {f:Nat} {o:Cf} {k:Nat} {x:Ci} (ho:p.funcs[f]? =some o) (h:fineB p f o.code k x=true):FitI o.code k x:=by
 unfold fineB at h
 simp only[Bool.and_eq_true,Bool.or_eq_true,decide_eq_true_eq,beq_iff_eq,Bool.not_eq_true'] at h
 obtain⟨hw,_,_,hn,_,hb,_,hl⟩:=h
 have hop:=form_op hw
 unfold numberedB at hn
 rw[ho] at hn
 simp only at hn
 have hc:(formOf x.op).a=7→0≤x.a∧x.a<20001:=fun e=>by rw[e] at hn;simpa using hn
 have hs:x.op=26→x.a=2∨x.a=3:=fun e=>by rw[e,show(formOf 26).a=11 from rfl] at hn;simpa using hn
 refine⟨fun h1 h2=> ?_,fun hg=> ?_,fun e=>⟨hs e, ?_⟩, ?_,hop⟩
 ·rcases hl with hl|hl|hl
  ·exact hl
  ·exact absurd hl h2
  ·exact absurd hl h1
 ·have e:(formOf x.op).a=10:=by simpa[goesB] using hg
  rw[e] at hn
  simpa using hn
 ·rcases hb with hb|⟨_,hb|⟨_,hb|hb⟩⟩
  ·exact .inl hb
  ·exact .inr (.inl hb)
  ·exact .inr (.inr (.inl hb))
  ·exact .inr (.inr (.inr hb))
 ·unfold countedP
  by_cases h1:x.op=27∨x.op=29∨x.op=46∨x.op=47∨x.op=48∨x.op=49
  ·rw[if_pos h1]
   simp only
   rcases h1 with e|e|e|e|e|e
   ·have:=hc (by rw[e];rfl);omega
   ·rw[e,show(formOf 29).a=8 from rfl] at hn
    have:0≤x.a∧x.a<31:=by simpa using hn
    omega
   all_goals (have:=hc (by rw[e];rfl);omega)
  ·rw[if_neg h1]
   by_cases h2:x.op=28
   ·rw[if_pos h2]
    have:=hc (by rw[h2];rfl)
    simp only
    omega
   ·rw[if_neg h2]
    by_cases h3:x.op=26
    ·rw[if_pos h3]
     have:=hs h3
     simp only
     split
     ·omega
     ·split<;>omega
    ·rw[if_neg h3]
     by_cases h4:x.op=53
     ·rw[if_pos h4]
      have:=hc (by rw[h4];rfl)
      simp only
      omega
     ·rw[if_neg h4]
      simp only
      omega
structure Inv (code:List Ci) (c:Cst):Prop where
 at_:c.at_.length=code.length+1
 seen:c.seen.length=code.length
 todo:∀x∈c.todo,∃k:Nat,x=(k:Int)∧k<code.length∧c.at_.getD k none≠none
theorem Inv.hand {code:List Ci} {c:Cst} (h:Inv code c) {k:Nat} (hk:k<code.length) (s:List UInt8):Inv code (handP c k s).1∧(handP c k s).1.mu≤c.mu+1:=by
 obtain⟨h1,h2,h3,h4⟩:=hand_todo c k s
 refine⟨⟨by rw[h4];exact h.at_,by rw[h3];exact h.seen,fun x hx=> ?_⟩, ?_⟩
 ·rcases h1 x hx with hx|hx
  ·obtain⟨j,e1,e2,e3⟩:=h.todo x hx
   exact⟨j,e1,e2,hand_some c k s j (.inl e3)⟩
  ·exact⟨k,hx,hk,hand_some c k s k (.inr ⟨rfl,by rw[h.at_];omega⟩)⟩
 ·unfold Cst.mu
  rw[h3]
  omega
theorem count_set:∀(l:List Bool) (k:Nat),k<l.length→l.getD k false=false→(l.set k true).count false+1=l.count false
 | [],_,h,_=>by simp at h
 |b::l,0,_,h=>by
  simp only[List.getD_cons_zero] at h
  subst h
  simp
 |b::l,k+1,h,h2=>by
  have:=count_set l k (by simpa using h) (by simpa using h2)
  rw[List.set_cons_succ,List.count_cons,List.count_cons]
  omega
theorem pop_at {code:List Ci} {c:Cst} (h:Inv code c) (hne:c.todo≠ []):∃k:Nat,(popL c.todo).1=(k:Int)∧k<code.length∧∃s,c.at_.getD k none=some s:=by
 obtain⟨h1,_,_⟩:=pop_mem hne
 obtain⟨k,e1,e2,e3⟩:=h.todo _ h1
 exact⟨k,e1,e2,Option.ne_none_iff_exists'.1 e3⟩
theorem Inv.pop {code:List Ci} {c:Cst} (h:Inv code c) (hne:c.todo≠ []):Inv code {c with todo:=(popL c.todo).2}∧({c with todo:=(popL c.todo).2}:Cst).mu+1=c.mu:=by
 obtain⟨_,h2,h3⟩:=pop_mem hne
 have h0:0<c.todo.length:=List.length_pos_iff.2 hne
 refine⟨⟨h.at_,h.seen,fun x hx=>h.todo x (h2 x hx)⟩, ?_⟩
 unfold Cst.mu
 simp only
 rw[h3]
 omega
theorem Inv.look {code:List Ci} {c:Cst} (h:Inv code c) {k:Nat} (hk:k<code.length) (hs:c.seen.getD k false=false):Inv code {c with seen:=c.seen.set k true}∧({c with seen:=c.seen.set k true}:Cst).mu+3=c.mu:=by
 refine⟨⟨h.at_,by simp only[List.length_set];exact h.seen,h.todo⟩, ?_⟩
 have:=count_set c.seen k (by rw[h.seen];exact hk) hs
 unfold Cst.mu
 simp only
 omega
theorem Inv.round {code:List Ci} {c:Cst} (h:Inv code c) (hfit:∀(k:Nat) (x:Ci),code[k]? =some x→FitI code k x) (k:Nat):(roundP code c k).1=none→Inv code (roundP code c k).2∧(roundP code c k).2.mu≤c.mu+2:=by
 unfold roundP
 split
 ·rename_i x s hx hs
  have hf:=hfit k x hx
  split
  ·intro h;cases h
  ·rename_i nx th _
   by_cases hj:x.op=34∨x.op=50
   ·simp only[if_pos hj]
    rw[if_neg (by simp)]
    by_cases hg:goesB x.op=true
    ·simp only[if_pos hg]
     obtain⟨g1,g2⟩:=hf.goes hg
     obtain⟨e1,e2⟩:=h.hand (k:=x.a.toNat) (by omega) th
     split
     ·intro h;cases h
     ·intro _;exact⟨e1,by simp only;omega⟩
    ·simp only[if_neg hg]
     rw[if_neg (by simp)]
     intro _;exact⟨h,by simp only;omega⟩
   ·simp only[if_neg hj]
    have hk1:=hf.last (fun e=>hj (.inl e)) (fun e=>hj (.inr e))
    obtain⟨e1,e2⟩:=h.hand (k:=k+1) hk1 nx
    split
    ·intro h;cases h
    ·by_cases hg:goesB x.op=true
     ·simp only[if_pos hg]
      obtain⟨g1,g2⟩:=hf.goes hg
      obtain⟨e3,e4⟩:=e1.hand (k:=x.a.toNat) (by omega) th
      split
      ·intro h;cases h
      ·intro _;exact⟨e3,by simp only;omega⟩
     ·simp only[if_neg hg]
      rw[if_neg (by simp)]
      intro _;exact⟨e1,by simp only;omega⟩
 ·intro _;exact⟨h,by simp only;omega⟩
theorem Inv.begin (code:List Ci) (h0:0<code.length):Inv code ⟨some []::List.replicate code.length none,List.replicate code.length false,[0]⟩∧(⟨some []::List.replicate code.length none,List.replicate code.length false,[0]⟩:Cst).mu=3*code.length+1:=by
 refine⟨⟨by simp,by simp,fun x hx=>⟨0,by simpa using hx,h0,by simp⟩⟩, ?_⟩
 unfold Cst.mu
 simp
def Keeps (S:Nat→Option (List UInt8)) (c:Cst):Prop:=∀(j:Nat) (t:List UInt8),c.at_.getD j none=some t→S j=some t
theorem Keeps.hand {S:Nat→Option (List UInt8)} {c:Cst} (h:Keeps S c) {k:Nat} {s:List UInt8} (hs:S k=some s):Keeps S (handP c k s).1∧(handP c k s).2=true:=by
 unfold handP
 split
 ·refine⟨fun j t ht=> ?_,rfl⟩
  simp only at ht
  rw[List.getD_eq_getElem?_getD,List.getElem?_set] at ht
  by_cases hj:k=j
  ·rw[if_pos hj] at ht
   split at ht
   ·simp only[Option.getD_some,Option.some.injEq] at ht
    rw[←hj,hs,ht]
   ·cases ht
  ·rw[if_neg hj,←List.getD_eq_getElem?_getD] at ht
   exact h j t ht
 ·rename_i t ht
  have:=h k t ht
  rw[hs] at this
  injection this with this
  exact⟨h,by rw[this];simp⟩
theorem fits_keeps {code:List Ci} {S:Nat→Option (List UInt8)}
  (h:∀(k:Nat) (x:Ci) (s:List UInt8),code[k]? =some x→S k=some s→∃nx th,leavesP x s=some (nx,th)∧(x.op≠34→x.op≠50→S (k+1)=some nx)∧(goesB x.op=true→S x.a.toNat=some th)):
  ∀(f:Nat) (c:Cst),Keeps S c→fitsLoop code f c=none
 |0,_,_=>rfl
 |f+1,c,hc=>by
  rw[fitsLoop]
  split
  ·rfl
  ·split
   ·exact fits_keeps h f _ hc
   ·have hr:∀(c:Cst) (k:Nat),Keeps S c→(roundP code c k).1=none∧Keeps S (roundP code c k).2:=by
     intro c k hc
     unfold roundP
     split
     ·rename_i x s hx hs
      obtain⟨nx,th,h1,h2,h3⟩:=h k x s hx (hc k s hs)
      rw[h1]
      simp only
      by_cases hj:x.op=34∨x.op=50
      ·simp only[if_pos hj]
       rw[if_neg (by simp)]
       by_cases hg:goesB x.op=true
       ·simp only[if_pos hg]
        obtain⟨e1,e2⟩:=hc.hand (h3 hg)
        rw[if_neg (by rw[e2];simp)]
        exact⟨rfl,e1⟩
       ·simp only[if_neg hg]
        rw[if_neg (by simp)]
        exact⟨rfl,hc⟩
      ·simp only[if_neg hj]
       obtain⟨e1,e2⟩:=hc.hand (h2 (fun e=>hj (.inl e)) (fun e=>hj (.inr e)))
       rw[if_neg (by rw[e2];simp)]
       by_cases hg:goesB x.op=true
       ·simp only[if_pos hg]
        obtain⟨e3,e4⟩:=e1.hand (h3 hg)
        rw[if_neg (by rw[e4];simp)]
        exact⟨rfl,e3⟩
       ·simp only[if_neg hg]
        rw[if_neg (by simp)]
        exact⟨rfl,e1⟩
     ·exact⟨rfl,hc⟩
    obtain⟨e1,e2⟩:=hr {c with todo:=(popL c.todo).2,seen:=c.seen.set (popL c.todo).1.toNat true} (popL c.todo).1.toNat hc
    split
    ·rename_i e _ he;rw[he] at e1;cases e1
    ·rename_i c' hc'
     rw[hc'] at e2
     exact fits_keeps h f c' e2
theorem fits_none {code:List Ci} {S:Nat→Option (List UInt8)} (h0:S 0=some [])
  (h:∀(k:Nat) (x:Ci) (s:List UInt8),code[k]? =some x→S k=some s→∃nx th,leavesP x s=some (nx,th)∧(x.op≠34→x.op≠50→S (k+1)=some nx)∧(goesB x.op=true→S x.a.toNat=some th)):fitsP code=none:=by
 refine fits_keeps h _ _ fun j t ht=> ?_
 cases j with
 |zero=>
  simp only[List.getD_cons_zero,Option.some.injEq] at ht
  rw[h0,ht]
 |succ j=>
  rw[List.getD_cons_succ,List.getD_eq_getElem?_getD,List.getElem?_replicate] at ht
  split at ht<;>cases ht
structure Mk where
 raw:List Int
 at_:Nat
 code:List Ci
 high:Nat
 slots:Nat
 tops:Nat
def pickN (c:Int) (n:Nat):Nat:=((if c<0 then-(c+1) else c) % (n:Int)).toNat
def Mk.next (m:Mk) (n:Nat):Nat×Mk:=(match m.raw[m.at_]? with
 |some c=>pickN c n
 |none=>0,{m with at_:=m.at_+1})
def Mk.add (m:Mk) (op a:Int) (text:List UInt8) (takes lays:Nat):Mk:=
 {m with code:=m.code++ [⟨op,a,0,⟨⟨text⟩⟩,((m.code.length*7 % 60001:Nat):Int)⟩],high:=m.high-takes+lays}
def pushInts:List (List UInt8):=[[48],[45,53],[57,50,50,51,51,55,50,48,51,54,56,53,52,55,55,53,56,48,55],[45,57,50,50,51,51,55,50,48,51,54,56,53,52,55,55,53,56,48,56]]
def pushFloats:List (List UInt8):=[[48,48,48,48,48,48,48,48,48,48,48,48,48,48,48,48],[55,102,102,56,48,48,48,48,48,48,48,48,48,48,48,49],[102,102,102,48,48,48,48,48,48,48,48,48,48,48,48,48]]
def pushTexts:List (List UInt8):=[[],[97,32,98],[10,0,255,34]]
def pushNils:List (List UInt8):=[[108,105,115,116],[109,97,112],[102,117,110,99],[84]]
def Mk.push (m:Mk):Mk:=
 let x:=m.next 9
 match x.1 with
 |0=>let y:=x.2.next 4;y.2.add 3 0 (pushInts.getD y.1 []) 0 1
 |1=>let y:=x.2.next 3;y.2.add 4 0 (pushFloats.getD y.1 []) 0 1
 |2=>let y:=x.2.next 3;y.2.add 5 0 (pushTexts.getD y.1 []) 0 1
 |3=>let y:=x.2.next 2;y.2.add 6 y.1 [] 0 1
 |4=>let y:=x.2.next 4;y.2.add 8 0 (pushNils.getD y.1 []) 0 1
 |5=>let y:=x.2.next x.2.slots;y.2.add 9 y.1 [] 0 1
 |6=>if 0<x.2.tops then let y:=x.2.next x.2.tops;y.2.add 10 y.1 [] 0 1 else x.2.add 7 0 [] 0 1
 |7=>let y:=x.2.next 2;y.2.add 23 y.1 [84,32,109] 0 1
 |_=>x.2.add 7 0 [] 0 1
def oneBinary:List (List UInt8):=[[43],[61,61],[60,60],[94]]
def oneUnary:List (List UInt8):=[[45],[42],[43,43]]
def oneBuilt:List (List UInt8):=[[112,114,105,110,116],[108,101,110],[114,101,99,111,118,101,114]]
def oneStruct:List (List UInt8):=[[84],[84,32,102],[84,32,102,32,103]]
def Mk.fill (m:Mk):Mk:=if m.high<1 then m.push.push else if m.high<2 then m.push else m
def Mk.pick (m:Mk) (n:Nat) (w:Nat):Mk:=match w with
 |0=>let y:=m.next 4;y.2.add 19 0 (oneBinary.getD y.1 []) 2 1
 |1=>let y:=m.next 3;y.2.add 18 0 (oneUnary.getD y.1 []) 1 1
 |2=>m.add 27 n [] n 1
 |3=>m.add 46 n [] (n+1) 1
 |4=>let y:=m.next 3;y.2.add 47 n (oneBuilt.getD y.1 []) n 1
 |5=>let y:=m.next m.slots;y.2.add 12 y.1 [] 1 0
 |6=>m.add 17 0 [] 1 2
 |7=>m.add 16 0 [] 1 0
 |8=>m.add 25 0 [] 2 2
 |9=>m.add 29 (min n 2:Nat) (oneStruct.getD (min n 2) []) (min n 2) 1
 |10=>m.add 33 2 [] 1 2
 |11=>let y:=m.next 2;y.2.add 22 y.1 [102] 1 1
 |12=>let y:=m.next m.slots;(((y.2.add 38 y.1 [] 0 0).add 43 0 [102] 0 0).add 44 0 [] 0 0).add 45 0 [] 0 0
 |13=>let t:=m.add 51 0 [] 1 0;((((t.add 2 0 [] 0 0).add 52 (t.code.length+5:Nat) [] 0 0).add 16 0 [] 0 0).add 16 0 [] 0 0).add 34 t.code.length [] 0 0
 |14=>((m.add 35 (m.code.length+3:Nat) [] 1 0).add 7 0 [] 0 0).add 16 0 [] 0 0
 |_=>m.add 48 0 [] 1 0
def Mk.one (m:Mk):Mk:=
 let f:=m.fill
 let n:=f.next (min f.high 4)
 let w:=n.2.next 16
 w.2.pick n.1 w.1
def Mk.ones:Nat→Mk→Mk
 |0,m=>m
 |n+1,m=>if m.at_<m.raw.length then Mk.ones n m.one else m
def Mk.body (m:Mk):Mk:=
 let s:=m.add 1 0 [] 0 0
 let n:=s.next 60
 ((Mk.ones n.1 n.2).push).add 50 0 [] 1 0
structure Gd (slots tops:Nat) (code:List Ci) (ss:List (List UInt8)) (fin:List UInt8):Prop where
 len:ss.length=code.length
 first:(ss++ [fin])[0]? =some []
 fit:∀(k:Nat) (x:Ci) (s:List UInt8),code[k]? =some x→ss[k]? =some s→∃nx th,leavesP x s=some (nx,th)∧(x.op≠34→x.op≠50→(ss++ [fin])[k+1]? =some nx)∧(goesB x.op=true→(ss++ [fin])[x.a.toNat]? =some th)
theorem cutAt_no {c:UInt8} {s t:List UInt8} (h:cutAt c s=(t,none)):s=t:=by
 have h1:=(cutAt_spec c s).1
 rw[h] at h1
 exact(h1 rfl).1.symm
theorem cutAt_yes {c:UInt8} {s t q:List UInt8} (h:cutAt c s=(t,some q)):s=t++c::q:=by
 have h2:=(cutAt_spec c s).2
 rw[h] at h2
 exact(h2 q rfl).2
theorem splitM_join (c:UInt8):∀(k:Nat) (s w:List UInt8) (t:List (List UInt8)),splitM c k s=w::t→s=w++t.flatMap (c::·)∧t.length≤k
 |0,s,w,t,h=>by
  rw[splitM] at h
  injection h with h1 h2
  subst h1;subst h2
  exact⟨by simp,Nat.le_refl _⟩
 |k+1,s,w,t,h=>by
  rw[splitM] at h
  rcases hc:cutAt c s with⟨x,_|q⟩
  ·rw[hc] at h
   injection h with h1 h2
   subst h1;subst h2
   exact⟨by simpa using cutAt_no hc,Nat.zero_le _⟩
  ·rw[hc] at h
   injection h with h1 h2
   subst h1
   cases t with
   |nil=>
    exfalso
    cases k with
    |zero=>cases h2
    |succ k=>rw[splitM] at h2;split at h2<;>cases h2
   |cons w' t'=>
    obtain⟨e1,e2⟩:=splitM_join c k q w' t' h2
    refine⟨?_,by rw[List.length_cons];omega⟩
    rw[cutAt_yes hc,List.flatMap_cons,e1]
    simp
theorem splitC_join {c:UInt8} {s w:List UInt8} {t:List (List UInt8)} (h:splitC c s=w::t):s=w++t.flatMap (c::·):=
 (splitM_join c (s.count c) s w t (by rw[splitM_all c _ s (Nat.le_refl _)];exact h)).1
theorem intOf_back {s:List UInt8} {n:Int} (h:intOfL s=some n):Lib.itoa n=s:=by
 unfold intOfL at h
 split at h
 ·split at h
  ·rename_i h2;injection h with h;rw[←h];exact h2
  ·cases h
 ·cases h
theorem words_eq (w:List UInt8) (l:List Int):wordsL w l=w++(l.map Lib.itoa).flatMap (32::·):=by
 unfold wordsL
 rw[List.flatMap_map]
theorem dig_nat {d:Nat} (h:d<10):(UInt8.ofNat (48+d)).toNat=48+d:=by
 rw[UInt8.toNat_ofNat'];exact Nat.mod_eq_of_lt (by omega)
theorem parseU_dec (M:Nat) (hM:M≤18446744073709551615) (r:List UInt8):∀(k u:Nat),u<k→u≤M→Lib.parseUintM M 0 (Lib.decDigits u++r)=Lib.parseUintM M u r:=by
 intro k
 induction k generalizing r with
 |zero=>intro u hu _;omega
 |succ k ih=>
  intro u hu hm
  by_cases h10:u<10
  ·rw[Lib.decDigits,dif_pos h10,List.cons_append,List.nil_append,Lib.parseUintM,dig_nat h10,if_pos (by omega),if_neg (by omega),if_neg (by omega)]
   congr 1
   omega
  ·rw[Lib.decDigits,dif_neg h10,List.append_assoc,ih _ (u/10) (by omega) (by omega),List.cons_append,List.nil_append,Lib.parseUintM,dig_nat (by omega),if_pos (by omega),if_neg (by omega),if_neg (by omega)]
   congr 1
   omega
theorem dec_head:∀(k u:Nat),u<k→∃c r,Lib.decDigits u=c::r∧48≤c.toNat∧c.toNat≤57:=by
 intro k
 induction k with
 |zero=>intro u hu;omega
 |succ k ih=>
  intro u hu
  by_cases h10:u<10
  ·exact⟨_,[],by rw[Lib.decDigits,dif_pos h10],by rw[dig_nat h10];omega,by rw[dig_nat h10];omega⟩
  ·obtain⟨c,r,h1,h2,h3⟩:=ih (u/10) (by omega)
   exact⟨c,r++ [UInt8.ofNat (48+u % 10)],by rw[Lib.decDigits,dif_neg h10,h1];rfl,h2,h3⟩
theorem dec_all:∀(k u:Nat),u<k→∀c∈Lib.decDigits u,48≤c.toNat∧c.toNat≤57:=by
 intro k
 induction k with
 |zero=>intro u hu;omega
 |succ k ih=>
  intro u hu c hc
  by_cases h10:u<10
  ·rw[Lib.decDigits,dif_pos h10] at hc
   rw[List.mem_singleton.1 hc,dig_nat h10];omega
  ·rw[Lib.decDigits,dif_neg h10] at hc
   rcases List.mem_append.1 hc with hc|hc
   ·exact ih (u/10) (by omega) c hc
   ·rw[List.mem_singleton.1 hc,dig_nat (by omega)];omega
theorem int_back {n:Int} (h:okI n):intOfL (Lib.itoa n)=some n:=by
 have hp:Lib.parseIntB 64 (Lib.itoa n)= .ok n:=by
  obtain⟨h1,h2⟩:=h
  have e63:(2:Nat)^(64-1)=9223372036854775808:=by decide
  unfold Lib.itoa
  by_cases hn:n<0
  ·rw[if_pos hn]
   obtain⟨c,r,hd,_,_⟩:=dec_head (n.natAbs+1) n.natAbs (by omega)
   have hpu:Lib.parseUintB 64 (Lib.decDigits n.natAbs)= .ok n.natAbs:=by
    unfold Lib.parseUintB
    rw[if_neg (by rw[hd];simp)]
    have:=parseU_dec (2^64-1) (by decide) [] (n.natAbs+1) n.natAbs (by omega) (by omega)
    rw[List.append_nil] at this
    rw[this];rfl
   unfold Lib.parseIntB
   simp only[show(45:UInt8).toNat=45 from rfl,or_true,if_true,hpu,not_true_eq_false,false_and,if_false,true_and,e63]
   rw[if_neg (by omega)]
   exact congrArg _ (by omega)
  ·rw[if_neg hn]
   obtain⟨c,r,hd,hc1,hc2⟩:=dec_head (n.toNat+1) n.toNat (by omega)
   have hpu:Lib.parseUintB 64 (Lib.decDigits n.toNat)= .ok n.toNat:=by
    unfold Lib.parseUintB
    rw[if_neg (by rw[hd];simp)]
    have:=parseU_dec (2^64-1) (by decide) [] (n.toNat+1) n.toNat (by omega) (by omega)
    rw[List.append_nil] at this
    rw[this];rfl
   rw[hd] at hpu⊢
   have hs:¬c.toNat=43:=by omega
   have hs2:¬c.toNat=45:=by omega
   unfold Lib.parseIntB
   simp only[hs,or_false,if_false,hs2,not_false_eq_true,true_and,false_and,e63]
   rw[hpu]
   simp only
   rw[if_neg (by omega)]
   exact congrArg _ (by omega)
 unfold intOfL
 rw[hp]
 simp
theorem ints_all:∀l:List Int,(∀n∈l,okI n)→intsL (l.map Lib.itoa)=some l
 | [],_=>rfl
 |n::r,h=>by rw[List.map_cons,intsL,int_back (h n (List.mem_cons_self ..)),ints_all r fun m hm=>h m (List.mem_cons_of_mem _ hm)]
theorem itoa_chars (n:Int):∀c∈Lib.itoa n,c=45∨(48≤c.toNat∧c.toNat≤57):=by
 intro c hc
 unfold Lib.itoa at hc
 split at hc
 ·rcases List.mem_cons.1 hc with hc|hc
  ·exact .inl hc
  ·exact .inr (dec_all _ _ (Nat.lt_succ_self _) c hc)
 ·exact .inr (dec_all _ _ (Nat.lt_succ_self _) c hc)
theorem six_hex:∀n:Fin 16,six (hexOf n.val)=n.val:=by decide
theorem esc_hex (c:UInt8) (r:List UInt8):escS (120::hexOf (c.toNat/16)::hexOf (c.toNat % 16)::r)=(c,3):=by
 have hc:=c.toNat_lt
 have h1:six (hexOf (c.toNat/16))=(c.toNat/16:Nat):=six_hex ⟨c.toNat/16,by omega⟩
 have h2:six (hexOf (c.toNat % 16))=(c.toNat % 16:Nat):=six_hex ⟨c.toNat % 16,by omega⟩
 rw[escS,if_neg (by decide),if_neg (by decide),if_neg (by decide),if_pos rfl]
 simp only[h1,h2]
 rw[if_pos ⟨by omega,by omega⟩]
 have:(16*((c.toNat/16:Nat):Int)+((c.toNat % 16:Nat):Int)).toNat=c.toNat:=by omega
 rw[this]
 simp
theorem quote_lit (at_:Nat) (post:List UInt8):∀(t:List UInt8) (i:Nat) (out:List UInt8),litR at_ (quoteL t++34::post) i out= .ok (out++t,i+(quoteL t).length+1)
 | [],i,out=>by
  rw[quoteL,List.nil_append,litR,if_pos rfl]
  simp
 |c::t,i,out=>by
  have ih:=quote_lit at_ post t
  rw[quoteL,List.append_assoc]
  by_cases h1:c=34∨c=92
  ·have hq:quoteC c=[92,c]:=by rw[quoteC,if_pos h1]
   have he:escS (c::(quoteL t++34::post))=(c,1):=by
    rcases h1 with rfl|rfl<;>rfl
   rw[hq,List.cons_append,List.cons_append,List.nil_append,litR,if_neg (by decide),if_neg (by decide),if_pos rfl,he]
   simp only
   rw[if_neg (by decide),show(c::(quoteL t++34::post)).drop 1=quoteL t++34::post from rfl,ih]
   simp only[List.length_cons,List.append_assoc,List.cons_append,List.nil_append]
   congr 2
   omega
  ·by_cases h2:c=10
   ·subst h2
    have he:escS (110::(quoteL t++34::post))=(10,1):=rfl
    rw[show quoteC 10=[92,110] from rfl,List.cons_append,List.cons_append,List.nil_append,litR,if_neg (by decide),if_neg (by decide),if_pos rfl,he]
    simp only
    rw[if_neg (by decide),show(110::(quoteL t++34::post)).drop 1=quoteL t++34::post from rfl,ih]
    simp only[List.length_cons,List.append_assoc,List.cons_append,List.nil_append]
    congr 2
    omega
   ·by_cases h3:c=9
    ·subst h3
     have he:escS (116::(quoteL t++34::post))=(9,1):=rfl
     rw[show quoteC 9=[92,116] from rfl,List.cons_append,List.cons_append,List.nil_append,litR,if_neg (by decide),if_neg (by decide),if_pos rfl,he]
     simp only
     rw[if_neg (by decide),show(116::(quoteL t++34::post)).drop 1=quoteL t++34::post from rfl,ih]
     simp only[List.length_cons,List.append_assoc,List.cons_append,List.nil_append]
     congr 2
     omega
    ·by_cases h4:c.toNat<32∨126<c.toNat
     ·have hq:quoteC c=[92,120,hexOf (c.toNat/16),hexOf (c.toNat % 16)]:=by rw[quoteC,if_neg h1,if_neg h2,if_neg h3,if_pos h4]
      rw[hq,List.cons_append,List.cons_append,List.cons_append,List.cons_append,List.nil_append,litR,if_neg (by decide),if_neg (by decide),if_pos rfl,esc_hex]
      simp only
      rw[if_neg (by decide),show(120::hexOf (c.toNat/16)::hexOf (c.toNat % 16)::(quoteL t++34::post)).drop 3=quoteL t++34::post from rfl,ih]
      simp only[List.length_cons,List.append_assoc,List.cons_append,List.nil_append]
      congr 2
      omega
     ·have hq:quoteC c=[c]:=by rw[quoteC,if_neg h1,if_neg h2,if_neg h3,if_neg h4]
      rw[hq,List.cons_append,List.nil_append,litR,if_neg (fun e=>h1 (.inl e)),if_neg h2,if_neg (fun e=>h1 (.inr e)),ih]
      simp only[List.length_cons,List.append_assoc,List.cons_append,List.nil_append]
      congr 2
      omega
theorem unquote_back {t:List UInt8} (h:t.length≤65536):unquoteL (34::quoteL t++ [34])=some t:=by
 unfold unquoteL
 rw[List.cons_append]
 simp only
 rw[quote_lit 0 [] t 1 []]
 simp only[List.nil_append,List.length_cons,List.length_append,List.length_nil]
 rw[if_neg (by omega)]
theorem cutAt_at {c:UInt8}:∀ {w:List UInt8} (r:List UInt8),c ∉ w→cutAt c (w++c::r)=(w,some r)
 | [],r,_=>by rw[List.nil_append,cutAt,if_pos rfl]
 |x::w,r,h=>by
  have hx:x≠c:=fun e=>h (e▸List.mem_cons_self ..)
  rw[List.cons_append,cutAt,if_neg hx,cutAt_at r fun hc=>h (List.mem_cons_of_mem _ hc)]
theorem cutAt_none {c:UInt8}:∀ {w:List UInt8},c ∉ w→cutAt c w=(w,none)
 | [],_=>rfl
 |x::w,h=>by
  have hx:x≠c:=fun e=>h (e▸List.mem_cons_self ..)
  rw[cutAt,if_neg hx,cutAt_none fun hc=>h (List.mem_cons_of_mem _ hc)]
theorem splitC_at {c:UInt8}:∀(t:List (List UInt8)) (w:List UInt8),c ∉ w→(∀x∈t,c ∉ x)→splitC c (w++t.flatMap (c::·))=w::t
 | [],w,h,_=>by rw[List.flatMap_nil,List.append_nil,splitC_cut,cutAt_none h]
 |x::t,w,h,ht=>by
  rw[List.flatMap_cons,List.cons_append,splitC_cut,cutAt_at _ h]
  simp only
  rw[splitC_at t x (ht x (List.mem_cons_self ..)) fun y hy=>ht y (List.mem_cons_of_mem _ hy)]
theorem itoa_no (n:Int) {c:UInt8} (h:c≠45) (h2:c.toNat<48):c ∉ Lib.itoa n:=fun hc=>by
 rcases itoa_chars n c hc with e|⟨e,_⟩
 ·exact h e
 ·omega
theorem nameLoop_all:∀(l:List UInt8) (f:Bool),nameLoop l f=true→∀c∈l,letterB c.toNat=true∨digitB c.toNat=true
 | [],_,_,c,hc=>by cases hc
 |x::l,f,h,c,hc=>by
  rw[nameLoop] at h
  split at h
  ·cases h
  ·rename_i hx
   rcases List.mem_cons.1 hc with e|hc
   ·rw[e]
    by_cases hl:letterB x.toNat=true
    ·exact .inl hl
    ·by_cases hd:digitB x.toNat=true
     ·exact .inr hd
     ·exfalso;apply hx;simp at hl hd;simp[hl,hd]
   ·exact nameLoop_all l false h c hc
theorem name_no {s:List UInt8} (h:nameL s=true) {c:UInt8} (hc:c=32∨c=10∨c=46∨c=9∨c=45):c ∉ s:=fun hm=>by
 unfold nameL nameB at h
 simp only[Bool.and_eq_true] at h
 have:=nameLoop_all _ _ h.1 c hm
 rcases hc with rfl|rfl|rfl|rfl|rfl<;>revert this<;>decide
theorem name_ne {s:List UInt8} (h:nameL s=true):s≠ []:=fun e=>by
 subst e
 revert h
 decide
theorem name_len {s:List UInt8} (h:nameL s=true):s.length≤40:=by
 unfold nameL nameB at h
 simp only[Bool.and_eq_true,decide_eq_true_eq] at h
 exact h.2.2.1
theorem declared_no {s:List UInt8} (h:declaredB s=true) {c:UInt8} (hc:c=32∨c=10∨c=45):c ∉ s:=by
 unfold declaredB at h
 have h3:c=32∨c=10∨c=46∨c=9∨c=45:=by rcases hc with rfl|rfl|rfl<;>decide
 rcases hcut:cutAt 46 s with⟨t,_|m⟩
 ·rw[hcut] at h
  rw[cutAt_no hcut]
  exact name_no h h3
 ·rw[hcut] at h
  simp only[Bool.and_eq_true] at h
  rw[cutAt_yes hcut]
  intro hm
  rcases List.mem_append.1 hm with hm|hm
  ·exact name_no h.1 h3 hm
  ·rcases List.mem_cons.1 hm with e|hm
   ·rw[e] at hc;revert hc;decide
   ·exact name_no h.2 h3 hm
theorem hexOf_no:∀n:Fin 16,hexOf n.val≠10:=by decide
theorem quote_no:∀t:List UInt8,(10:UInt8) ∉ quoteL t
 | []=>by simp[quoteL]
 |c::t=>by
  have ih:=quote_no t
  have hc:=c.toNat_lt
  rw[quoteL]
  intro hm
  rcases List.mem_append.1 hm with hm|hm
  ·unfold quoteC at hm
   split at hm
   ·rename_i h1
    rcases h1 with rfl|rfl<;>revert hm<;>decide
   ·split at hm
    ·revert hm;decide
    ·split at hm
     ·revert hm;decide
     ·split at hm
      ·have h1:=hexOf_no ⟨c.toNat/16,by omega⟩
       have h2:=hexOf_no ⟨c.toNat % 16,by omega⟩
       simp only[List.mem_cons,List.not_mem_nil,or_false] at hm
       rcases hm with hm|hm|hm|hm
       ·revert hm;decide
       ·revert hm;decide
       ·exact h1 hm.symm
       ·exact h2 hm.symm
      ·rename_i h2 _ _
       exact h2 (List.mem_singleton.1 hm).symm
  ·exact ih hm
def FnLine (f:Cf):Prop:=(32:UInt8) ∉ f.name.data.toList∧(10:UInt8) ∉ f.name.data.toList∧f.name.data.toList≠ [45]∧okI f.params∧okI f.slots∧okI f.around∧∀t∈f.taken,okI t
def InsLine (x:Ci):Prop:=1≤x.op∧x.op≤53∧okI x.a∧okI x.b∧okI x.at_∧x.text.data.toList.length≤65536
theorem word_no:∀n:Fin 54,(32:UInt8) ∉ (formOf (n.val:Int)).word∧(10:UInt8) ∉ (formOf (n.val:Int)).word∧(n.val≠0→operationL (formOf (n.val:Int)).word=n.val):=by decide
theorem inst_read {x:Ci} (h:InsLine x):∃s,instL x=9::s++ [10]∧(10:UInt8) ∉ (9::s)∧instR s=some x:=by
 obtain⟨h1,h2,h3,h4,h5,h6⟩:=h
 obtain⟨n,hn⟩:∃n:Nat,x.op=n:=⟨x.op.toNat,by omega⟩
 obtain⟨w1,w2,w3⟩:=word_no ⟨n,by omega⟩
 simp only at w1 w2 w3
 rw[←hn] at w1 w2 w3
 have w3:=w3 (by omega)
 have i1:=fun n=>itoa_no n (c:=32) (by decide) (by decide)
 have i2:=fun n=>itoa_no n (c:=10) (by decide) (by decide)
 have hints:intsL [Lib.itoa x.a,Lib.itoa x.b,Lib.itoa x.at_]=some [x.a,x.b,x.at_]:=ints_all [x.a,x.b,x.at_] (by
  intro n hn
  simp only[List.mem_cons,List.not_mem_nil,or_false] at hn
  rcases hn with rfl|rfl|rfl<;>assumption)
 have hop0:operationL (formOf x.op).word≠0:=by rw[w3];omega
 have hopx:((operationL (formOf x.op).word:Nat):Int)=x.op:=by rw[w3,hn]
 by_cases ht:x.text.data.toList=[]
 ·refine⟨(formOf x.op).word++32::(Lib.itoa x.a++32::(Lib.itoa x.b++32::Lib.itoa x.at_)), ?_, ?_, ?_⟩
  ·unfold instL
   rw[if_pos ht,words_eq]
   simp
  ·intro hm
   simp only[List.mem_cons,List.mem_append] at hm
   rcases hm with e|e|e|e|e|e|e|e
   ·revert e;decide
   ·exact w2 e
   ·revert e;decide
   ·exact i2 _ e
   ·revert e;decide
   ·exact i2 _ e
   ·revert e;decide
   ·exact i2 _ e
  ·unfold instR
   rw[splitM,cutAt_at _ w1]
   simp only
   rw[splitM,cutAt_at _ (i1 _)]
   simp only
   rw[splitM,cutAt_at _ (i1 _)]
   simp only
   rw[splitM,cutAt_none (i1 _)]
   simp only[hints,if_neg hop0,hopx]
   refine congrArg some ?_
   cases x
   simp only at ht⊢
   congr 1
   apply ByteArray.ext
   exact(Array.toList_inj.1 ht).symm
 ·refine⟨(formOf x.op).word++32::(Lib.itoa x.a++32::(Lib.itoa x.b++32::(Lib.itoa x.at_++32::(34::quoteL x.text.data.toList++ [34])))), ?_, ?_, ?_⟩
  ·unfold instL
   rw[if_neg ht,words_eq]
   simp
  ·intro hm
   simp only[List.mem_cons,List.mem_append,List.not_mem_nil,or_false] at hm
   rcases hm with e|e|e|e|e|e|e|e|e|e
   ·revert e;decide
   ·exact w2 e
   ·revert e;decide
   ·exact i2 _ e
   ·revert e;decide
   ·exact i2 _ e
   ·revert e;decide
   ·exact i2 _ e
   ·revert e;decide
   ·rcases e with(e|e)|e
    ·revert e;decide
    ·exact quote_no _ e
    ·revert e;decide
  ·unfold instR
   rw[splitM,cutAt_at _ w1]
   simp only
   rw[splitM,cutAt_at _ (i1 _)]
   simp only
   rw[splitM,cutAt_at _ (i1 _)]
   simp only
   rw[splitM,cutAt_at _ (i1 _)]
   simp only
   rw[splitM]
   simp only[hints,if_neg hop0,hopx,unquote_back h6]
   rw[if_neg (by rintro(e|e);exact ht e;exact e rfl)]
theorem func_read {f:Cf} (h:FnLine f):∃s,funcL f=s++(10::f.code.flatMap instL)∧(10:UInt8) ∉ s∧(∀r,s≠9::r)∧openedL (splitC 32 s)=some {f with code:=[]}:=by
 obtain⟨h1,h2,h3,h4,h5,h6,h7⟩:=h
 have i1:=fun n=>itoa_no n (c:=32) (by decide) (by decide)
 have i2:=fun n=>itoa_no n (c:=10) (by decide) (by decide)
 obtain⟨nm,hnm⟩:∃nm,(if f.name.data.toList=[] then [45] else f.name.data.toList)=nm:=⟨_,rfl⟩
 have n1:(32:UInt8) ∉ nm:=by rw[←hnm];split;decide;exact h1
 have n2:(10:UInt8) ∉ nm:=by rw[←hnm];split;decide;exact h2
 have n3:nm≠ []:=by rw[←hnm];split;simp;assumption
 have n4:(if nm=[45] then([]:List UInt8) else nm)=f.name.data.toList:=by
  rw[←hnm]
  by_cases h0:f.name.data.toList=[]
  ·rw[if_pos h0,if_pos rfl,h0]
  ·rw[if_neg h0,if_neg h3]
 have hints:=ints_all (f.params::f.slots::f.around::f.taken) (by
  intro n hn
  simp only[List.mem_cons] at hn
  rcases hn with rfl|rfl|rfl|hn
  ·exact h4
  ·exact h5
  ·exact h6
  ·exact h7 n hn)
 have hs:splitC 32 ([102,117,110,99]++(nm::(f.params::f.slots::f.around::f.taken).map Lib.itoa).flatMap (32::·))=[102,117,110,99]::nm::(f.params::f.slots::f.around::f.taken).map Lib.itoa:=
  splitC_at _ _ (by decide) (by
   intro x hx
   rcases List.mem_cons.1 hx with rfl|hx
   ·exact n1
   ·obtain⟨n,_,rfl⟩:=List.mem_map.1 hx
    exact i1 n)
 refine⟨[102,117,110,99]++(nm::(f.params::f.slots::f.around::f.taken).map Lib.itoa).flatMap (32::·), ?_, ?_, ?_, ?_⟩
 ·unfold funcL
  rw[hnm,words_eq,words_eq]
  simp
 ·intro hm
  rcases List.mem_append.1 hm with hm|hm
  ·revert hm;decide
  ·obtain⟨x,hx,hm2⟩:=List.mem_flatMap.1 hm
   rcases List.mem_cons.1 hm2 with e|hm3
   ·revert e;decide
   ·rcases List.mem_cons.1 hx with e|hx
    ·exact n2 (e▸hm3)
    ·obtain⟨n,_,rfl⟩:=List.mem_map.1 hx
     exact i2 n hm3
 ·intro r e
  injection e with e _
  revert e;decide
 ·rw[hs]
  simp only[List.map_cons] at hints⊢
  unfold openedL
  simp only[hints]
  rw[if_neg (by rintro(e|e);exact e rfl;exact n3 e),n4]
theorem line_inst {p:Cp} {i:Nat} {s:List UInt8} {x:Ci} {fs:List Cf} {g:Cf} (hi:i≠0) (hx:instR s=some x) (hp:p.funcs=fs++ [g]):lineL p i (9::s)=some {p with funcs:=fs++ [{g with code:=g.code++ [x]}]}:=by
 unfold lineL
 rw[if_neg hi]
 simp only[hx,hp]
 rw[show(fs++ [g]).getLast? =some g by simp,show(fs++ [g]).dropLast=fs by simp]
theorem lines_insts:∀(code:List Ci) (f i:Nat) (rest:List UInt8) (fs:List Cf) (g:Cf) (gl:List ByteArray),i≠0→(∀x∈code,InsLine x)→
  linesL (f+code.length) (code.flatMap instL++rest) i ⟨fs++ [g],gl⟩=linesL f rest (i+code.length) ⟨fs++ [{g with code:=g.code++code}],gl⟩
 | [],f,i,rest,fs,g,gl,_,_=>by
  cases g
  simp
 |x::code,f,i,rest,fs,g,gl,hi,h=>by
  obtain⟨s,h1,h2,h3⟩:=inst_read (h x (List.mem_cons_self ..))
  have hne:¬((x::code).flatMap instL++rest=[]):=by rw[List.flatMap_cons,h1];simp
  have hcut:cutAt 10 ((x::code).flatMap instL++rest)=(9::s,some (code.flatMap instL++rest)):=by
   rw[List.flatMap_cons,h1,List.append_assoc,List.append_assoc]
   exact cutAt_at _ h2
  rw[List.length_cons,←Nat.add_assoc,linesL,if_neg hne,hcut]
  simp only
  rw[line_inst (p:=⟨fs++ [g],gl⟩) hi h3 rfl]
  simp only
  rw[lines_insts code f (i+1) rest fs _ gl (by omega) fun y hy=>h y (List.mem_cons_of_mem _ hy)]
  simp only[List.append_assoc,List.cons_append,List.nil_append]
  rw[show i+1+code.length=i+(code.length+1) by omega]
def lineCount:List Cf→Nat
 | []=>0
 |f::r=>1+f.code.length+lineCount r
theorem lines_funcs:∀(l:List Cf) (f i:Nat) (fs:List Cf) (gl:List ByteArray),i≠0→(∀g∈l,FnLine g∧∀x∈g.code,InsLine x)→
  linesL (f+1+lineCount l) (l.flatMap funcL) i ⟨fs,gl⟩=(⟨fs++l,gl⟩,none)
 | [],f,i,fs,gl,_,_=>by
  rw[List.flatMap_nil,List.append_nil,lineCount,Nat.add_zero,linesL,if_pos rfl]
 |g::l,f,i,fs,gl,hi,h=>by
  obtain⟨hg,hc⟩:=h g (List.mem_cons_self ..)
  obtain⟨s,h1,h2,h3,h4⟩:=func_read hg
  have hne:¬((g::l).flatMap funcL=[]):=by rw[List.flatMap_cons,h1];simp
  have hcut:cutAt 10 ((g::l).flatMap funcL)=(s,some (g.code.flatMap instL++l.flatMap funcL)):=by
   rw[List.flatMap_cons,h1,List.append_assoc,List.cons_append]
   exact cutAt_at _ h2
  have hl:lineL ⟨fs,gl⟩ i s=some ⟨fs++ [{g with code:=[]}],gl⟩:=by
   unfold lineL
   rw[if_neg hi]
   split
   ·rename_i r;exact absurd rfl (h3 r)
   ·rw[h4];rfl
  rw[lineCount,show f+1+(1+g.code.length+lineCount l)=(f+1+lineCount l+g.code.length)+1 by omega,linesL,if_neg hne,hcut]
  simp only[hl]
  rw[lines_insts g.code _ (i+1) _ fs _ gl (by omega) hc,lines_funcs l f _ _ gl (by omega) fun y hy=>h y (List.mem_cons_of_mem _ hy)]
  simp only[List.nil_append,List.append_assoc,List.cons_append]
theorem count_le:∀l:List Cf,lineCount l≤(l.flatMap funcL).length
 | []=>Nat.le_refl _
 |g::l=>by
  have ih:=count_le l
  have h1:g.code.length≤(g.code.flatMap instL).length:=flat_ge' g.code
  rw[lineCount,List.flatMap_cons,List.length_append]
  have h2:(funcL g).length≥1+(g.code.flatMap instL).length:=by
   unfold funcL
   rw[List.length_append,List.length_cons]
   omega
  omega
where flat_ge':∀l:List Ci,l.length≤(l.flatMap instL).length
 | []=>Nat.le_refl _
 |x::l=>by
  have:=flat_ge' l
  have h:0<(instL x).length:=by unfold instL;simp only[List.length_append,List.length_cons];omega
  rw[List.flatMap_cons,List.length_append,List.length_cons]
  omega
def CpLine (p:Cp):Prop:=(∀s∈p.globals,nameL s.data.toList=true)∧∀g∈p.funcs,FnLine g∧∀x∈g.code,InsLine x
theorem list_back {p:Cp} (h:CpLine p):readL (listL p)=(p,none):=by
 obtain⟨hg,hf⟩:=h
 have hL:listL p=([103,108,111,98,97,108,115]++(p.globals.map fun s=>s.data.toList).flatMap (32::·))++10::p.funcs.flatMap funcL:=by
  unfold listL
  rw[List.flatMap_map]
  simp
 obtain⟨w,hw⟩:∃w,[103,108,111,98,97,108,115]++(p.globals.map fun s=>s.data.toList).flatMap (32::·)=w:=⟨_,rfl⟩
 have hw10:(10:UInt8) ∉ w:=by
  rw[←hw]
  intro hm
  rcases List.mem_append.1 hm with hm|hm
  ·revert hm;decide
  ·obtain⟨x,hx,hm⟩:=List.mem_flatMap.1 hm
   obtain⟨s,hs,rfl⟩:=List.mem_map.1 hx
   rcases List.mem_cons.1 hm with e|hm
   ·revert e;decide
   ·exact name_no (hg s hs) (.inr (.inl rfl)) hm
 have hsp:splitC 32 w=[103,108,111,98,97,108,115]::p.globals.map fun s=>s.data.toList:=by
  rw[←hw]
  refine splitC_at _ _ (by decide) fun x hx=> ?_
  obtain⟨s,hs,rfl⟩:=List.mem_map.1 hx
  exact name_no (hg s hs) (.inl rfl)
 have hl:lineL ⟨[],[]⟩ 0 w=some ⟨[],p.globals⟩:=by
  unfold lineL
  rw[if_pos rfl,hsp]
  simp only
  rw[if_neg]
  ·simp only[List.map_map]
   refine congrArg some (congrArg _ ?_)
   exact(List.map_congr_left fun x _=>rfl).trans (List.map_id _)
  ·rintro(e|e)
   ·rw[List.contains_iff_mem] at e
    obtain⟨s,hs,e⟩:=List.mem_map.1 e
    exact name_ne (hg s hs) e
   ·exact e rfl
 rw[hL,hw]
 have hne:¬(w++10::p.funcs.flatMap funcL=[]):=by simp
 unfold readL
 rw[if_neg hne,linesL,if_neg hne,cutAt_at _ hw10]
 simp only[hl]
 have hc:=count_le p.funcs
 obtain⟨f,hf'⟩:∃f,(w++10::p.funcs.flatMap funcL).length=f+1+lineCount p.funcs:=⟨(w++10::p.funcs.flatMap funcL).length-1-lineCount p.funcs,by rw[List.length_append,List.length_cons];omega⟩
 rw[hf',lines_funcs p.funcs f 1 [] p.globals (by decide) hf]
 rfl
def vs (h:Nat):List UInt8:=List.replicate h 118
theorem vs_len (h:Nat):(vs h).length=h:=by simp[vs]
theorem vs_succ (h:Nat):vs (h+1)=118::vs h:=rfl
theorem less_vs:∀(n h:Nat),n≤h→lessP (vs h) 118 n=some (vs (h-n))
 |0,h,_=>by rw[lessP,Nat.sub_zero]
 |n+1,0,hn=>by omega
 |n+1,h+1,hn=>by
  rw[vs_succ,lessP,if_pos (.inl rfl),less_vs n h (by omega)]
  congr 2
  omega
theorem takes_vs:∀(a h:Nat),a≤h→takesP (vs h) (vs a)=some (vs (h-a))
 |0,h,_=>by rw[show vs 0=[] from rfl,takesP,Nat.sub_zero]
 |a+1,h,ha=>by
  rw[vs_succ,takesP,less_vs 1 h (by omega)]
  simp only
  rw[takes_vs a (h-1) (by omega)]
  congr 2
  omega
theorem lays_vs:∀(b h:Nat),h+b≤30000→laysP (vs h) (vs b)=some (vs (h+b))
 |0,h,_=>by rw[show vs 0=[] from rfl,laysP,Nat.add_zero]
 |b+1,h,hb=>by
  rw[vs_succ,laysP,if_neg (by rw[vs_len];omega),←vs_succ,lays_vs b (h+1) (by omega)]
  congr 2
  omega
theorem leaves_vs {x:Ci} {h c a b:Nat} (hc:countedP x=(118,(c:Int))) (ht:(formOf x.op).takes=vs a) (hl:(formOf x.op).lays=vs b) (hle:c+a≤h) (hmax:h+b≤30000):
  ∃th,leavesP x (vs h)=some (vs (h-(c+a)+b),th):=by
 refine⟨if x.op=36∨x.op=37 then 118::vs (h-(c+a)) else vs (h-(c+a)), ?_⟩
 unfold leavesP
 rw[hc,ht,hl,show(vs a).reverse=vs a by simp[vs]]
 simp only[Int.toNat_natCast]
 rw[less_vs c h (by omega)]
 simp only
 rw[takes_vs a (h-c) (by omega)]
 simp only
 rw[lays_vs b (h-c-a) (by omega)]
 simp only
 rw[show h-c-a=h-(c+a) by omega]
section
variable {slots tops:Nat} {code:List Ci} {ss:List (List UInt8)} {fin:List UInt8}
theorem Gd.add (h:Gd slots tops code ss fin) (pc:List Ci) (ps:List (List UInt8)) (fin':List UInt8) (hl:ps.length=pc.length) (h0:(ps++ [fin'])[0]? =some fin)
  (hf:∀(k:Nat) (x:Ci) (s:List UInt8),pc[k]? =some x→ps[k]? =some s→∃nx th,leavesP x s=some (nx,th)∧(x.op≠34→x.op≠50→(ps++ [fin'])[k+1]? =some nx)∧(goesB x.op=true→∃j,x.a=((code.length+j:Nat):Int)∧(ps++ [fin'])[j]? =some th)):
  Gd slots tops (code++pc) (ss++ps) fin':=by
 have hat:∀(i:Nat) (t:List UInt8),(ss++ [fin])[i]? =some t→(ss++ps++ [fin'])[i]? =some t:=by
  intro i t ht
  rw[List.append_assoc]
  rcases Nat.lt_trichotomy i ss.length with hi|hi|hi
  ·rw[List.getElem?_append_left hi] at ht⊢;exact ht
  ·subst hi
   rw[List.getElem?_append_right (Nat.le_refl _),Nat.sub_self] at ht⊢
   simp only[List.getElem?_cons_zero,Option.some.injEq] at ht
   rw[h0,ht]
  ·rw[List.getElem?_eq_none (by simp;omega)] at ht;cases ht
 have hnew:∀(j:Nat) (t:List UInt8),(ps++ [fin'])[j]? =some t→(ss++ps++ [fin'])[code.length+j]? =some t:=by
  intro j t ht
  rw[List.append_assoc,List.getElem?_append_right (by rw[h.len];omega),h.len,show code.length+j-code.length=j by omega]
  exact ht
 refine⟨by rw[List.length_append,List.length_append,h.len,hl],hat 0 _ h.first,fun k x s hx hs=> ?_⟩
 rcases Nat.lt_or_ge k code.length with hk|hk
 ·rw[List.getElem?_append_left hk] at hx
  rw[List.getElem?_append_left (by rw[h.len];exact hk)] at hs
  obtain⟨nx,th,h1,h2,h3⟩:=h.fit k x s hx hs
  exact⟨nx,th,h1,fun a b=>hat _ _ (h2 a b),fun g=>hat _ _ (h3 g)⟩
 ·rw[List.getElem?_append_right hk] at hx
  rw[List.getElem?_append_right (by rw[h.len];exact hk),h.len] at hs
  obtain⟨nx,th,h1,h2,h3⟩:=hf _ x s hx hs
  refine⟨nx,th,h1,fun a b=> ?_,fun g=> ?_⟩
  ·have:=hnew _ _ (h2 a b)
   rw[show code.length+(k-code.length+1)=k+1 by omega] at this
   exact this
  ·obtain⟨j,e1,e2⟩:=h3 g
   rw[e1,Int.toNat_natCast]
   exact hnew _ _ e2
theorem Gd.one {h:Nat} (hg:Gd slots tops code ss (vs h)) (x:Ci) {c a b:Nat} (hc:countedP x=(118,(c:Int))) (ht:(formOf x.op).takes=vs a) (hl:(formOf x.op).lays=vs b) (hgo:goesB x.op=false) (hle:c+a≤h) (hmax:h+b≤30000):
  Gd slots tops (code++ [x]) (ss++ [vs h]) (vs (h-(c+a)+b)):=by
 refine hg.add [x] [vs h] _ rfl rfl fun k y s hy hs=> ?_
 cases k with
 |succ k=>simp at hy
 |zero=>
  simp only[List.getElem?_cons_zero,Option.some.injEq] at hy hs
  subst hy;subst hs
  obtain⟨th,e⟩:=leaves_vs hc ht hl hle hmax
  exact⟨_,th,e,fun _ _=>rfl,fun g=>by rw[hgo] at g;cases g⟩
end
theorem leaves_lit (op:Int) (tk ly:List UInt8) (hf:(formOf op).takes=tk∧(formOf op).lays=ly∧op≠36∧op≠37∧¬(op=27∨op=29∨op=46∨op=47∨op=48∨op=49)∧op≠28∧op≠26∧op≠53) {a:Int} {t:ByteArray} {p:Int} {s s2 s3:List UInt8}
  (h2:takesP s tk.reverse=some s2) (h3:laysP s2 ly=some s3):leavesP ⟨op,a,0,t,p⟩ s=some (s3,s2):=by
 obtain⟨f1,f2,f3,f4,f5,f6,f7,f8⟩:=hf
 have hc:countedP ⟨op,a,0,t,p⟩=(118,0):=by
  unfold countedP
  rw[if_neg f5,if_neg f6,if_neg f7,if_neg f8]
 unfold leavesP
 rw[hc]
 simp only[f1,f2]
 rw[show(0:Int).toNat=0 from rfl,lessP]
 simp only[h2,h3]
 rw[if_neg (by rintro(e|e);exact f3 e;exact f4 e)]
theorem lays_one {s:List UInt8} {c:UInt8} (h:s.length+1≤30000):laysP s [c]=some (c::s):=by
 rw[laysP,if_neg (by omega)];rfl
theorem lays_two {s:List UInt8} {c d:UInt8} (h:s.length+2≤30000):laysP s [c,d]=some (d::c::s):=by
 rw[laysP,if_neg (by omega),lays_one (by simp only[List.length_cons];omega)]
theorem Gd.place {slots tops:Nat} {code:List Ci} {ss:List (List UInt8)} {h:Nat} (hg:Gd slots tops code ss (vs h)) (hmax:h+2≤30000) (a:Int) (t1 t2 t3 t4:ByteArray) (p1 p2 p3 p4:Int):
  Gd slots tops (code++ [⟨38,a,0,t1,p1⟩,⟨43,0,0,t2,p2⟩,⟨44,0,0,t3,p3⟩,⟨45,0,0,t4,p4⟩]) (ss++ [vs h,112::vs h,112::vs h,118::112::vs h]) (vs h):=by
 have hl:=vs_len h
 refine hg.add _ _ _ rfl rfl fun k y s hy hs=> ?_
 match k,hy,hs with
 |0,hy,hs=>
  simp only[List.getElem?_cons_zero,Option.some.injEq] at hy hs
  subst hy;subst hs
  exact⟨112::vs h,vs h,leaves_lit 38 [] [112] (by decide) (by simp[takesP]) (by rw[lays_one (by omega)]),fun _ _=>rfl,fun g=>by cases g⟩
 |1,hy,hs=>
  simp only[List.getElem?_cons_succ,List.getElem?_cons_zero,Option.some.injEq] at hy hs
  subst hy;subst hs
  exact⟨112::vs h,vs h,leaves_lit 43 [63] [112] (by decide) (by simp[takesP,lessP]) (by rw[lays_one (by omega)]),fun _ _=>rfl,fun g=>by cases g⟩
 |2,hy,hs=>
  simp only[List.getElem?_cons_succ,List.getElem?_cons_zero,Option.some.injEq] at hy hs
  subst hy;subst hs
  exact⟨118::112::vs h,vs h,leaves_lit 44 [112] [112,118] (by decide) (by simp[takesP,lessP]) (by rw[lays_two (by omega)]),fun _ _=>rfl,fun g=>by cases g⟩
 |3,hy,hs=>
  simp only[List.getElem?_cons_succ,List.getElem?_cons_zero,Option.some.injEq] at hy hs
  subst hy;subst hs
  exact⟨vs h,vs h,leaves_lit 45 [112,118] [] (by decide) (by simp[takesP,lessP]) rfl,fun _ _=>rfl,fun g=>by cases g⟩
 |k+4,hy,_=>simp at hy
theorem Gd.loop {slots tops:Nat} {code:List Ci} {ss:List (List UInt8)} {h:Nat} (hg:Gd slots tops code ss (vs (h+1))) (hmax:h+3≤30000) (t1 t2 t3 t4 t5 t6:ByteArray) (p1 p2 p3 p4 p5 p6:Int):
  Gd slots tops (code++ [⟨51,0,0,t1,p1⟩,⟨2,0,0,t2,p2⟩,⟨52,((code.length+6:Nat):Int),0,t3,p3⟩,⟨16,0,0,t4,p4⟩,⟨16,0,0,t5,p5⟩,⟨34,((code.length+1:Nat):Int),0,t6,p6⟩])
   (ss++ [vs (h+1),116::vs h,116::vs h,118::118::116::vs h,118::116::vs h,116::vs h]) (vs h):=by
 have hl:=vs_len h
 refine hg.add _ _ _ rfl rfl fun k y s hy hs=> ?_
 match k,hy,hs with
 |0,hy,hs=>
  simp only[List.getElem?_cons_zero,Option.some.injEq] at hy hs
  subst hy;subst hs
  exact⟨116::vs h,vs h,leaves_lit 51 [118] [116] (by decide) (by simp[takesP,lessP,vs_succ]) (by rw[lays_one (by omega)]),fun _ _=>rfl,fun g=>by cases g⟩
 |1,hy,hs=>
  simp only[List.getElem?_cons_succ,List.getElem?_cons_zero,Option.some.injEq] at hy hs
  subst hy;subst hs
  exact⟨116::vs h,116::vs h,leaves_lit 2 [] [] (by decide) (by simp[takesP]) rfl,fun _ _=>rfl,fun g=>by cases g⟩
 |2,hy,hs=>
  simp only[List.getElem?_cons_succ,List.getElem?_cons_zero,Option.some.injEq] at hy hs
  subst hy;subst hs
  exact⟨118::118::116::vs h,vs h,leaves_lit 52 [116] [116,118,118] (by decide) (by simp[takesP,lessP]) (by rw[laysP,if_neg (by omega),lays_two (by simp only[List.length_cons];omega)]),fun _ _=>rfl,fun _=>⟨6,rfl,rfl⟩⟩
 |3,hy,hs=>
  simp only[List.getElem?_cons_succ,List.getElem?_cons_zero,Option.some.injEq] at hy hs
  subst hy;subst hs
  exact⟨118::116::vs h,118::116::vs h,leaves_lit 16 [118] [] (by decide) (by simp[takesP,lessP]) rfl,fun _ _=>rfl,fun g=>by cases g⟩
 |4,hy,hs=>
  simp only[List.getElem?_cons_succ,List.getElem?_cons_zero,Option.some.injEq] at hy hs
  subst hy;subst hs
  exact⟨116::vs h,116::vs h,leaves_lit 16 [118] [] (by decide) (by simp[takesP,lessP]) rfl,fun _ _=>rfl,fun g=>by cases g⟩
 |5,hy,hs=>
  simp only[List.getElem?_cons_succ,List.getElem?_cons_zero,Option.some.injEq] at hy hs
  subst hy;subst hs
  exact⟨116::vs h,116::vs h,leaves_lit 34 [] [] (by decide) (by simp[takesP]) rfl,fun g=>absurd rfl g,fun _=>⟨1,rfl,rfl⟩⟩
 |k+6,hy,_=>simp at hy
theorem Gd.pass {slots tops:Nat} {code:List Ci} {ss:List (List UInt8)} {h:Nat} (hg:Gd slots tops code ss (vs (h+1))) (hmax:h+1≤30000) (t1 t2 t3:ByteArray) (p1 p2 p3:Int):
  Gd slots tops (code++ [⟨35,((code.length+3:Nat):Int),0,t1,p1⟩,⟨7,0,0,t2,p2⟩,⟨16,0,0,t3,p3⟩]) (ss++ [vs (h+1),vs h,vs (h+1)]) (vs h):=by
 have hl:=vs_len h
 refine hg.add _ _ _ rfl rfl fun k y s hy hs=> ?_
 match k,hy,hs with
 |0,hy,hs=>
  simp only[List.getElem?_cons_zero,Option.some.injEq] at hy hs
  subst hy;subst hs
  exact⟨vs h,vs h,leaves_lit 35 [118] [] (by decide) (by simp[takesP,lessP,vs_succ]) rfl,fun _ _=>rfl,fun _=>⟨3,rfl,rfl⟩⟩
 |1,hy,hs=>
  simp only[List.getElem?_cons_succ,List.getElem?_cons_zero,Option.some.injEq] at hy hs
  subst hy;subst hs
  exact⟨vs (h+1),vs h,leaves_lit 7 [] [118] (by decide) (by simp[takesP]) (by rw[lays_one (by omega)];rfl),fun _ _=>rfl,fun g=>by cases g⟩
 |2,hy,hs=>
  simp only[List.getElem?_cons_succ,List.getElem?_cons_zero,Option.some.injEq] at hy hs
  subst hy;subst hs
  exact⟨vs h,vs h,leaves_lit 16 [118] [] (by decide) (by simp[takesP,lessP,vs_succ]) rfl,fun _ _=>rfl,fun g=>by cases g⟩
 |k+3,hy,_=>simp at hy
end Go.Proofs.YtdjbkppdppdcgaaGreatDoor
