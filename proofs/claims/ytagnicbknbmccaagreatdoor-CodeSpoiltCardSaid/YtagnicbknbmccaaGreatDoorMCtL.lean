/- CodeTurns, the plain law: in a right program each way back leads to a step, or to a loop's turn. What the walk over instructions asks of one that is fine by itself. The walk over instructions: what holds from round to round. Where every instruction has a stack that its ways keep, the stack fits: in whatever order they are looked at. The right programs that the laws make of raw numbers, in plain form. What the makers of right programs make keeps its stacks. What the makers of right programs make is fine by itself, each instruction, and keeps its stacks. The programs that the laws make of raw numbers are right: a function's code. What List writes is what Read takes. What List writes of a right program is what Read takes: the whole. What Encode writes is what Decode takes. -/
import Derived.Test.YtagnicbknbmccaaGreatDoorMCdD
import Derived.Test.YtagnicbknbmccaaGreatDoorMLex1
namespace Go.Proofs.YtagnicbknbmccaaGreatDoor
theorem right_codes {p:Cp} (h:rightC p=none):codesFrom p 0 p.funcs=none:=by
 unfold rightC at h
 split at h
 ·cases h
 split at h
 ·cases h
 split at h
 ·cases h
 split at h
 ·cases h
 split at h
 ·cases h
 assumption
theorem codes_at {p:Cp}:∀(l:List Cf) (i:Nat),codesFrom p i l=none→∀(j:Nat) (f:Cf),l[j]? =some f→f.code≠ []∧fineFrom p (i+j) f.code 0 f.code=none
 | [],_,_,j,f,hf=>by simp at hf
 |g::r,i,h,j,f,hf=>by
  rw[codesFrom] at h
  split at h
  ·cases h
  ·rename_i hne
   split at h
   ·cases h
   ·rename_i hfi
    cases j with
    |zero=>
     simp only[List.getElem?_cons_zero,Option.some.injEq] at hf
     subst hf
     exact⟨hne,hfi⟩
    |succ j=>
     rw[List.getElem?_cons_succ] at hf
     have:=codes_at r (i+1) h j f hf
     rw[show i+1+j=i+(j+1) by omega] at this
     exact this
theorem fine_at {p:Cp} {f:Nat} {code:List Ci}:∀(l:List Ci) (k:Nat),fineFrom p f code k l=none→∀(j:Nat) (x:Ci),l[j]? =some x→fineB p f code (k+j) x=true
 | [],_,_,j,x,hx=>by simp at hx
 |y::r,k,h,j,x,hx=>by
  rw[fineFrom] at h
  split at h
  ·rename_i hy
   cases j with
   |zero=>
    simp only[List.getElem?_cons_zero,Option.some.injEq] at hx
    subst hx
    exact hy
   |succ j=>
    rw[List.getElem?_cons_succ] at hx
    have:=fine_at r (k+1) h j x hx
    rw[show k+1+j=k+(j+1) by omega] at this
    exact this
  ·cases h
theorem right_fine {p:Cp} (h:rightC p=none) {i k:Nat} {f:Cf} {x:Ci} (hf:p.funcs[i]? =some f) (hx:f.code[k]? =some x):fineB p i f.code k x=true:=by
 have h1:=(codes_at p.funcs 0 (right_codes h) i f hf).2
 have h2:=fine_at f.code 0 h1 k x hx
 rw[Nat.zero_add,Nat.zero_add] at h2
 exact h2
structure FitI (code:List Ci) (k:Nat) (x:Ci):Prop where
 last:x.op≠34→x.op≠50→k+1<code.length
 goes:goesB x.op=true→0≤x.a∧x.a<code.length
 slice:x.op=26→(x.a=2∨x.a=3)∧(x.b=0∨x.b=1∨x.b=2∨x.b=3)
 count:0≤(countedP x).2∧(countedP x).2≤40000
 op:1≤x.op∧x.op≤53
theorem form_op {op:Int} (h:(formOf op).word.isEmpty=false):1≤op∧op≤53:=by
 unfold formOf at h
 split at h
 ·assumption
 ·cases h
theorem fine_fit {p:Cp} {f:Nat} {o:Cf} {k:Nat} {x:Ci} (ho:p.funcs[f]? =some o) (h:fineB p f o.code k x=true):FitI o.code k x:=by
 unfold fineB at h
 simp only[Bool.and_eq_true,Bool.or_eq_true,decide_eq_true_eq,beq_iff_eq,Bool.not_eq_true'] at h
 obtain⟨hw,_,_,hn,_,hb,_,hl⟩:=h
 have hop:=form_op hw
 unfold numberedB at hn
 rw[ho] at hn
 simp only at hn
 have hc:(formOf x.op).a=7→0≤x.a∧x.a<20001:=fun e=>by rw[e] at hn;simpa using hn
 have hs:x.op=26→x.a=2∨x.a=3:=fun e=>by rw[e,show(formOf 26).a=11 from rfl] at hn;simpa using hn
 refine⟨fun h1 h2=> ?_,fun hg=> ?_,fun e=>⟨hs e, ?_⟩, ?_,hop⟩
 ·rcases hl with hl|hl|hl
  ·exact hl
  ·exact absurd hl h2
  ·exact absurd hl h1
 ·have e:(formOf x.op).a=10:=by simpa[goesB] using hg
  rw[e] at hn
  simpa using hn
 ·rcases hb with hb|⟨_,hb|⟨_,hb|hb⟩⟩
  ·exact .inl hb
  ·exact .inr (.inl hb)
  ·exact .inr (.inr (.inl hb))
  ·exact .inr (.inr (.inr hb))
 ·unfold countedP
  by_cases h1:x.op=27∨x.op=29∨x.op=46∨x.op=47∨x.op=48∨x.op=49
  ·rw[if_pos h1]
   simp only
   rcases h1 with e|e|e|e|e|e
   ·have:=hc (by rw[e];rfl);omega
   ·rw[e,show(formOf 29).a=8 from rfl] at hn
    have:0≤x.a∧x.a<31:=by simpa using hn
    omega
   all_goals (have:=hc (by rw[e];rfl);omega)
  ·rw[if_neg h1]
   by_cases h2:x.op=28
   ·rw[if_pos h2]
    have:=hc (by rw[h2];rfl)
    simp only
    omega
   ·rw[if_neg h2]
    by_cases h3:x.op=26
    ·rw[if_pos h3]
     have:=hs h3
     simp only
     split
     ·omega
     ·split<;>omega
    ·rw[if_neg h3]
     by_cases h4:x.op=53
     ·rw[if_pos h4]
      have:=hc (by rw[h4];rfl)
      simp only
      omega
     ·rw[if_neg h4]
      simp only
      omega
structure Inv (code:List Ci) (c:Cst):Prop where
 at_:c.at_.length=code.length+1
 seen:c.seen.length=code.length
 todo:∀x∈c.todo,∃k:Nat,x=(k:Int)∧k<code.length∧c.at_.getD k none≠none
theorem Inv.hand {code:List Ci} {c:Cst} (h:Inv code c) {k:Nat} (hk:k<code.length) (s:List UInt8):Inv code (handP c k s).1∧(handP c k s).1.mu≤c.mu+1:=by
 obtain⟨h1,h2,h3,h4⟩:=hand_todo c k s
 refine⟨⟨by rw[h4];exact h.at_,by rw[h3];exact h.seen,fun x hx=> ?_⟩, ?_⟩
 ·rcases h1 x hx with hx|hx
  ·obtain⟨j,e1,e2,e3⟩:=h.todo x hx
   exact⟨j,e1,e2,hand_some c k s j (.inl e3)⟩
  ·exact⟨k,hx,hk,hand_some c k s k (.inr ⟨rfl,by rw[h.at_];omega⟩)⟩
 ·unfold Cst.mu
  rw[h3]
  omega
theorem count_set:∀(l:List Bool) (k:Nat),k<l.length→l.getD k false=false→(l.set k true).count false+1=l.count false
 | [],_,h,_=>by simp at h
 |b::l,0,_,h=>by
  simp only[List.getD_cons_zero] at h
  subst h
  simp
 |b::l,k+1,h,h2=>by
  have:=count_set l k (by simpa using h) (by simpa using h2)
  rw[List.set_cons_succ,List.count_cons,List.count_cons]
  omega
theorem pop_at {code:List Ci} {c:Cst} (h:Inv code c) (hne:c.todo≠ []):∃k:Nat,(popL c.todo).1=(k:Int)∧k<code.length∧∃s,c.at_.getD k none=some s:=by
 obtain⟨h1,_,_⟩:=pop_mem hne
 obtain⟨k,e1,e2,e3⟩:=h.todo _ h1
 exact⟨k,e1,e2,Option.ne_none_iff_exists'.1 e3⟩
theorem Inv.pop {code:List Ci} {c:Cst} (h:Inv code c) (hne:c.todo≠ []):Inv code {c with todo:=(popL c.todo).2}∧({c with todo:=(popL c.todo).2}:Cst).mu+1=c.mu:=by
 obtain⟨_,h2,h3⟩:=pop_mem hne
 have h0:0<c.todo.length:=List.length_pos_iff.2 hne
 refine⟨⟨h.at_,h.seen,fun x hx=>h.todo x (h2 x hx)⟩, ?_⟩
 unfold Cst.mu
 simp only
 rw[h3]
 omega
theorem Inv.look {code:List Ci} {c:Cst} (h:Inv code c) {k:Nat} (hk:k<code.length) (hs:c.seen.getD k false=false):Inv code {c with seen:=c.seen.set k true}∧({c with seen:=c.seen.set k true}:Cst).mu+3=c.mu:=by
 refine⟨⟨h.at_,by simp only[List.length_set];exact h.seen,h.todo⟩, ?_⟩
 have:=count_set c.seen k (by rw[h.seen];exact hk) hs
 unfold Cst.mu
 simp only
 omega
theorem Inv.round {code:List Ci} {c:Cst} (h:Inv code c) (hfit:∀(k:Nat) (x:Ci),code[k]? =some x→FitI code k x) (k:Nat):(roundP code c k).1=none→Inv code (roundP code c k).2∧(roundP code c k).2.mu≤c.mu+2:=by
 unfold roundP
 split
 ·rename_i x s hx hs
  have hf:=hfit k x hx
  split
  ·intro h;cases h
  ·rename_i nx th _
   by_cases hj:x.op=34∨x.op=50
   ·simp only[if_pos hj]
    rw[if_neg (by simp)]
    by_cases hg:goesB x.op=true
    ·simp only[if_pos hg]
     obtain⟨g1,g2⟩:=hf.goes hg
     obtain⟨e1,e2⟩:=h.hand (k:=x.a.toNat) (by omega) th
     split
     ·intro h;cases h
     ·intro _;exact⟨e1,by simp only;omega⟩
    ·simp only[if_neg hg]
     rw[if_neg (by simp)]
     intro _;exact⟨h,by simp only;omega⟩
   ·simp only[if_neg hj]
    have hk1:=hf.last (fun e=>hj (.inl e)) (fun e=>hj (.inr e))
    obtain⟨e1,e2⟩:=h.hand (k:=k+1) hk1 nx
    split
    ·intro h;cases h
    ·by_cases hg:goesB x.op=true
     ·simp only[if_pos hg]
      obtain⟨g1,g2⟩:=hf.goes hg
      obtain⟨e3,e4⟩:=e1.hand (k:=x.a.toNat) (by omega) th
      split
      ·intro h;cases h
      ·intro _;exact⟨e3,by simp only;omega⟩
     ·simp only[if_neg hg]
      rw[if_neg (by simp)]
      intro _;exact⟨e1,by simp only;omega⟩
 ·intro _;exact⟨h,by simp only;omega⟩
theorem Inv.begin (code:List Ci) (h0:0<code.length):Inv code ⟨some []::List.replicate code.length none,List.replicate code.length false,[0]⟩∧(⟨some []::List.replicate code.length none,List.replicate code.length false,[0]⟩:Cst).mu=3*code.length+1:=by
 refine⟨⟨by simp,by simp,fun x hx=>⟨0,by simpa using hx,h0,by simp⟩⟩, ?_⟩
 unfold Cst.mu
 simp
def Keeps (S:Nat→Option (List UInt8)) (c:Cst):Prop:=∀(j:Nat) (t:List UInt8),c.at_.getD j none=some t→S j=some t
theorem Keeps.hand {S:Nat→Option (List UInt8)} {c:Cst} (h:Keeps S c) {k:Nat} {s:List UInt8} (hs:S k=some s):Keeps S (handP c k s).1∧(handP c k s).2=true:=by
 unfold handP
 split
 ·refine⟨fun j t ht=> ?_,rfl⟩
  simp only at ht
  rw[List.getD_eq_getElem?_getD,List.getElem?_set] at ht
  by_cases hj:k=j
  ·rw[if_pos hj] at ht
   split at ht
   ·simp only[Option.getD_some,Option.some.injEq] at ht
    rw[←hj,hs,ht]
   ·cases ht
  ·rw[if_neg hj,←List.getD_eq_getElem?_getD] at ht
   exact h j t ht
 ·rename_i t ht
  have:=h k t ht
  rw[hs] at this
  injection this with this
  exact⟨h,by rw[this];simp⟩
theorem fits_keeps {code:List Ci} {S:Nat→Option (List UInt8)}
  (h:∀(k:Nat) (x:Ci) (s:List UInt8),code[k]? =some x→S k=some s→∃nx th,leavesP x s=some (nx,th)∧(x.op≠34→x.op≠50→S (k+1)=some nx)∧(goesB x.op=true→S x.a.toNat=some th)):
  ∀(f:Nat) (c:Cst),Keeps S c→fitsLoop code f c=none
 |0,_,_=>rfl
 |f+1,c,hc=>by
  rw[fitsLoop]
  split
  ·rfl
  ·split
   ·exact fits_keeps h f _ hc
   ·have hr:∀(c:Cst) (k:Nat),Keeps S c→(roundP code c k).1=none∧Keeps S (roundP code c k).2:=by
     intro c k hc
     unfold roundP
     split
     ·rename_i x s hx hs
      obtain⟨nx,th,h1,h2,h3⟩:=h k x s hx (hc k s hs)
      rw[h1]
      simp only
      by_cases hj:x.op=34∨x.op=50
      ·simp only[if_pos hj]
       rw[if_neg (by simp)]
       by_cases hg:goesB x.op=true
       ·simp only[if_pos hg]
        obtain⟨e1,e2⟩:=hc.hand (h3 hg)
        rw[if_neg (by rw[e2];simp)]
        exact⟨rfl,e1⟩
       ·simp only[if_neg hg]
        rw[if_neg (by simp)]
        exact⟨rfl,hc⟩
      ·simp only[if_neg hj]
       obtain⟨e1,e2⟩:=hc.hand (h2 (fun e=>hj (.inl e)) (fun e=>hj (.inr e)))
       rw[if_neg (by rw[e2];simp)]
       by_cases hg:goesB x.op=true
       ·simp only[if_pos hg]
        obtain⟨e3,e4⟩:=e1.hand (h3 hg)
        rw[if_neg (by rw[e4];simp)]
        exact⟨rfl,e3⟩
       ·simp only[if_neg hg]
        rw[if_neg (by simp)]
        exact⟨rfl,e1⟩
     ·exact⟨rfl,hc⟩
    obtain⟨e1,e2⟩:=hr {c with todo:=(popL c.todo).2,seen:=c.seen.set (popL c.todo).1.toNat true} (popL c.todo).1.toNat hc
    split
    ·rename_i e _ he;rw[he] at e1;cases e1
    ·rename_i c' hc'
     rw[hc'] at e2
     exact fits_keeps h f c' e2
theorem fits_none {code:List Ci} {S:Nat→Option (List UInt8)} (h0:S 0=some [])
  (h:∀(k:Nat) (x:Ci) (s:List UInt8),code[k]? =some x→S k=some s→∃nx th,leavesP x s=some (nx,th)∧(x.op≠34→x.op≠50→S (k+1)=some nx)∧(goesB x.op=true→S x.a.toNat=some th)):fitsP code=none:=by
 refine fits_keeps h _ _ fun j t ht=> ?_
 cases j with
 |zero=>
  simp only[List.getD_cons_zero,Option.some.injEq] at ht
  rw[h0,ht]
 |succ j=>
  rw[List.getD_cons_succ,List.getD_eq_getElem?_getD,List.getElem?_replicate] at ht
  split at ht<;>cases ht
structure Mk where
 raw:List Int
 at_:Nat
 code:List Ci
 high:Nat
 slots:Nat
 tops:Nat
def pickN (c:Int) (n:Nat):Nat:=((if c<0 then-(c+1) else c) % (n:Int)).toNat
def Mk.next (m:Mk) (n:Nat):Nat×Mk:=(match m.raw[m.at_]? with
 |some c=>pickN c n
 |none=>0,{m with at_:=m.at_+1})
def Mk.add (m:Mk) (op a:Int) (text:List UInt8) (takes lays:Nat):Mk:=
 {m with code:=m.code++ [⟨op,a,0,⟨⟨text⟩⟩,((m.code.length*7 % 60001:Nat):Int)⟩],high:=m.high-takes+lays}
def pushInts:List (List UInt8):=[[48],[45,53],[57,50,50,51,51,55,50,48,51,54,56,53,52,55,55,53,56,48,55],[45,57,50,50,51,51,55,50,48,51,54,56,53,52,55,55,53,56,48,56]]
def pushFloats:List (List UInt8):=[[48,48,48,48,48,48,48,48,48,48,48,48,48,48,48,48],[55,102,102,56,48,48,48,48,48,48,48,48,48,48,48,49],[102,102,102,48,48,48,48,48,48,48,48,48,48,48,48,48]]
def pushTexts:List (List UInt8):=[[],[97,32,98],[10,0,255,34]]
def pushNils:List (List UInt8):=[[108,105,115,116],[109,97,112],[102,117,110,99],[84]]
def Mk.push (m:Mk):Mk:=
 let x:=m.next 9
 match x.1 with
 |0=>let y:=x.2.next 4;y.2.add 3 0 (pushInts.getD y.1 []) 0 1
 |1=>let y:=x.2.next 3;y.2.add 4 0 (pushFloats.getD y.1 []) 0 1
 |2=>let y:=x.2.next 3;y.2.add 5 0 (pushTexts.getD y.1 []) 0 1
 |3=>let y:=x.2.next 2;y.2.add 6 y.1 [] 0 1
 |4=>let y:=x.2.next 4;y.2.add 8 0 (pushNils.getD y.1 []) 0 1
 |5=>let y:=x.2.next x.2.slots;y.2.add 9 y.1 [] 0 1
 |6=>if 0<x.2.tops then let y:=x.2.next x.2.tops;y.2.add 10 y.1 [] 0 1 else x.2.add 7 0 [] 0 1
 |7=>let y:=x.2.next 2;y.2.add 23 y.1 [84,32,109] 0 1
 |_=>x.2.add 7 0 [] 0 1
def oneBinary:List (List UInt8):=[[43],[61,61],[60,60],[94]]
def oneUnary:List (List UInt8):=[[45],[42],[43,43]]
def oneBuilt:List (List UInt8):=[[112,114,105,110,116],[108,101,110],[114,101,99,111,118,101,114]]
def oneStruct:List (List UInt8):=[[84],[84,32,102],[84,32,102,32,103]]
def Mk.fill (m:Mk):Mk:=if m.high<1 then m.push.push else if m.high<2 then m.push else m
def Mk.pick (m:Mk) (n:Nat) (w:Nat):Mk:=match w with
 |0=>let y:=m.next 4;y.2.add 19 0 (oneBinary.getD y.1 []) 2 1
 |1=>let y:=m.next 3;y.2.add 18 0 (oneUnary.getD y.1 []) 1 1
 |2=>m.add 27 n [] n 1
 |3=>m.add 46 n [] (n+1) 1
 |4=>let y:=m.next 3;y.2.add 47 n (oneBuilt.getD y.1 []) n 1
 |5=>let y:=m.next m.slots;y.2.add 12 y.1 [] 1 0
 |6=>m.add 17 0 [] 1 2
 |7=>m.add 16 0 [] 1 0
 |8=>m.add 25 0 [] 2 2
 |9=>m.add 29 (min n 2:Nat) (oneStruct.getD (min n 2) []) (min n 2) 1
 |10=>m.add 33 2 [] 1 2
 |11=>let y:=m.next 2;y.2.add 22 y.1 [102] 1 1
 |12=>let y:=m.next m.slots;(((y.2.add 38 y.1 [] 0 0).add 43 0 [102] 0 0).add 44 0 [] 0 0).add 45 0 [] 0 0
 |13=>let t:=m.add 51 0 [] 1 0;((((t.add 2 0 [] 0 0).add 52 (t.code.length+5:Nat) [] 0 0).add 16 0 [] 0 0).add 16 0 [] 0 0).add 34 t.code.length [] 0 0
 |14=>((m.add 35 (m.code.length+3:Nat) [] 1 0).add 7 0 [] 0 0).add 16 0 [] 0 0
 |_=>m.add 48 0 [] 1 0
def Mk.one (m:Mk):Mk:=
 let f:=m.fill
 let n:=f.next (min f.high 4)
 let w:=n.2.next 16
 w.2.pick n.1 w.1
def Mk.ones:Nat→Mk→Mk
 |0,m=>m
 |n+1,m=>if m.at_<m.raw.length then Mk.ones n m.one else m
def Mk.body (m:Mk):Mk:=
 let s:=m.add 1 0 [] 0 0
 let n:=s.next 60
 ((Mk.ones n.1 n.2).push).add 50 0 [] 1 0
structure Gd (slots tops:Nat) (code:List Ci) (ss:List (List UInt8)) (fin:List UInt8):Prop where
 len:ss.length=code.length
 first:(ss++ [fin])[0]? =some []
 fit:∀(k:Nat) (x:Ci) (s:List UInt8),code[k]? =some x→ss[k]? =some s→∃nx th,leavesP x s=some (nx,th)∧(x.op≠34→x.op≠50→(ss++ [fin])[k+1]? =some nx)∧(goesB x.op=true→(ss++ [fin])[x.a.toNat]? =some th)
def vs (h:Nat):List UInt8:=List.replicate h 118
theorem vs_len (h:Nat):(vs h).length=h:=by simp[vs]
theorem vs_succ (h:Nat):vs (h+1)=118::vs h:=rfl
theorem less_vs:∀(n h:Nat),n≤h→lessP (vs h) 118 n=some (vs (h-n))
 |0,h,_=>by rw[lessP,Nat.sub_zero]
 |n+1,0,hn=>by omega
 |n+1,h+1,hn=>by
  rw[vs_succ,lessP,if_pos (.inl rfl),less_vs n h (by omega)]
  congr 2
  omega
theorem takes_vs:∀(a h:Nat),a≤h→takesP (vs h) (vs a)=some (vs (h-a))
 |0,h,_=>by rw[show vs 0=[] from rfl,takesP,Nat.sub_zero]
 |a+1,h,ha=>by
  rw[vs_succ,takesP,less_vs 1 h (by omega)]
  simp only
  rw[takes_vs a (h-1) (by omega)]
  congr 2
  omega
theorem lays_vs:∀(b h:Nat),h+b≤30000→laysP (vs h) (vs b)=some (vs (h+b))
 |0,h,_=>by rw[show vs 0=[] from rfl,laysP,Nat.add_zero]
 |b+1,h,hb=>by
  rw[vs_succ,laysP,if_neg (by rw[vs_len];omega),←vs_succ,lays_vs b (h+1) (by omega)]
  congr 2
  omega
theorem leaves_vs {x:Ci} {h c a b:Nat} (hc:countedP x=(118,(c:Int))) (ht:(formOf x.op).takes=vs a) (hl:(formOf x.op).lays=vs b) (hle:c+a≤h) (hmax:h+b≤30000):
  ∃th,leavesP x (vs h)=some (vs (h-(c+a)+b),th):=by
 refine⟨if x.op=36∨x.op=37 then 118::vs (h-(c+a)) else vs (h-(c+a)), ?_⟩
 unfold leavesP
 rw[hc,ht,hl,show(vs a).reverse=vs a by simp[vs]]
 simp only[Int.toNat_natCast]
 rw[less_vs c h (by omega)]
 simp only
 rw[takes_vs a (h-c) (by omega)]
 simp only
 rw[lays_vs b (h-c-a) (by omega)]
 simp only
 rw[show h-c-a=h-(c+a) by omega]
section
variable {slots tops:Nat} {code:List Ci} {ss:List (List UInt8)} {fin:List UInt8}
theorem Gd.add (h:Gd slots tops code ss fin) (pc:List Ci) (ps:List (List UInt8)) (fin':List UInt8) (hl:ps.length=pc.length) (h0:(ps++ [fin'])[0]? =some fin)
  (hf:∀(k:Nat) (x:Ci) (s:List UInt8),pc[k]? =some x→ps[k]? =some s→∃nx th,leavesP x s=some (nx,th)∧(x.op≠34→x.op≠50→(ps++ [fin'])[k+1]? =some nx)∧(goesB x.op=true→∃j,x.a=((code.length+j:Nat):Int)∧(ps++ [fin'])[j]? =some th)):
  Gd slots tops (code++pc) (ss++ps) fin':=by
 have hat:∀(i:Nat) (t:List UInt8),(ss++ [fin])[i]? =some t→(ss++ps++ [fin'])[i]? =some t:=by
  intro i t ht
  rw[List.append_assoc]
  rcases Nat.lt_trichotomy i ss.length with hi|hi|hi
  ·rw[List.getElem?_append_left hi] at ht⊢;exact ht
  ·subst hi
   rw[List.getElem?_append_right (Nat.le_refl _),Nat.sub_self] at ht⊢
   simp only[List.getElem?_cons_zero,Option.some.injEq] at ht
   rw[h0,ht]
  ·rw[List.getElem?_eq_none (by simp;omega)] at ht;cases ht
 have hnew:∀(j:Nat) (t:List UInt8),(ps++ [fin'])[j]? =some t→(ss++ps++ [fin'])[code.length+j]? =some t:=by
  intro j t ht
  rw[List.append_assoc,List.getElem?_append_right (by rw[h.len];omega),h.len,show code.length+j-code.length=j by omega]
  exact ht
 refine⟨by rw[List.length_append,List.length_append,h.len,hl],hat 0 _ h.first,fun k x s hx hs=> ?_⟩
 rcases Nat.lt_or_ge k code.length with hk|hk
 ·rw[List.getElem?_append_left hk] at hx
  rw[List.getElem?_append_left (by rw[h.len];exact hk)] at hs
  obtain⟨nx,th,h1,h2,h3⟩:=h.fit k x s hx hs
  exact⟨nx,th,h1,fun a b=>hat _ _ (h2 a b),fun g=>hat _ _ (h3 g)⟩
 ·rw[List.getElem?_append_right hk] at hx
  rw[List.getElem?_append_right (by rw[h.len];exact hk),h.len] at hs
  obtain⟨nx,th,h1,h2,h3⟩:=hf _ x s hx hs
  refine⟨nx,th,h1,fun a b=> ?_,fun g=> ?_⟩
  ·have:=hnew _ _ (h2 a b)
   rw[show code.length+(k-code.length+1)=k+1 by omega] at this
   exact this
  ·obtain⟨j,e1,e2⟩:=h3 g
   rw[e1,Int.toNat_natCast]
   exact hnew _ _ e2
theorem Gd.one {h:Nat} (hg:Gd slots tops code ss (vs h)) (x:Ci) {c a b:Nat} (hc:countedP x=(118,(c:Int))) (ht:(formOf x.op).takes=vs a) (hl:(formOf x.op).lays=vs b) (hgo:goesB x.op=false) (hle:c+a≤h) (hmax:h+b≤30000):
  Gd slots tops (code++ [x]) (ss++ [vs h]) (vs (h-(c+a)+b)):=by
 refine hg.add [x] [vs h] _ rfl rfl fun k y s hy hs=> ?_
 cases k with
 |succ k=>simp at hy
 |zero=>
  simp only[List.getElem?_cons_zero,Option.some.injEq] at hy hs
  subst hy;subst hs
  obtain⟨th,e⟩:=leaves_vs hc ht hl hle hmax
  exact⟨_,th,e,fun _ _=>rfl,fun g=>by rw[hgo] at g;cases g⟩
end
theorem leaves_lit (op:Int) (tk ly:List UInt8) (hf:(formOf op).takes=tk∧(formOf op).lays=ly∧op≠36∧op≠37∧¬(op=27∨op=29∨op=46∨op=47∨op=48∨op=49)∧op≠28∧op≠26∧op≠53) {a:Int} {t:ByteArray} {p:Int} {s s2 s3:List UInt8}
  (h2:takesP s tk.reverse=some s2) (h3:laysP s2 ly=some s3):leavesP ⟨op,a,0,t,p⟩ s=some (s3,s2):=by
 obtain⟨f1,f2,f3,f4,f5,f6,f7,f8⟩:=hf
 have hc:countedP ⟨op,a,0,t,p⟩=(118,0):=by
  unfold countedP
  rw[if_neg f5,if_neg f6,if_neg f7,if_neg f8]
 unfold leavesP
 rw[hc]
 simp only[f1,f2]
 rw[show(0:Int).toNat=0 from rfl,lessP]
 simp only[h2,h3]
 rw[if_neg (by rintro(e|e);exact f3 e;exact f4 e)]
theorem lays_one {s:List UInt8} {c:UInt8} (h:s.length+1≤30000):laysP s [c]=some (c::s):=by
 rw[laysP,if_neg (by omega)];rfl
theorem lays_two {s:List UInt8} {c d:UInt8} (h:s.length+2≤30000):laysP s [c,d]=some (d::c::s):=by
 rw[laysP,if_neg (by omega),lays_one (by simp only[List.length_cons];omega)]
theorem Gd.place {slots tops:Nat} {code:List Ci} {ss:List (List UInt8)} {h:Nat} (hg:Gd slots tops code ss (vs h)) (hmax:h+2≤30000) (a:Int) (t1 t2 t3 t4:ByteArray) (p1 p2 p3 p4:Int):
  Gd slots tops (code++ [⟨38,a,0,t1,p1⟩,⟨43,0,0,t2,p2⟩,⟨44,0,0,t3,p3⟩,⟨45,0,0,t4,p4⟩]) (ss++ [vs h,112::vs h,112::vs h,118::112::vs h]) (vs h):=by
 have hl:=vs_len h
 refine hg.add _ _ _ rfl rfl fun k y s hy hs=> ?_
 match k,hy,hs with
 |0,hy,hs=>
  simp only[List.getElem?_cons_zero,Option.some.injEq] at hy hs
  subst hy;subst hs
  exact⟨112::vs h,vs h,leaves_lit 38 [] [112] (by decide) (by simp[takesP]) (by rw[lays_one (by omega)]),fun _ _=>rfl,fun g=>by cases g⟩
 |1,hy,hs=>
  simp only[List.getElem?_cons_succ,List.getElem?_cons_zero,Option.some.injEq] at hy hs
  subst hy;subst hs
  exact⟨112::vs h,vs h,leaves_lit 43 [63] [112] (by decide) (by simp[takesP,lessP]) (by rw[lays_one (by omega)]),fun _ _=>rfl,fun g=>by cases g⟩
 |2,hy,hs=>
  simp only[List.getElem?_cons_succ,List.getElem?_cons_zero,Option.some.injEq] at hy hs
  subst hy;subst hs
  exact⟨118::112::vs h,vs h,leaves_lit 44 [112] [112,118] (by decide) (by simp[takesP,lessP]) (by rw[lays_two (by omega)]),fun _ _=>rfl,fun g=>by cases g⟩
 |3,hy,hs=>
  simp only[List.getElem?_cons_succ,List.getElem?_cons_zero,Option.some.injEq] at hy hs
  subst hy;subst hs
  exact⟨vs h,vs h,leaves_lit 45 [112,118] [] (by decide) (by simp[takesP,lessP]) rfl,fun _ _=>rfl,fun g=>by cases g⟩
 |k+4,hy,_=>simp at hy
theorem Gd.loop {slots tops:Nat} {code:List Ci} {ss:List (List UInt8)} {h:Nat} (hg:Gd slots tops code ss (vs (h+1))) (hmax:h+3≤30000) (t1 t2 t3 t4 t5 t6:ByteArray) (p1 p2 p3 p4 p5 p6:Int):
  Gd slots tops (code++ [⟨51,0,0,t1,p1⟩,⟨2,0,0,t2,p2⟩,⟨52,((code.length+6:Nat):Int),0,t3,p3⟩,⟨16,0,0,t4,p4⟩,⟨16,0,0,t5,p5⟩,⟨34,((code.length+1:Nat):Int),0,t6,p6⟩])
   (ss++ [vs (h+1),116::vs h,116::vs h,118::118::116::vs h,118::116::vs h,116::vs h]) (vs h):=by
 have hl:=vs_len h
 refine hg.add _ _ _ rfl rfl fun k y s hy hs=> ?_
 match k,hy,hs with
 |0,hy,hs=>
  simp only[List.getElem?_cons_zero,Option.some.injEq] at hy hs
  subst hy;subst hs
  exact⟨116::vs h,vs h,leaves_lit 51 [118] [116] (by decide) (by simp[takesP,lessP,vs_succ]) (by rw[lays_one (by omega)]),fun _ _=>rfl,fun g=>by cases g⟩
 |1,hy,hs=>
  simp only[List.getElem?_cons_succ,List.getElem?_cons_zero,Option.some.injEq] at hy hs
  subst hy;subst hs
  exact⟨116::vs h,116::vs h,leaves_lit 2 [] [] (by decide) (by simp[takesP]) rfl,fun _ _=>rfl,fun g=>by cases g⟩
 |2,hy,hs=>
  simp only[List.getElem?_cons_succ,List.getElem?_cons_zero,Option.some.injEq] at hy hs
  subst hy;subst hs
  exact⟨118::118::116::vs h,vs h,leaves_lit 52 [116] [116,118,118] (by decide) (by simp[takesP,lessP]) (by rw[laysP,if_neg (by omega),lays_two (by simp only[List.length_cons];omega)]),fun _ _=>rfl,fun _=>⟨6,rfl,rfl⟩⟩
 |3,hy,hs=>
  simp only[List.getElem?_cons_succ,List.getElem?_cons_zero,Option.some.injEq] at hy hs
  subst hy;subst hs
  exact⟨118::116::vs h,118::116::vs h,leaves_lit 16 [118] [] (by decide) (by simp[takesP,lessP]) rfl,fun _ _=>rfl,fun g=>by cases g⟩
 |4,hy,hs=>
  simp only[List.getElem?_cons_succ,List.getElem?_cons_zero,Option.some.injEq] at hy hs
  subst hy;subst hs
  exact⟨116::vs h,116::vs h,leaves_lit 16 [118] [] (by decide) (by simp[takesP,lessP]) rfl,fun _ _=>rfl,fun g=>by cases g⟩
 |5,hy,hs=>
  simp only[List.getElem?_cons_succ,List.getElem?_cons_zero,Option.some.injEq] at hy hs
  subst hy;subst hs
  exact⟨116::vs h,116::vs h,leaves_lit 34 [] [] (by decide) (by simp[takesP]) rfl,fun g=>absurd rfl g,fun _=>⟨1,rfl,rfl⟩⟩
 |k+6,hy,_=>simp at hy
theorem Gd.pass {slots tops:Nat} {code:List Ci} {ss:List (List UInt8)} {h:Nat} (hg:Gd slots tops code ss (vs (h+1))) (hmax:h+1≤30000) (t1 t2 t3:ByteArray) (p1 p2 p3:Int):
  Gd slots tops (code++ [⟨35,((code.length+3:Nat):Int),0,t1,p1⟩,⟨7,0,0,t2,p2⟩,⟨16,0,0,t3,p3⟩]) (ss++ [vs (h+1),vs h,vs (h+1)]) (vs h):=by
 have hl:=vs_len h
 refine hg.add _ _ _ rfl rfl fun k y s hy hs=> ?_
 match k,hy,hs with
 |0,hy,hs=>
  simp only[List.getElem?_cons_zero,Option.some.injEq] at hy hs
  subst hy;subst hs
  exact⟨vs h,vs h,leaves_lit 35 [118] [] (by decide) (by simp[takesP,lessP,vs_succ]) rfl,fun _ _=>rfl,fun _=>⟨3,rfl,rfl⟩⟩
 |1,hy,hs=>
  simp only[List.getElem?_cons_succ,List.getElem?_cons_zero,Option.some.injEq] at hy hs
  subst hy;subst hs
  exact⟨vs (h+1),vs h,leaves_lit 7 [] [118] (by decide) (by simp[takesP]) (by rw[lays_one (by omega)];rfl),fun _ _=>rfl,fun g=>by cases g⟩
 |2,hy,hs=>
  simp only[List.getElem?_cons_succ,List.getElem?_cons_zero,Option.some.injEq] at hy hs
  subst hy;subst hs
  exact⟨vs h,vs h,leaves_lit 16 [118] [] (by decide) (by simp[takesP,lessP,vs_succ]) rfl,fun _ _=>rfl,fun g=>by cases g⟩
 |k+3,hy,_=>simp at hy
def NumM (slots tops:Nat) (x:Ci):Prop:=match (formOf x.op).a with
 |0=>x.a=0
 |1=>0≤x.a∧x.a<2
 |2=>0≤x.a∧x.a<3
 |3=>0≤x.a∧x.a<slots
 |4=>0≤x.a∧x.a<tops
 |7=>0≤x.a∧x.a<20001
 |8=>0≤x.a∧x.a<31
 |10=>True
 |_=>False
structure FineM (slots tops:Nat) (code:List Ci) (k:Nat) (x:Ci):Prop where
 op:1≤x.op∧x.op≤53∧x.op≠26
 at_:0≤x.at_∧x.at_≤60000
 b:x.b=0
 says:saysB x=true
 num:NumM slots tops x
 goes:goesB x.op=true→0≤x.a∧x.a≤code.length∧((k:Int)<x.a∨∃y,code[x.a.toNat]? =some y∧y.op=2)
theorem FineM.more {slots tops:Nat} {code:List Ci} {k:Nat} {x:Ci} (h:FineM slots tops code k x) (pc:List Ci):FineM slots tops (code++pc) k x:=by
 refine⟨h.op,h.at_,h.b,h.says,h.num,fun g=> ?_⟩
 obtain⟨h1,h2,h3⟩:=h.goes g
 refine⟨h1,by rw[List.length_append];omega, ?_⟩
 rcases h3 with h3|⟨y,h3,h4⟩
 ·exact .inl h3
 ·refine .inr ⟨y, ?_,h4⟩
  rw[List.getElem?_append_left (List.getElem?_eq_some_iff.1 h3).1]
  exact h3
structure MkOk (m:Mk) (B L:Nat):Prop where
 gd:∃ss,Gd m.slots m.tops m.code ss (vs m.high)
 fine:∀(k:Nat) (x:Ci),m.code[k]? =some x→FineM m.slots m.tops m.code k x
 high:m.high≤B
 slots:0<m.slots
 len:m.code.length≤L
theorem at_ok (n:Nat):(0:Int)≤((n*7 % 60001:Nat):Int)∧((n*7 % 60001:Nat):Int)≤60000:=by omega
theorem next_lt (m:Mk) {n:Nat} (h:0<n):(m.next n).1<n:=by
 unfold Mk.next
 simp only
 split
 ·rename_i c _
  unfold pickN
  have h1:(0:Int)≤if c<0 then-(c+1) else c:=by split<;>omega
  generalize (if c<0 then-(c+1) else c)=d at h1
  have h2:=Int.emod_nonneg d (show(n:Int)≠0 by omega)
  have h3:=Int.emod_lt_of_pos d (show(0:Int)<n by omega)
  omega
 ·exact h
theorem MkOk.next {m:Mk} {B L:Nat} (h:MkOk m B L) (n:Nat):MkOk (m.next n).2 B L:=⟨h.gd,h.fine,h.high,h.slots,h.len⟩
theorem MkOk.add {m:Mk} {B L:Nat} (h:MkOk m B L) (hB:B+2≤30000) (op a:Int) (text:List UInt8) (takes lays c d e:Nat)
  (hop:1≤op∧op≤53∧op≠26) (hc:∀t p,countedP ⟨op,a,0,t,p⟩=(118,(c:Int))) (ht:(formOf op).takes=vs d) (hl:(formOf op).lays=vs e) (hgo:goesB op=false)
  (htk:takes=c+d) (hly:lays=e) (hle:takes≤m.high) (he:e≤2) (hs:∀p,saysB ⟨op,a,0,⟨⟨text⟩⟩,p⟩=true) (hn:∀t p,NumM m.slots m.tops ⟨op,a,0,t,p⟩):
  MkOk (m.add op a text takes lays) (B-takes+lays) (L+1)∧(m.add op a text takes lays).high=m.high-takes+lays:=by
 obtain⟨ss,hg⟩:=h.gd
 have hh:=h.high
 refine⟨⟨⟨ss++ [vs m.high], ?_⟩,fun k x hx=> ?_, ?_,h.slots, ?_⟩,rfl⟩
 ·have:=hg.one ⟨op,a,0,⟨⟨text⟩⟩,((m.code.length*7 % 60001:Nat):Int)⟩ (hc _ _) ht hl hgo (by omega) (by omega)
  rw[htk,hly]
  exact this
 ·have hx':(m.code++ [⟨op,a,0,⟨⟨text⟩⟩,((m.code.length*7 % 60001:Nat):Int)⟩])[k]? =some x:=hx
  rcases Nat.lt_or_ge k m.code.length with hk|hk
  ·rw[List.getElem?_append_left hk] at hx'
   exact(h.fine k x hx').more _
  ·rw[List.getElem?_append_right hk] at hx'
   obtain⟨j,hj⟩:∃j,k-m.code.length=j:=⟨_,rfl⟩
   rw[hj] at hx'
   cases j with
   |succ j=>simp at hx'
   |zero=>
    simp only[List.getElem?_cons_zero,Option.some.injEq] at hx'
    subst hx'
    exact⟨hop,at_ok _,rfl,hs _,hn _ _,fun g=>by rw[hgo] at g;cases g⟩
 ·show m.high-takes+lays≤_
  omega
 ·show(m.code++ [_]).length≤_
  rw[List.length_append]
  have:=h.len
  simp only[List.length_cons,List.length_nil]
  omega
theorem ints_say:∀i:Fin 4,(intOfL (pushInts.getD i.val [])).isSome=true:=by
 have h:∀n:Int,okI n→∀s,Lib.itoa n=s→(intOfL s).isSome=true:=fun n hn s hs=>by rw[←hs,int_back hn];rfl
 intro i
 match i with
 |0=>exact h 0 ⟨by decide,by decide⟩ _ (by simp[Lib.itoa,Lib.decDigits];rfl)
 |1=>exact h (-5) ⟨by decide,by decide⟩ _ (by simp[Lib.itoa,Lib.decDigits];rfl)
 |2=>exact h 9223372036854775807 ⟨by decide,by decide⟩ _ (by simp[Lib.itoa,Lib.decDigits];rfl)
 |3=>exact h (-9223372036854775808) ⟨by decide,by decide⟩ _ (by simp[Lib.itoa,Lib.decDigits];rfl)
theorem floats_say:∀i:Fin 3,floatBitsB (pushFloats.getD i.val [])=true:=by decide
theorem texts_say:∀i:Fin 3,(pushTexts.getD i.val []).length≤65536:=by decide
theorem nils_say:∀i:Fin 4,typedB (pushNils.getD i.val []) false false=true:=of_decide_eq_true (by kernel_rfl)
theorem binary_say:∀i:Fin 4,amongB binaryW (oneBinary.getD i.val [])=true:=by decide
theorem unary_say:∀i:Fin 3,amongB unaryW (oneUnary.getD i.val [])=true:=by decide
theorem built_say:∀i:Fin 3,amongB builtW (oneBuilt.getD i.val [])=true:=by decide
theorem struct_say:∀i:Fin 3,namesB (oneStruct.getD i.val []) ((i.val:Int)+1)=true:=of_decide_eq_true (by kernel_rfl)
theorem tm_say:namesB [84,32,109] 2=true:=by kernel_rfl
theorem f_say:nameL [102]=true:=by kernel_rfl
theorem num_lt {n k:Nat} (h:n<k):(0:Int)≤(n:Int)∧(n:Int)<(k:Int):=by omega
theorem num_lt2 {n:Nat} (h:n<2):(0:Int)≤(n:Int)∧(n:Int)<2:=by omega
theorem MkOk.push {m:Mk} {B L:Nat} (h:MkOk m B L) (hB:B+2≤30000):MkOk m.push (B+1) (L+1)∧m.push.high=m.high+1:=by
 have hx:=h.next 9
 have hlt:=next_lt m (n:=9) (by decide)
 obtain⟨x,hxd⟩:∃x,m.next 9=x:=⟨_,rfl⟩
 have hhigh:x.2.high=m.high:=by rw[←hxd];rfl
 unfold Mk.push
 simp only[hxd]
 rw[hxd] at hx hlt
 have one:∀ {m':Mk} (_:MkOk m' B L) (_:m'.high=m.high) (op a:Int) (text:List UInt8),(1≤op∧op≤53∧op≠26)→(∀t p,countedP ⟨op,a,0,t,p⟩=(118,0))→(formOf op).takes=[]→(formOf op).lays=[118]→goesB op=false→
   (∀p,saysB ⟨op,a,0,⟨⟨text⟩⟩,p⟩=true)→(∀t p,NumM m'.slots m'.tops ⟨op,a,0,t,p⟩)→MkOk (m'.add op a text 0 1) (B+1) (L+1)∧(m'.add op a text 0 1).high=m.high+1:=by
  intro m' hm he op a text h1 h2 h3 h4 h5 h6 h7
  obtain⟨e1,e2⟩:=hm.add hB op a text 0 1 0 0 1 h1 h2 h3 h4 h5 rfl rfl (Nat.zero_le _) (by decide) h6 h7
  exact⟨e1,by rw[e2,he];omega⟩
 obtain⟨w,mx⟩:=x
 simp only at hx hlt hhigh⊢
 match w,hlt with
 |0,_=>
  have hy:=next_lt mx (n:=4) (by decide)
  exact one (hx.next 4) hhigh 3 0 _ (by decide) (fun _ _=>rfl) rfl rfl rfl (fun p=>ints_say ⟨_,hy⟩) (fun _ _=>rfl)
 |1,_=>
  have hy:=next_lt mx (n:=3) (by decide)
  exact one (hx.next 3) hhigh 4 0 _ (by decide) (fun _ _=>rfl) rfl rfl rfl (fun p=>floats_say ⟨_,hy⟩) (fun _ _=>rfl)
 |2,_=>
  have hy:=next_lt mx (n:=3) (by decide)
  exact one (hx.next 3) hhigh 5 0 _ (by decide) (fun _ _=>rfl) rfl rfl rfl (fun p=>decide_eq_true (texts_say ⟨_,hy⟩)) (fun _ _=>rfl)
 |3,_=>
  have hy:=next_lt mx (n:=2) (by decide)
  exact one (hx.next 2) hhigh 6 _ _ (by decide) (fun _ _=>rfl) rfl rfl rfl (fun p=>rfl) (fun _ _=>num_lt2 hy)
 |4,_=>
  have hy:=next_lt mx (n:=4) (by decide)
  exact one (hx.next 4) hhigh 8 0 _ (by decide) (fun _ _=>rfl) rfl rfl rfl (fun p=>nils_say ⟨_,hy⟩) (fun _ _=>num_lt2 (n:=0) (by decide))
 |5,_=>
  have hy:=next_lt mx (n:=mx.slots) hx.slots
  exact one (hx.next mx.slots) hhigh 9 _ _ (by decide) (fun _ _=>rfl) rfl rfl rfl (fun p=>rfl) (fun _ _=>num_lt hy)
 |6,_=>
  by_cases ht:0<mx.tops
  ·simp only[if_pos ht]
   have hy:=next_lt mx (n:=mx.tops) ht
   exact one (hx.next mx.tops) hhigh 10 _ _ (by decide) (fun _ _=>rfl) rfl rfl rfl (fun p=>rfl) (fun _ _=>num_lt hy)
  ·simp only[if_neg ht]
   exact one hx hhigh 7 0 _ (by decide) (fun _ _=>rfl) rfl rfl rfl (fun p=>rfl) (fun _ _=>rfl)
 |7,_=>
  have hy:=next_lt mx (n:=2) (by decide)
  exact one (hx.next 2) hhigh 23 _ _ (by decide) (fun _ _=>rfl) rfl rfl rfl (fun p=>tm_say) (fun _ _=>num_lt2 hy)
 |w+8,_=>exact one hx hhigh 7 0 _ (by decide) (fun _ _=>rfl) rfl rfl rfl (fun p=>rfl) (fun _ _=>rfl)
theorem MkOk.weak {m:Mk} {B L B' L':Nat} (h:MkOk m B L) (hB:B≤B') (hL:L≤L'):MkOk m B' L':=⟨h.gd,h.fine,Nat.le_trans h.high hB,h.slots,Nat.le_trans h.len hL⟩
theorem MkOk.fill {m:Mk} {B L:Nat} (h:MkOk m B L) (hB:B+4≤30000) (h2:2≤B):MkOk m.fill B (L+2)∧2≤m.fill.high:=by
 have low:∀ {m:Mk} {B':Nat},MkOk m B' L→B'≤30000→MkOk m m.high L:=fun h _=>⟨h.gd,h.fine,Nat.le_refl _,h.slots,h.len⟩
 unfold Mk.fill
 split
 ·rename_i h1
  obtain⟨a1,a2⟩:=(low h (by omega)).push (by omega)
  have a3:MkOk m.push m.push.high (L+1):=⟨a1.gd,a1.fine,Nat.le_refl _,a1.slots,a1.len⟩
  obtain⟨b1,b2⟩:=a3.push (by omega)
  exact⟨⟨b1.gd,b1.fine,by rw[b2,a2];omega,b1.slots,b1.len⟩,by rw[b2,a2];omega⟩
 ·split
  ·obtain⟨a1,a2⟩:=(low h (by omega)).push (by omega)
   exact⟨⟨a1.gd,a1.fine,by rw[a2];omega,a1.slots,by have:=a1.len;omega⟩,by rw[a2];omega⟩
  ·exact⟨h.weak (Nat.le_refl _) (by omega),by omega⟩
theorem num_lt3 {n k:Nat} (h:n<k) (j:Int) (hj:(k:Int)=j):(0:Int)≤(n:Int)∧(n:Int)<j:=by omega
theorem MkOk.many {m m':Mk} {B L:Nat} (h:MkOk m B L) (pc:List Ci) (hs:m'.slots=m.slots) (ht:m'.tops=m.tops) (hc:m'.code=m.code++pc) (hh:m'.high≤m.high) (hl:pc.length≤6)
  (hg:∀ss,Gd m.slots m.tops m.code ss (vs m.high)→∃ss',Gd m.slots m.tops (m.code++pc) ss' (vs m'.high))
  (hf:∀(j:Nat) (x:Ci),pc[j]? =some x→FineM m.slots m.tops (m.code++pc) (m.code.length+j) x):MkOk m' B (L+6):=by
 obtain⟨ss,h1⟩:=h.gd
 refine⟨by rw[hs,ht,hc];exact hg ss h1,fun k x hx=> ?_,Nat.le_trans hh h.high,by rw[hs];exact h.slots,by rw[hc,List.length_append];have:=h.len;omega⟩
 rw[hs,ht,hc]
 rw[hc] at hx
 rcases Nat.lt_or_ge k m.code.length with hk|hk
 ·rw[List.getElem?_append_left hk] at hx
  exact(h.fine k x hx).more _
 ·rw[List.getElem?_append_right hk] at hx
  have:=hf _ x hx
  rw[show m.code.length+(k-m.code.length)=k by omega] at this
  exact this
theorem fine_lit (op:Int) (h:1≤op∧op≤53∧op≠26) {a:Int} {t:ByteArray} {n slots tops k:Nat} {code:List Ci} (hs:saysB ⟨op,a,0,t,((n*7 % 60001:Nat):Int)⟩=true) (hn:NumM slots tops ⟨op,a,0,t,((n*7 % 60001:Nat):Int)⟩)
  (hg:goesB op=true→0≤a∧a≤code.length∧((k:Int)<a∨∃y,code[a.toNat]? =some y∧y.op=2)):FineM slots tops code k ⟨op,a,0,t,((n*7 % 60001:Nat):Int)⟩:=⟨h,at_ok n,rfl,hs,hn,hg⟩
theorem add_code (m:Mk) (op a:Int) (text:List UInt8) (t l:Nat):(m.add op a text t l).code=m.code++ [⟨op,a,0,⟨⟨text⟩⟩,((m.code.length*7 % 60001:Nat):Int)⟩]:=rfl
theorem MkOk.pick {m:Mk} {B L:Nat} (h:MkOk m B L) (hB:B+4≤30000) (h2:2≤m.high) {n:Nat} (hn:n<m.high) (hn4:n<4) {w:Nat} (_hw:w<16):MkOk (m.pick n w) (B+1) (L+6):=by
 have hh:=h.high
 have one:∀ {m':Mk} (_:MkOk m' B L) (_:m'.high=m.high) (op a:Int) (text:List UInt8) (takes lays c d e:Nat),(1≤op∧op≤53∧op≠26)→(∀t p,countedP ⟨op,a,0,t,p⟩=(118,(c:Int)))→(formOf op).takes=vs d→(formOf op).lays=vs e→goesB op=false→
   takes=c+d→lays=e→takes≤m.high→e≤takes+1→e≤2→(∀p,saysB ⟨op,a,0,⟨⟨text⟩⟩,p⟩=true)→(∀t p,NumM m'.slots m'.tops ⟨op,a,0,t,p⟩)→MkOk (m'.add op a text takes lays) (B+1) (L+6):=by
  intro m' hm he op a text takes lays c d e h1 h2 h3 h4 h5 h6 h7 h8 h9 h10 h11 h12
  obtain⟨e1,e2⟩:=hm.add (by omega) op a text takes lays c d e h1 h2 h3 h4 h5 h6 h7 (by omega) h10 h11 h12
  exact⟨e1.gd,e1.fine,by rw[e2,he];omega,e1.slots,by have:=e1.len;omega⟩
 unfold Mk.pick
 split
 ·have hy:=next_lt m (n:=4) (by decide)
  exact one (h.next 4) rfl 19 0 _ 2 1 0 2 1 (by decide) (fun _ _=>rfl) rfl rfl rfl rfl rfl h2 (by decide) (by decide) (fun p=>binary_say ⟨_,hy⟩) (fun _ _=>rfl)
 ·have hy:=next_lt m (n:=3) (by decide)
  exact one (h.next 3) rfl 18 0 _ 1 1 0 1 1 (by decide) (fun _ _=>rfl) rfl rfl rfl rfl rfl (by omega) (by decide) (by decide) (fun p=>unary_say ⟨_,hy⟩) (fun _ _=>rfl)
 ·exact one h rfl 27 n [] n 1 n 0 1 (by decide) (fun _ _=>rfl) rfl rfl rfl rfl rfl (by omega) (by omega) (by decide) (fun p=>rfl) (fun _ _=>num_lt3 (k:=20001) (by omega) _ rfl)
 ·exact one h rfl 46 n [] (n+1) 1 n 1 1 (by decide) (fun _ _=>rfl) rfl rfl rfl rfl rfl (by omega) (by omega) (by decide) (fun p=>rfl) (fun _ _=>num_lt3 (k:=20001) (by omega) _ rfl)
 ·have hy:=next_lt m (n:=3) (by decide)
  exact one (h.next 3) rfl 47 n _ n 1 n 0 1 (by decide) (fun _ _=>rfl) rfl rfl rfl rfl rfl (by omega) (by omega) (by decide) (fun p=>built_say ⟨_,hy⟩) (fun _ _=>num_lt3 (k:=20001) (by omega) _ rfl)
 ·have hy:=next_lt m (n:=m.slots) h.slots
  exact one (h.next m.slots) rfl 12 _ [] 1 0 0 1 0 (by decide) (fun _ _=>rfl) rfl rfl rfl rfl rfl (by omega) (by decide) (by decide) (fun p=>rfl) (fun _ _=>num_lt hy)
 ·exact one h rfl 17 0 [] 1 2 0 1 2 (by decide) (fun _ _=>rfl) rfl rfl rfl rfl rfl (by omega) (by decide) (by decide) (fun p=>rfl) (fun _ _=>rfl)
 ·exact one h rfl 16 0 [] 1 0 0 1 0 (by decide) (fun _ _=>rfl) rfl rfl rfl rfl rfl (by omega) (by decide) (by decide) (fun p=>rfl) (fun _ _=>rfl)
 ·exact one h rfl 25 0 [] 2 2 0 2 2 (by decide) (fun _ _=>rfl) rfl rfl rfl rfl rfl (by omega) (by decide) (by decide) (fun p=>rfl) (fun _ _=>rfl)
 ·have hm3:min n 2<3:=by omega
  exact one h rfl 29 (min n 2:Nat) _ (min n 2) 1 (min n 2) 0 1 (by decide) (fun _ _=>rfl) rfl rfl rfl rfl rfl (by omega) (by omega) (by decide) (fun p=>struct_say ⟨_,hm3⟩) (fun _ _=>num_lt3 (k:=31) (by omega) _ rfl)
 ·exact one h rfl 33 2 [] 1 2 0 1 2 (by decide) (fun _ _=>rfl) rfl rfl rfl rfl rfl (by omega) (by decide) (by decide) (fun p=>rfl) (fun _ _=>num_lt3 (n:=2) (k:=3) (by decide) _ rfl)
 ·have hy:=next_lt m (n:=2) (by decide)
  exact one (h.next 2) rfl 22 _ _ 1 1 0 1 1 (by decide) (fun _ _=>rfl) rfl rfl rfl rfl rfl (by omega) (by decide) (by decide) (fun p=>f_say) (fun _ _=>num_lt2 hy)
 ·have hy:=next_lt m (n:=m.slots) h.slots
  refine(MkOk.many (m':=((((m.next m.slots).2.add 38 (m.next m.slots).1 [] 0 0).add 43 0 [102] 0 0).add 44 0 [] 0 0).add 45 0 [] 0 0) h
   [⟨38,((m.next m.slots).1:Nat),0,⟨⟨[]⟩⟩,((m.code.length*7 % 60001:Nat):Int)⟩,⟨43,0,0,⟨⟨[102]⟩⟩,(((m.code.length+1)*7 % 60001:Nat):Int)⟩,⟨44,0,0,⟨⟨[]⟩⟩,(((m.code.length+2)*7 % 60001:Nat):Int)⟩,⟨45,0,0,⟨⟨[]⟩⟩,(((m.code.length+3)*7 % 60001:Nat):Int)⟩]
   rfl rfl (by simp[add_code,Mk.next]) (Nat.le_refl _) (by simp) (fun ss hg=>⟨_,hg.place (by omega) _ _ _ _ _ _ _ _ _⟩) ?_).weak (by omega) (Nat.le_refl _)
  intro j x hx
  match j,hx with
  |0,hx=>cases hx;exact fine_lit 38 (by decide) (rfl) (num_lt hy) (fun g=>by cases g)
  |1,hx=>cases hx;exact fine_lit 43 (by decide) (f_say) (rfl) (fun g=>by cases g)
  |2,hx=>cases hx;exact fine_lit 44 (by decide) (rfl) (rfl) (fun g=>by cases g)
  |3,hx=>cases hx;exact fine_lit 45 (by decide) (rfl) (rfl) (fun g=>by cases g)
  |j+4,hx=>simp at hx
 ·obtain⟨hm1,hhm⟩:∃hm1,m.high=hm1+1:=⟨m.high-1,by omega⟩
  have hlen1:(m.add 51 0 [] 1 0).code.length=m.code.length+1:=by rw[add_code,List.length_append];rfl
  simp only[hlen1]
  refine(MkOk.many (m':=(((((m.add 51 0 [] 1 0).add 2 0 [] 0 0).add 52 (m.code.length+1+5:Nat) [] 0 0).add 16 0 [] 0 0).add 16 0 [] 0 0).add 34 (m.code.length+1:Nat) [] 0 0) h
   [⟨51,0,0,⟨⟨[]⟩⟩,((m.code.length*7 % 60001:Nat):Int)⟩,⟨2,0,0,⟨⟨[]⟩⟩,(((m.code.length+1)*7 % 60001:Nat):Int)⟩,⟨52,((m.code.length+6:Nat):Int),0,⟨⟨[]⟩⟩,(((m.code.length+2)*7 % 60001:Nat):Int)⟩,
    ⟨16,0,0,⟨⟨[]⟩⟩,(((m.code.length+3)*7 % 60001:Nat):Int)⟩,⟨16,0,0,⟨⟨[]⟩⟩,(((m.code.length+4)*7 % 60001:Nat):Int)⟩,⟨34,((m.code.length+1:Nat):Int),0,⟨⟨[]⟩⟩,(((m.code.length+5)*7 % 60001:Nat):Int)⟩]
   rfl rfl (by simp[add_code];omega) (by show m.high-1+0-0+0-0+0-0+0-0+0-0+0≤m.high;omega) (by simp) (fun ss hg=> ?_) ?_).weak (by omega) (Nat.le_refl _)
  ·rw[hhm] at hg
   rw[show((((((m.add 51 0 [] 1 0).add 2 0 [] 0 0).add 52 (m.code.length+1+5:Nat) [] 0 0).add 16 0 [] 0 0).add 16 0 [] 0 0).add 34 (m.code.length+1:Nat) [] 0 0).high=hm1 by show m.high-1+0-0+0-0+0-0+0-0+0-0+0=hm1;omega]
   exact⟨_,hg.loop (by omega) _ _ _ _ _ _ _ _ _ _ _ _⟩
  ·intro j x hx
   match j,hx with
   |0,hx=>cases hx;exact fine_lit 51 (by decide) (rfl) (rfl) (fun g=>by cases g)
   |1,hx=>cases hx;exact fine_lit 2 (by decide) (rfl) (rfl) (fun g=>by cases g)
   |2,hx=>
    cases hx
    refine fine_lit 52 (by decide) (rfl) (trivial) (fun _=>⟨?_, ?_,.inl ?_⟩)
    ·show(0:Int)≤((m.code.length+6:Nat):Int);omega
    ·show((m.code.length+6:Nat):Int)≤_;rw[List.length_append];simp
    ·show((m.code.length+2:Nat):Int)<((m.code.length+6:Nat):Int);omega
   |3,hx=>cases hx;exact fine_lit 16 (by decide) (rfl) (rfl) (fun g=>by cases g)
   |4,hx=>cases hx;exact fine_lit 16 (by decide) (rfl) (rfl) (fun g=>by cases g)
   |5,hx=>
    cases hx
    refine fine_lit 34 (by decide) (rfl) (trivial) (fun _=>⟨?_, ?_,.inr ⟨⟨2,0,0,⟨⟨[]⟩⟩,(((m.code.length+1)*7 % 60001:Nat):Int)⟩, ?_,rfl⟩⟩)
    ·show(0:Int)≤((m.code.length+1:Nat):Int);omega
    ·show((m.code.length+1:Nat):Int)≤_;rw[List.length_append];simp only[List.length_cons];omega
    ·show(m.code++_)[(((m.code.length+1:Nat):Int)).toNat]? =_
     rw[Int.toNat_natCast,List.getElem?_append_right (by omega),show m.code.length+1-m.code.length=1 by omega]
     rfl
   |j+6,hx=>simp at hx
 ·obtain⟨hm1,hhm⟩:∃hm1,m.high=hm1+1:=⟨m.high-1,by omega⟩
  refine(MkOk.many (m':=((m.add 35 (m.code.length+3:Nat) [] 1 0).add 7 0 [] 0 0).add 16 0 [] 0 0) h
   [⟨35,((m.code.length+3:Nat):Int),0,⟨⟨[]⟩⟩,((m.code.length*7 % 60001:Nat):Int)⟩,⟨7,0,0,⟨⟨[]⟩⟩,(((m.code.length+1)*7 % 60001:Nat):Int)⟩,⟨16,0,0,⟨⟨[]⟩⟩,(((m.code.length+2)*7 % 60001:Nat):Int)⟩]
   rfl rfl (by simp[add_code]) (by show m.high-1+0-0+0-0+0≤m.high;omega) (by simp) (fun ss hg=> ?_) ?_).weak (by omega) (Nat.le_refl _)
  ·rw[hhm] at hg
   rw[show(((m.add 35 (m.code.length+3:Nat) [] 1 0).add 7 0 [] 0 0).add 16 0 [] 0 0).high=hm1 by show m.high-1+0-0+0-0+0=hm1;omega]
   exact⟨_,hg.pass (by omega) _ _ _ _ _ _⟩
  ·intro j x hx
   match j,hx with
   |0,hx=>
    cases hx
    refine fine_lit 35 (by decide) (rfl) (trivial) (fun _=>⟨?_, ?_,.inl ?_⟩)
    ·show(0:Int)≤((m.code.length+3:Nat):Int);omega
    ·show((m.code.length+3:Nat):Int)≤_;rw[List.length_append];simp
    ·show((m.code.length+0:Nat):Int)<((m.code.length+3:Nat):Int);omega
   |1,hx=>cases hx;exact fine_lit 7 (by decide) (rfl) (rfl) (fun g=>by cases g)
   |2,hx=>cases hx;exact fine_lit 16 (by decide) (rfl) (rfl) (fun g=>by cases g)
   |j+3,hx=>simp at hx
 ·exact one h rfl 48 0 [] 1 0 0 1 0 (by decide) (fun _ _=>rfl) rfl rfl rfl rfl rfl (by omega) (by decide) (by decide) (fun p=>rfl) (fun _ _=>num_lt3 (n:=0) (k:=20001) (by decide) _ rfl)
theorem name_len {s:List UInt8} (h:nameL s=true):s.length≤40:=by
 unfold nameL nameB at h
 simp only[Bool.and_eq_true,decide_eq_true_eq] at h
 exact h.2.2.1
end Go.Proofs.YtagnicbknbmccaaGreatDoor
