/- One round of guiseref13.fits in plain form is a round of the program's. What stands on the stacks stays values, places and turns, none too high. guiseref13's table of stacks in plain form: each stack stands in it once. -/
import Derived.Test.YtagnicbknbmccaaGreatDoorRfH
import Derived.Test.YtagnicbknbmccaaGreatDoorMRfA
namespace Go.Proofs.YtagnicbknbmccaaGreatDoor
def handO (a:List (Option (List UInt8))) (k:Nat) (o:Option (List UInt8)):List (Option (List UInt8))×Bool:=match o with
 |none=>(a,true)
 |some s=>handB a k s
def roundS (code:List Ci) (a:List (Option (List UInt8))) (k:Nat):Option Int×List (Option (List UInt8)):=match code[k]?,a.getD k none with
 |some x,some s=>match stepR x s with
  |none=>(some k,a)
  |some q=>
   let h1:=handO a (k+1) q.1
   if h1.2=false then(some (k+1),h1.1) else
   let h2:=handO h1.1 x.a.toNat q.2
   if h2.2=false then(some x.a,h2.1) else(none,h2.1)
 |_,_=>(none,a)
theorem roundS_eq {code:List Ci} {a:List (Option (List UInt8))} {k:Nat} (hst:∀x s,code[k]? =some x→a.getD k none=some s→stepR x s=leafR x s):roundS code a k=roundB code a k:=by
 unfold roundS roundB
 cases hx:code[k]? with
 |none=>rfl
 |some x=>
  cases hs:a.getD k none with
  |none=>rfl
  |some s=>
   dsimp only
   rw[hst x s hx hs]
   unfold leafR
   cases leavesP x s with
   |none=>rfl
   |some pr=>
    obtain⟨nx,th⟩:=pr
    dsimp only
    have e1:handO a (k+1) (if x.op=34∨x.op=50 then none else some nx)=if x.op=34∨x.op=50 then(a,true) else handB a (k+1) nx:=by
     split<;>rfl
    rw[e1]
    obtain⟨q,hq⟩:∃q,(if x.op=34∨x.op=50 then(a,true) else handB a (k+1) nx)=q:=⟨_,rfl⟩
    rw[hq]
    have e2:handO q.1 x.a.toNat (if goesB x.op=true then some th else none)=if goesB x.op=true then handB q.1 x.a.toNat th else(q.1,true):=by
     split<;>rfl
    rw[e2]
def StOk (a:List (Option (List UInt8))):Prop:=∀s,some s∈a→s.length≤30000∧∀c∈s,c=118∨c=112∨c=116
theorem StOk.not63 {a:List (Option (List UInt8))} (h:StOk a) {s:List UInt8} (hs:some s∈a):63 ∉ s:=fun h63=>by
 rcases(h s hs).2 63 h63 with e|e|e<;>cases e
theorem getD_mem_some {a:List (Option (List UInt8))} {k:Nat} {s:List UInt8} (h:a.getD k none=some s):some s∈a:=by
 rw[List.getD_eq_getElem?_getD] at h
 cases hk:a[k]? with
 |none=>rw[hk] at h;cases h
 |some o=>
  rw[hk] at h
  obtain rfl:o=some s:=h
  exact List.mem_of_getElem? hk
theorem less_sub (c:UInt8):∀(n:Nat) (s t:List UInt8),lessP s c n=some t→∀x∈t,x∈s
 |0,s,t,h,x,hx=>by
  rw[lessP] at h
  obtain rfl:=Option.some.inj h
  exact hx
 |n+1,[],t,h,_,_=>by
  rw[lessP] at h
  cases h
 |n+1,y::r,t,h,x,hx=>by
  rw[lessP] at h
  split at h
  ·exact List.mem_cons_of_mem _ (less_sub c n r t h x hx)
  ·cases h
def SgOk (s:List UInt8):Prop:=∀c∈s,c=118∨c=112∨c=116
theorem SgOk.cons {c:UInt8} {s:List UInt8} (h:SgOk s) (hc:c=118∨c=112∨c=116):SgOk (c::s):=fun x hx=>by
 rcases List.mem_cons.1 hx with rfl|hx
 ·exact hc
 ·exact h x hx
theorem SgOk.less {c:UInt8} {n:Nat} {s t:List UInt8} (h:SgOk s) (ht:lessP s c n=some t):SgOk t:=fun x hx=>h x (less_sub c n s t ht x hx)
theorem SgOk.rep {s:List UInt8} (h:SgOk s) (n:Nat):SgOk (List.replicate n 118++s):=fun x hx=>by
 rcases List.mem_append.1 hx with hx|hx
 ·exact .inl (List.eq_of_mem_replicate hx)
 ·exact h x hx
def OgOk (o:Option (List UInt8)):Prop:=∀s,o=some s→SgOk s
theorem OgOk.none:OgOk none:=fun s h=>by cases h
theorem OgOk.some {s:List UInt8} (h:SgOk s):OgOk (some s):=fun t e=>by
 obtain rfl:=Option.some.inj e
 exact h
theorem does_ok (x:Ci) {s:List UInt8} (h:SgOk s) {q:Option (List UInt8)×Option (List UInt8)} (hq:doesR x s=some q):OgOk q.1∧OgOk q.2:=by
 unfold doesR at hq
 have map1:∀(c:UInt8) (n:Nat) (g:List UInt8→Option (List UInt8)×Option (List UInt8)),(lessP s c n).map g=some q→(∀t,SgOk t→OgOk (g t).1∧OgOk (g t).2)→OgOk q.1∧OgOk q.2:=fun c n g hm hg=>by
  cases hl:lessP s c n with
  |none=>rw[hl] at hm;cases hm
  |some t=>
   rw[hl] at hm
   obtain rfl:=Option.some.inj hm
   exact hg t (h.less hl)
 split at hq
 ·cases hl:lessP s 118 (valuesR x).1.toNat with
  |none=>rw[hl] at hq;cases hq
  |some t=>
   rw[hl] at hq
   dsimp only at hq
   have hu:=(h.less hl).rep (valuesR x).2.toNat
   repeat' split at hq
   all_goals first
    |(obtain rfl:=Option.some.inj hq;exact⟨.none,.none⟩)
    |(obtain rfl:=Option.some.inj hq;exact⟨.none,.some hu⟩)
    |(obtain rfl:=Option.some.inj hq;exact⟨.some hu,.some hu⟩)
    |(obtain rfl:=Option.some.inj hq;exact⟨.some hu,.some (hu.cons (.inl rfl))⟩)
    |(obtain rfl:=Option.some.inj hq;exact⟨.some hu,.none⟩)
 ·split at hq
  ·obtain rfl:=Option.some.inj hq
   exact⟨.some (h.cons (.inr (.inl rfl))),.none⟩
  split at hq
  ·exact map1 _ _ _ hq fun t ht=>⟨.some (ht.cons (.inr (.inl rfl))),.none⟩
  split at hq
  ·exact map1 _ _ _ hq fun t ht=>⟨.some (ht.cons (.inr (.inl rfl))),.none⟩
  split at hq
  ·split at hq
   ·rename_i t hl
    obtain rfl:=Option.some.inj hq
    exact⟨.some ((h.less hl).cons (.inr (.inl rfl))),.none⟩
   ·exact map1 _ _ _ hq fun t ht=>⟨.some (ht.cons (.inr (.inl rfl))),.none⟩
  split at hq
  ·exact map1 _ _ _ hq fun t _=>⟨.some (h.cons (.inl rfl)),.none⟩
  split at hq
  ·split at hq
   ·rename_i t hl
    cases hl2:lessP t 112 1 with
    |none=>rw[hl2] at hq;cases hq
    |some u=>
     rw[hl2] at hq
     obtain rfl:=Option.some.inj hq
     exact⟨.some ((h.less hl).less hl2),.none⟩
   ·cases hq
  split at hq
  ·exact map1 _ _ _ hq fun t ht=>⟨.some (ht.cons (.inr (.inr rfl))),.none⟩
  split at hq
  ·exact map1 _ _ _ hq fun t ht=>⟨.some ((h.cons (.inl rfl)).cons (.inl rfl)),.some ht⟩
  split at hq
  ·exact map1 _ _ _ hq fun t ht=>⟨.some ht,.none⟩
  ·obtain rfl:=Option.some.inj hq
   exact⟨.some h,.none⟩
theorem step_ok (x:Ci) {s:List UInt8} (h:SgOk s) {q:Option (List UInt8)×Option (List UInt8)} (hq:stepR x s=some q):(∀t,q.1=some t→t.length≤30000∧SgOk t)∧∀t,q.2=some t→t.length≤30000∧SgOk t:=by
 unfold stepR at hq
 cases hd:doesR x s with
 |none=>rw[hd] at hq;cases hq
 |some r=>
  rw[hd] at hq
  dsimp only at hq
  split at hq
  ·cases hq
  ·rename_i hh
   obtain rfl:=Option.some.inj hq
   obtain⟨h1,h2⟩:=does_ok x h hd
   have hh2:tooHigh r.1=false∧tooHigh r.2=false:=by simpa using hh
   refine⟨fun t e=>⟨?_,h1 t e⟩,fun t e=>⟨?_,h2 t e⟩⟩
   ·have:=hh2.1
    rw[e] at this
    simpa[tooHigh] using this
   ·have:=hh2.2
    rw[e] at this
    simpa[tooHigh] using this
theorem StOk.hand {a:List (Option (List UInt8))} (h:StOk a) (k:Nat) {o:Option (List UInt8)} (ho:∀t,o=some t→t.length≤30000∧SgOk t):StOk (handO a k o).1:=by
 unfold handO
 cases o with
 |none=>exact h
 |some s=>
  unfold handB
  dsimp only
  split
  ·intro t ht
   rcases List.mem_or_eq_of_mem_set ht with e|e
   ·exact h t e
   ·exact ho t e.symm
  ·exact h
theorem StOk.round {code:List Ci} {a:List (Option (List UInt8))} (h:StOk a) (k:Nat):StOk (roundS code a k).2:=by
 unfold roundS
 split
 ·rename_i x s hx hs
  have hsm:=getD_mem_some hs
  cases hst:stepR x s with
  |none=>exact h
  |some q=>
   obtain⟨q1,q2⟩:=step_ok x (h s hsm).2 hst
   dsimp only
   have h1:=h.hand (k+1) q1
   split
   ·exact h1
   ·have h2:=h1.hand x.a.toNat q2
    split
    ·exact h2
    ·exact h2
 ·exact h
def sgn3 (c:Nat):UInt8:=if c=0 then 118 else if c=1 then 112 else 116
theorem sgn_inj {c d:Nat} (hc:c<3) (hd:d<3) (h:sgn3 c=sgn3 d):c=d:=by
 have:c=0∨c=1∨c=2:=by omega
 have:d=0∨d=1∨d=2:=by omega
 rcases ‹c=0∨_› with rfl|rfl|rfl<;>rcases ‹d=0∨_› with rfl|rfl|rfl<;>first|rfl|exact absurd h (by decide)
structure TbOk (S:List (List UInt8)) (tops bel hig abv:List Int):Prop where
 pos:0<S.length
 l0:tops.length=S.length
 l1:bel.length=S.length
 l2:hig.length=S.length
 l3:abv.length=S.length*3
 zero:S[0]? =some []
 link:∀(k:Nat) (s:List UInt8),0<k→S[k]? =some s→∃c b t,c<3∧b<k∧S[b]? =some t∧s=sgn3 c::t∧tops[k]? =some (c:Int)∧bel[k]? =some (b:Int)
 high:∀(k:Nat) (s:List UInt8),S[k]? =some s→hig[k]? =some (s.length:Int)
 no:∀(k c:Nat) (s:List UInt8),S[k]? =some s→c<3→abv[k*3+c]? =some 0→∀(j:Nat) (t:List UInt8),S[j]? =some t→t≠sgn3 c::s
 yes:∀(k c:Nat) (s:List UInt8),S[k]? =some s→c<3→∃v:Nat,abv[k*3+c]? =some (v:Int)∧(v≠0→S[v]? =some (sgn3 c::s))
 inj:∀(i j:Nat) (s:List UInt8),S[i]? =some s→S[j]? =some s→i=j
theorem getA {α:Type} {l:List α} {x:α} {k:Nat} {y:α}:(l++ [x])[k]? =some y ↔ l[k]? =some y∨(k=l.length∧x=y):=by
 rcases Nat.lt_trichotomy k l.length with h|h|h
 ·rw[List.getElem?_append_left h]
  exact⟨.inl,fun e=>e.elim id fun e=>by omega⟩
 ·subst h
  rw[List.getElem?_append_right (Nat.le_refl _),List.getElem?_eq_none (Nat.le_refl _)]
  simp
 ·rw[List.getElem?_eq_none (by simp;omega),List.getElem?_eq_none (by omega)]
  exact⟨fun e=>by(cases e),fun e=>e.elim (fun e=>by cases e) fun e=>by omega⟩
theorem TbOk.begin:TbOk [[]] [-1] [0] [0] [0,0,0]:=by
 refine⟨by decide,rfl,rfl,rfl,rfl,rfl,fun k s h1 h2=> ?_,fun k s h=> ?_,fun k c s h hc h0 j t ht=> ?_,fun k c s h hc=> ?_,fun i j s h1 h2=> ?_⟩
 ·have:=(List.getElem?_eq_some_iff.1 h2).1;simp at this;omega
 ·have:=(List.getElem?_eq_some_iff.1 h).1
  obtain rfl:k=0:=by simpa using this
  obtain rfl: []=s:=by simpa using h
  rfl
 ·have:=(List.getElem?_eq_some_iff.1 ht).1
  obtain rfl:j=0:=by simpa using this
  obtain rfl: []=t:=by simpa using ht
  simp
 ·have:=(List.getElem?_eq_some_iff.1 h).1
  obtain rfl:k=0:=by simpa using this
  refine⟨0, ?_,fun h=>absurd rfl h⟩
  have:c=0∨c=1∨c=2:=by omega
  rcases this with rfl|rfl|rfl<;>rfl
 ·have a1:=(List.getElem?_eq_some_iff.1 h1).1
  have a2:=(List.getElem?_eq_some_iff.1 h2).1
  simp at a1 a2
  omega
theorem TbOk.push {S:List (List UInt8)} {tops bel hig abv:List Int} (h:TbOk S tops bel hig abv) {k c:Nat} {s:List UInt8} (hk:S[k]? =some s) (hc:c<3) (h0:abv[k*3+c]? =some 0):
  TbOk (S++ [sgn3 c::s]) (tops++ [(c:Int)]) (bel++ [(k:Int)]) (hig++ [(s.length:Int)+1]) ((abv++ [0,0,0]).set (k*3+c) (S.length:Int)):=by
 have hkl:=(List.getElem?_eq_some_iff.1 hk).1
 have hno:=h.no k c s hk hc h0
 have hpos:=h.pos
 have hget:∀i,((abv++ [0,0,0]).set (k*3+c) (S.length:Int))[i]? =if i=k*3+c then some (S.length:Int) else if i<S.length*3 then abv[i]? else if i<S.length*3+3 then some 0 else none:=fun i=>by
  rw[List.getElem?_set]
  by_cases e:i=k*3+c
  ·subst e
   rw[if_pos rfl,if_pos rfl,if_pos (by rw[List.length_append,h.l3];simp;omega)]
  ·rw[if_neg (fun e2=>e e2.symm),if_neg e]
   by_cases e2:i<S.length*3
   ·rw[if_pos e2,List.getElem?_append_left (by rw[h.l3];exact e2)]
   ·rw[if_neg e2,List.getElem?_append_right (by rw[h.l3];omega),h.l3]
    by_cases e3:i<S.length*3+3
    ·rw[if_pos e3]
     have:i-S.length*3=0∨i-S.length*3=1∨i-S.length*3=2:=by omega
     rcases this with e|e|e<;>rw[e]<;>rfl
    ·rw[if_neg e3]
     exact List.getElem?_eq_none (by simp;omega)
 refine⟨by simp,by simp[h.l0],by simp[h.l1],by simp[h.l2],by simp[h.l3];omega, ?_,fun i t hi ht=> ?_,fun i t ht=> ?_,fun i d t ht hd hv j u hu=> ?_,fun i d t ht hd=> ?_,fun i j t hi hj=> ?_⟩
 ·rw[List.getElem?_append_left hpos];exact h.zero
 ·rcases getA.1 ht with ht|⟨rfl,rfl⟩
  ·obtain⟨c',b,t',h1,h2,h3,h4,h5,h6⟩:=h.link i t hi ht
   exact⟨c',b,t',h1,h2,getA.2 (.inl h3),h4,getA.2 (.inl h5),getA.2 (.inl h6)⟩
  ·exact⟨c,k,s,hc,hkl,getA.2 (.inl hk),rfl,getA.2 (.inr ⟨h.l0.symm,rfl⟩),getA.2 (.inr ⟨h.l1.symm,rfl⟩)⟩
 ·rcases getA.1 ht with ht|⟨rfl,rfl⟩
  ·exact getA.2 (.inl (h.high i t ht))
  ·exact getA.2 (.inr ⟨h.l2.symm,by rw[List.length_cons];omega⟩)
 ·rw[hget] at hv
  by_cases e:i*3+d=k*3+c
  ·rw[if_pos e] at hv
   have:=Option.some.inj hv
   omega
  ·rw[if_neg e] at hv
   rcases getA.1 ht with ht|⟨rfl,rfl⟩
   ·have hil:=(List.getElem?_eq_some_iff.1 ht).1
    rw[if_pos (by omega)] at hv
    rcases getA.1 hu with hu|⟨rfl,rfl⟩
    ·exact h.no i d t ht hd hv j u hu
    ·intro he
     injection he with e1 e2
     obtain rfl:=sgn_inj hc hd e1
     subst e2
     have:=h.inj i k s ht hk
     omega
   ·rcases getA.1 hu with hu|⟨rfl,rfl⟩
    ·intro he
     by_cases hj0:j=0
     ·subst hj0
      rw[h.zero] at hu
      rw[←Option.some.inj hu] at he
      cases he
     ·obtain⟨c',b,t',h1,h2,h3,h4,_⟩:=h.link j u (by omega) hu
      rw[h4] at he
      injection he with e1 e2
      exact hno b t' h3 e2
    ·intro he
     have:=congrArg List.length he
     simp at this
 ·rw[hget]
  by_cases e:i*3+d=k*3+c
  ·obtain rfl:i=k:=by omega
   obtain rfl:d=c:=by omega
   rw[if_pos rfl]
   rw[List.getElem?_append_left hkl,hk] at ht
   obtain rfl:=Option.some.inj ht
   exact⟨S.length,rfl,fun _=>getA.2 (.inr ⟨rfl,rfl⟩)⟩
  ·rw[if_neg e]
   rcases getA.1 ht with ht|⟨rfl,rfl⟩
   ·have hil:=(List.getElem?_eq_some_iff.1 ht).1
    rw[if_pos (by omega)]
    obtain⟨v,h1,h2⟩:=h.yes i d t ht hd
    exact⟨v,h1,fun h0=>getA.2 (.inl (h2 h0))⟩
   ·rw[if_neg (by omega),if_pos (by omega)]
    exact⟨0,rfl,fun h=>absurd rfl h⟩
 ·rcases getA.1 hi with hi|⟨rfl,rfl⟩<;>rcases getA.1 hj with hj|⟨rfl,e⟩
  ·exact h.inj i j t hi hj
  ·exact absurd e.symm (hno i t hi)
  ·exact absurd rfl (hno j _ hj)
  ·rfl
end Go.Proofs.YtagnicbknbmccaaGreatDoor
