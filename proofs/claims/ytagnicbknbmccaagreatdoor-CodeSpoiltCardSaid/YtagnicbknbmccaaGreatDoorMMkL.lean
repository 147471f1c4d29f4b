/- How long a program that the laws make is as bytes and as lines. A made program of which one thing is turned: how large it is. code.Right of any program: what it answers is rightC (the walk). code.List of any program: its first line, an append of a row to a full one, the lines' lengths. -/
import Derived.Test.YtagnicbknbmccaaGreatDoorShelf
import Derived.Test.YtagnicbknbmccaaGreatDoorMCmA
import Derived.Test.YtagnicbknbmccaaGreatDoorMCzS
import Derived.Test.YtagnicbknbmccaaGreatDoorMCwV
import Derived.Test.YtagnicbknbmccaaGreatDoorMCxJ
import Derived.Test.YtagnicbknbmccaaGreatDoorMCwF
import Derived.Test.YtagnicbknbmccaaGreatDoorSqC
import Derived.Test.YtagnicbknbmccaaGreatDoorMCzE
set_option maxRecDepth 100000
set_option maxHeartbeats 8000000
namespace Go.Proofs.YtagnicbknbmccaaGreatDoor
theorem quoteC_len (c:UInt8):(quoteC c).length≤4:=by
 unfold quoteC
 repeat' split
 all_goals simp
theorem quoteL_len:∀l:List UInt8,(quoteL l).length≤4*l.length
 | []=>Nat.le_refl _
 |c::r=>by
  have h1:=quoteC_len c
  have h2:=quoteL_len r
  rw[quoteL,List.length_append,List.length_cons]
  omega
theorem words20:∀f∈formsT,f.word.length≤20:=by decide
theorem word_len (op:Int):(formOf op).word.length≤20:=by
 unfold formOf
 split
 ·rw[List.getD_eq_getElem?_getD]
  cases h:formsT[op.toNat]? with
  |none=>decide
  |some f=>exact words20 f (List.mem_of_getElem? h)
 ·decide
theorem flat_le {α:Type} (g:α→List UInt8) (B:Nat):∀l:List α,(∀x∈l,(g x).length≤B)→(l.flatMap g).length≤l.length*B
 | [],_=>Nat.zero_le _
 |x::r,h=>by
  have h1:=h x (List.mem_cons_self ..)
  have h2:=flat_le g B r fun y hy=>h y (List.mem_cons_of_mem _ hy)
  rw[List.flatMap_cons,List.length_append,List.length_cons,Nat.add_mul]
  omega
def TxM (c:List Ci):Prop:=∀x∈c,x.text.data.toList.length≤20
theorem TxM.add {c:List Ci} (h:TxM c) (op a p:Int) {t:List UInt8} (ht:t.length≤20):TxM (c++ [⟨op,a,0,⟨⟨t⟩⟩,p⟩]):=fun x hx=>by
 rcases List.mem_append.1 hx with hx|hx
 ·exact h x hx
 ·rw[List.mem_singleton.1 hx];exact ht
theorem tab_len {l:List (List UInt8)} (h:∀t∈l,t.length≤20) (i:Nat):(l.getD i []).length≤20:=by
 rw[List.getD_eq_getElem?_getD]
 cases hx:l[i]? with
 |none=>exact Nat.zero_le _
 |some t=>exact h t (List.mem_of_getElem? hx)
theorem TxM.push {m:Mk} (h:TxM m.code):TxM m.push.code:=by
 unfold Mk.push
 simp only
 split
 all_goals first
  |exact TxM.add h _ _ _ (by decide)
  |exact TxM.add h _ _ _ (tab_len (by decide) _)
  |(split<;>exact TxM.add h _ _ _ (by decide))
theorem TxM.fill {m:Mk} (h:TxM m.code):TxM m.fill.code:=by
 unfold Mk.fill
 split
 ·exact h.push.push
 ·split
  ·exact h.push
  ·exact h
theorem TxM.pick {m:Mk} (h:TxM m.code) (n w:Nat):TxM (m.pick n w).code:=by
 unfold Mk.pick
 split
 all_goals first
  |exact TxM.add h _ _ _ (by decide)
  |exact TxM.add h _ _ _ (tab_len (by decide) _)
  |exact TxM.add (TxM.add (TxM.add h _ _ _ (by decide)) _ _ _ (by decide)) _ _ _ (by decide)
  |exact TxM.add (TxM.add (TxM.add (TxM.add h _ _ _ (by decide)) _ _ _ (by decide)) _ _ _ (by decide)) _ _ _ (by decide)
  |exact TxM.add (TxM.add (TxM.add (TxM.add (TxM.add (TxM.add h _ _ _ (by decide)) _ _ _ (by decide)) _ _ _ (by decide)) _ _ _ (by decide)) _ _ _ (by decide)) _ _ _ (by decide)
theorem TxM.one {m:Mk} (h:TxM m.code):TxM m.one.code:=by
 unfold Mk.one
 exact TxM.pick (m:=((m.fill.next (min m.fill.high 4)).2.next 16).2) h.fill _ _
theorem TxM.ones:∀(n:Nat) {m:Mk},TxM m.code→TxM (Mk.ones n m).code
 |0,_,h=>h
 |n+1,m,h=>by
  unfold Mk.ones
  split
  ·exact TxM.ones n h.one
  ·exact h
theorem TxM.body {m:Mk} (h:TxM m.code):TxM m.body.code:=by
 unfold Mk.body
 exact TxM.add (TxM.push (TxM.ones _ (m:=((m.add 1 0 [] 0 0).next 60).2) (TxM.add h _ _ _ (by decide)))) _ _ _ (by decide)
theorem mades_txt (raw:List Int) (tops:Nat):∀(n f at_:Nat),∀x∈madeFns raw tops n f at_,TxM x.code
 |0,_,_,_,h=>by cases h
 |n+1,f,at_,x,h=>by
  rw[madeFns] at h
  rcases List.mem_cons.1 h with rfl|h
  ·unfold madeFn
   simp only
   obtain⟨p,hp⟩:∃p,(if 0<f then Mk.next ⟨raw,at_,[],0,0,0⟩ 3 else(0,(⟨raw,at_,[],0,0,0⟩:Mk)))=p:=⟨_,rfl⟩
   rw[hp]
   obtain⟨l,hl⟩:∃l,(if 1<f then p.2.next 3 else(1,p.2))=l:=⟨_,rfl⟩
   rw[hl]
   have h0:TxM (Mk.body ⟨raw,(l.2.next 3).2.at_,[],0,p.1+1+(l.2.next 3).1,tops⟩).code:=by
    refine TxM.body ?_
    intro y hy
    cases hy
   split
   ·exact h0
   ·exact h0
  ·exact mades_txt raw tops n _ _ x h
theorem made_fns (raw:List Int):(madeC raw).funcs.length≤5∧(madeC raw).globals.length≤2∧(∀s∈(madeC raw).globals,s.data.toList.length≤1)∧∀f∈(madeC raw).funcs,f.name.data.toList.length≤4∧f.taken.length≤1∧f.code.length≤600∧TxM f.code:=by
 obtain⟨tops,htop,hgl,h3,h4,h2⟩:=made_parts raw
 refine⟨h4,by rw[hgl,List.length_take];omega,fun s hs=> ?_,fun f hf=> ?_⟩
 ·rw[hgl] at hs
  have:=List.mem_of_mem_take hs
  simp only[List.mem_cons,List.not_mem_nil,or_false] at this
  rcases this with e|e<;>rw[e]<;>decide
 ·obtain⟨j,hj⟩:=List.getElem?_of_mem hf
  have hm:=h2 j f hj
  have hj5:j<5:=by have:=(List.getElem?_eq_some_iff.1 hj).1;omega
  obtain⟨n,e,e0,e5,p0,pn,hb⟩:=hm.slots
  have hnames:∀i:Fin 5,(madeNames.getD i.val []).length≤4:=by decide
  refine⟨?_, ?_,hb.len, ?_⟩
  ·rcases hm.head with⟨_,_,e⟩|⟨_,_,_,e⟩
   ·rw[e];exact hnames ⟨j,hj5⟩
   ·rw[e];decide
  ·rcases hm.head with⟨_,e,_⟩|⟨_,_,e,_⟩<;>rw[e]<;>decide
  ·unfold madeC at hf
   exact mades_txt _ _ _ _ _ f hf
theorem numB_len (n:Int):(numB n).length≤11:=by unfold numB;exact numU_len 10 _
theorem textB_len (s:List UInt8):(textB s).length≤11+s.length:=by
 unfold textB
 have:=numB_len s.length
 rw[List.length_append]
 omega
theorem instB_len {x:Ci} (h:x.text.data.toList.length≤20):(instB x).length≤75:=by
 have h1:=numB_len x.op
 have h2:=numB_len x.a
 have h3:=numB_len x.b
 have h4:=numB_len x.at_
 have h5:=textB_len x.text.data.toList
 unfold instB
 simp only[List.length_append]
 omega
structure Small (p:Cp):Prop where
 fl:p.funcs.length≤5
 gl:p.globals.length≤4
 gs:∀s∈p.globals,s.data.toList.length≤1
 fs:∀f∈p.funcs,f.name.data.toList.length≤4∧f.taken.length≤1∧f.code.length≤602∧TxM f.code
 ok:CpOk p
theorem made_small (raw:List Int):Small (madeC raw):=by
 obtain⟨a1,a2,a3,a4⟩:=made_fns raw
 exact⟨a1,by omega,a3,fun f hf=>⟨(a4 f hf).1,(a4 f hf).2.1,by have:=(a4 f hf).2.2.1;omega,(a4 f hf).2.2.2⟩,made_cp raw⟩
theorem Small.bytes {p:Cp} (h:Small p):(encodeB p).length≤2000000:=by
 obtain⟨a1,a2,a3,a4,_⟩:=h
 have hf:∀f∈p.funcs,(funcB f).length≤46000:=fun f hf=>by
  obtain⟨b1,b2,b3,b4⟩:=a4 f hf
  have h1:=textB_len f.name.data.toList
  have h2:=numB_len f.params
  have h3:=numB_len f.slots
  have h4:=numB_len f.around
  have h5:=flat_le numB 11 f.taken fun n _=>numB_len n
  have h6:=flat_le instB 75 f.code fun x hx=>instB_len (b4 x hx)
  have h7:=numB_len f.taken.length
  have h8:=numB_len f.code.length
  unfold funcB
  simp only[List.length_append]
  have h9:f.code.length*75≤602*75:=Nat.mul_le_mul_right _ b3
  have h10:f.taken.length*11≤1*11:=Nat.mul_le_mul_right _ b2
  omega
 have h1:=flat_le funcB 46000 _ hf
 have h2:=flat_le (fun s:ByteArray=>textB s.data.toList) 12 p.globals fun s hs=>by have:=textB_len s.data.toList;have:=a3 s hs;omega
 have h3:=numB_len p.globals.length
 have h4:=numB_len p.funcs.length
 have h5:p.funcs.length*46000≤5*46000:=Nat.mul_le_mul_right _ a1
 have h6:p.globals.length*12≤4*12:=Nat.mul_le_mul_right _ a2
 unfold encodeB
 simp only[List.length_append,List.length_cons,List.length_nil]
 omega
theorem instL_len {x:Ci} (h:x.text.data.toList.length≤20) (ha:okI x.a) (hb:okI x.b) (hp:okI x.at_):(instL x).length≤200:=by
 have h1:=word_len x.op
 have h2:=quoteL_len x.text.data.toList
 have h3:=words_len (9::(formOf x.op).word) [x.a,x.b,x.at_] (by
  intro n hn
  simp only[List.mem_cons,List.not_mem_nil,or_false] at hn
  rcases hn with rfl|rfl|rfl<;>assumption)
 simp only[List.length_cons,List.length_nil] at h3
 unfold instL
 simp only[List.length_append,List.length_cons,List.length_nil]
 split
 ·simp only[List.length_nil];omega
 ·simp only[List.length_append,List.length_cons,List.length_nil];omega
theorem Small.lines {p:Cp} (h:Small p):(listL p).length≤2000000:=by
 obtain⟨a1,a2,a3,a4,_,_,ok,_⟩:=h
 have hf:∀f∈p.funcs,(funcL f).length≤122000:=fun f hf=>by
  obtain⟨b1,b2,b3,b4⟩:=a4 f hf
  obtain⟨_,o1,o2,o3,_,_,o4,o5⟩:=ok f hf
  have h6:=flat_le instL 200 f.code fun x hx=>by
   obtain⟨_,c2,c3,c4,_⟩:=o5 x hx
   exact instL_len (b4 x hx) c2 c3 c4
  have h9:f.code.length*200≤602*200:=Nat.mul_le_mul_right _ b3
  unfold funcL
  have h1:=words_len ([102,117,110,99,32]++(if f.name.data.toList=[] then [45] else f.name.data.toList)) [f.params,f.slots,f.around] (by
   intro n hn
   simp only[List.mem_cons,List.not_mem_nil,or_false] at hn
   rcases hn with rfl|rfl|rfl<;>assumption)
  have h2:=words_len (wordsL ([102,117,110,99,32]++(if f.name.data.toList=[] then [45] else f.name.data.toList)) [f.params,f.slots,f.around]) f.taken o4
  have h3:([102,117,110,99,32]++(if f.name.data.toList=[] then [45] else f.name.data.toList):List UInt8).length≤9:=by
   split
   ·decide
   ·simp only[List.length_append,List.length_cons,List.length_nil];omega
  simp only[List.length_cons,List.length_nil] at h1
  simp only[List.length_append,List.length_cons] at h1 h2 h3⊢
  omega
 have h1:=flat_le funcL 122000 _ hf
 have h2:=flat_le (fun s:ByteArray=>32::s.data.toList) 2 p.globals fun s hs=>by have:=a3 s hs;simp only[List.length_cons];omega
 have h5:p.funcs.length*122000≤5*122000:=Nat.mul_le_mul_right _ a1
 have h6:p.globals.length*2≤4*2:=Nat.mul_le_mul_right _ a2
 unfold listL
 simp only[List.length_append,List.length_cons,List.length_nil]
 omega
theorem Small.tame {p:Cp} (h:Small p):Tame p∧∀f∈p.funcs,∀x∈f.code,x.text.size≤3000000:=by
 have a1:=h.fl
 have a4:=h.fs
 refine⟨⟨h.ok,fun f hf=>ba_le (a4 f hf).1 (by decide),fun f hf x hx=>ba_le ((a4 f hf).2.2.2 x hx) (by decide), ?_⟩,fun f hf x hx=>ba_le ((a4 f hf).2.2.2 x hx) (by decide)⟩
 obtain⟨_,h2⟩:=manySum_le (B:=602) p.funcs fun f hf=>(a4 f hf).2.2.1
 have h5:p.funcs.length*602≤5*602:=Nat.mul_le_mul_right _ a1
 omega
theorem made_bytes_len (raw:List Int):(encodeB (madeC raw)).length≤2000000:=(made_small raw).bytes
theorem made_lines_len (raw:List Int):(listL (madeC raw)).length≤2000000:=(made_small raw).lines
theorem made_tame (raw:List Int):Tame (madeC raw)∧∀f∈(madeC raw).funcs,∀x∈f.code,x.text.size≤3000000:=(made_small raw).tame
theorem mod_mem {α:Type} {g:α→α} {l:List α} {f:Nat} {y:α} (h:y∈l.modify f g):y∈l∨∃x∈l,y=g x:=by
 obtain⟨j,hj⟩:=List.getElem?_of_mem h
 rw[modify_at] at hj
 split at hj
 ·cases hx:l[j]? with
  |none=>rw[hx] at hj;cases hj
  |some x=>
   rw[hx] at hj
   exact .inr ⟨x,List.mem_of_getElem? hx,(Option.some.inj hj).symm⟩
 ·exact .inl (List.mem_of_getElem? hj)
theorem okI_s (n:Int) (h: -1000≤n∧n≤1000):okI n:=⟨by omega,by omega⟩
theorem ci_turn {l:List Ci} {k:Nat} {g:Ci→Ci} (hl:TxM l∧∀x∈l,CiOk x) (hg:∀x∈l,(g x).text.data.toList.length≤20∧CiOk (g x)):TxM (l.modify k g)∧∀x∈l.modify k g,CiOk x:=by
 refine⟨fun y hy=> ?_,fun y hy=> ?_⟩
 ·rcases mod_mem hy with h|⟨x,hx,rfl⟩
  ·exact hl.1 y h
  ·exact(hg x hx).1
 ·rcases mod_mem hy with h|⟨x,hx,rfl⟩
  ·exact hl.2 y h
  ·exact(hg x hx).2
theorem set_as {l:List Ci} {k:Nat} (v:Ci):l.set k v=l.modify k fun _=>v:=by
 apply List.ext_getElem?
 intro j
 rw[modify_at,List.getElem?_set]
 by_cases h:k=j
 ·subst h
  simp only[if_true]
  cases hx:l[k]? with
  |none=>
   have:=List.getElem?_eq_none_iff.1 hx
   rw[if_neg (by omega)]
   rfl
  |some x=>
   have:=(List.getElem?_eq_some_iff.1 hx).1
   rw[if_pos this]
   rfl
 ·rw[if_neg h,if_neg h]
theorem app_ok {l r:List Ci} (hl:TxM l∧∀x∈l,CiOk x) (hr:TxM r∧∀x∈r,CiOk x):TxM (l++r)∧∀x∈l++r,CiOk x:=by
 refine⟨fun y hy=> ?_,fun y hy=> ?_⟩<;>rcases List.mem_append.1 hy with h|h
 ·exact hl.1 y h
 ·exact hr.1 y h
 ·exact hl.2 y h
 ·exact hr.2 y h
theorem lit_ok {l:List Ci} (h:∀x∈l,x.text=⟨#[]⟩∧(x.op=7∨x.op=16∨x.op=50)∧x.a=0∧x.b=0∧x.at_=0):TxM l∧∀x∈l,CiOk x:=by
 refine⟨fun x hx=> ?_,fun x hx=> ?_⟩
 ·rw[(h x hx).1];decide
 ·obtain⟨e1,e2,e3,e4,e5⟩:=h x hx
  refine⟨okI_s _ (by omega),okI_s _ (by omega),okI_s _ (by omega),okI_s _ (by omega), ?_⟩
  rw[e1];decide
theorem spoilF_ok {f:Cf} (w k:Nat) (h0:0≤f.params) (hn:f.name.data.toList.length≤4∧f.taken.length≤1∧f.code.length≤600∧TxM f.code) (ho:CfOk f):
  ((spoilF w k f).name.data.toList.length≤4∧(spoilF w k f).taken.length≤1∧(spoilF w k f).code.length≤602∧TxM (spoilF w k f).code)∧CfOk (spoilF w k f):=by
 obtain⟨n1,n2,n3,n4⟩:=hn
 obtain⟨o1,o2,o3,o4,o5,o6,o7,o8⟩:=ho
 have hc:TxM f.code∧∀x∈f.code,CiOk x:=⟨n4,o8⟩
 have fin:∀c:List Ci,c.length≤602→(TxM c∧∀x∈c,CiOk x)→(f.name.data.toList.length≤4∧f.taken.length≤1∧c.length≤602∧TxM c)∧CfOk {f with code:=c}:=fun c hl hk=>⟨⟨n1,n2,hl,hk.1⟩,o1,o2,o3,o4,o5,by show c.length≤_;omega,o7,hk.2⟩
 unfold spoilF
 split
 ·exact fin _ (by simp;omega) (ci_turn hc fun x hx=>⟨n4 x hx,okI_s _ (by simp),(o8 x hx).2⟩)
 ·exact fin _ (by simp;omega) (ci_turn hc fun x hx=>⟨n4 x hx,okI_s _ (by simp),(o8 x hx).2⟩)
 ·exact fin _ (by simp;omega) (ci_turn hc fun x hx=>⟨n4 x hx,(o8 x hx).1,(o8 x hx).2.1,(o8 x hx).2.2.1,okI_s _ (by simp),(o8 x hx).2.2.2.2⟩)
 ·exact fin _ (by simp;omega) (app_ok hc (lit_ok fun x hx=>by rw[List.mem_singleton.1 hx];exact⟨rfl,.inl rfl,rfl,rfl,rfl⟩))
 ·exact⟨⟨n1,n2,by show f.code.length≤602;omega,n4⟩,o1,o2,⟨by show _≤f.params-1;omega,by show f.params-1≤_;have:=o2.2;omega⟩,o4,o5,o6,o7,o8⟩
 ·exact⟨⟨n1,n2,by omega,n4⟩,o1,o2,o3,o4,o5,o6,o7,o8⟩
 ·rw[set_as]
  refine fin _ (by simp;omega) (ci_turn hc fun x hx=>⟨show(⟨#[]⟩:ByteArray).data.toList.length≤20 by decide,okI_s _ (by simp),okI_s _ (by simp only;omega),okI_s _ (by simp),okI_s _ (by simp),show(⟨#[]⟩:ByteArray).size≤140737488351232 by decide⟩)
 ·exact fin _ (by simp;omega) (app_ok hc (lit_ok fun x hx=>by
   simp only[List.mem_cons,List.not_mem_nil,or_false] at hx
   rcases hx with rfl|rfl
   ·exact⟨rfl,.inr (.inl rfl),rfl,rfl,rfl⟩
   ·exact⟨rfl,.inr (.inr rfl),rfl,rfl,rfl⟩))
theorem spoil_small (raw:List Int) (f w k:Nat):Small (spoilC (madeC raw) f w k):=by
 obtain⟨a1,a2,a3,a4⟩:=made_fns raw
 obtain⟨tops,htop,hgl,h3,h4,h2⟩:=made_parts raw
 obtain⟨_,_,ok,okg⟩:=made_cp raw
 have hone:∀g∈(madeC raw).funcs,0≤g.params:=fun g hg=>by
  obtain⟨j,hj⟩:=List.getElem?_of_mem hg
  obtain⟨n,_,_,_,p0,_⟩:=(h2 j g hj).slots
  exact p0
 have hall:∀g∈(spoilC (madeC raw) f w k).funcs,(g.name.data.toList.length≤4∧g.taken.length≤1∧g.code.length≤602∧TxM g.code)∧CfOk g:=fun g hg=>by
  rcases mod_mem hg with h|⟨x,hx,rfl⟩
  ·obtain⟨b1,b2,b3,b4⟩:=a4 g h
   exact⟨⟨b1,b2,by omega,b4⟩,ok g h⟩
  ·exact spoilF_ok w k (hone x hx) (a4 x hx) (ok x hx)
 have hgs:∀s∈(spoilC (madeC raw) f w k).globals,s.data.toList.length≤1:=fun s hs=>by
  unfold spoilC at hs
  simp only at hs
  split at hs
  ·rcases List.mem_append.1 hs with h|h
   ·exact a3 s h
   ·simp only[List.mem_cons,List.not_mem_nil,or_false,or_self] at h
    rw[h];decide
  ·exact a3 s hs
 have hfl:(spoilC (madeC raw) f w k).funcs.length≤5:=by unfold spoilC;simp;exact a1
 have hgl2:(spoilC (madeC raw) f w k).globals.length≤4:=by
  unfold spoilC
  simp only
  split
  ·rw[List.length_append];simp only[List.length_cons,List.length_nil];omega
  ·omega
 exact⟨hfl,hgl2,hgs,fun g hg=>(hall g hg).1,by omega,by omega,fun g hg=>(hall g hg).2,fun s hs=>ba_le (hgs s hs) (by decide)⟩
open Go.RowKit
theorem right_many {p:Cp}:rightC p=match manyC p with
  |some i=>some ⟨22,i,none⟩
  |none=>if !globalsB [] (p.globals.map fun s=>s.data.toList) then some ⟨130,0,none⟩ else match headsFrom p.funcs 0 p.funcs [] with
   |some i=>some ⟨130,i,none⟩
   |none=>match codesFrom p 0 p.funcs with
    |some w=>some w
    |none=>fitsFrom 0 p.funcs:=by
 unfold rightC manyC
 split
 ·rfl
 ·cases manyFrom p.funcs 0<;>rfl
theorem many_len {p:Cp} (h:manyC p=none) (hs:manySum p.funcs≤4000000000000):p.funcs.length≤20000∧manySum p.funcs≤60000:=by
 have:=manySum_pos p.funcs
 unfold manyC at h
 rw[show IntKind.i64.wrap (manySum p.funcs)=manySum p.funcs by rw[IntKind.wrap_i64];omega] at h
 split at h
 ·cases h
 ·omega
theorem RightPost.wrong {w wr w':World} {c a:Int} {i:Option Int} {b:Nat} (hb:Below w.heap.size w wr) (h1:Below wr.heap.size wr w') (hl:wr.heap.size≤b) (hw:WrAt w' b c a i):RightPost w (some ⟨c,a,i⟩) (.returned (.iface 42 (.pointer (some ⟨b,0,none⟩)))) w':=
 ⟨hb.trans (h1.mono hb.size),b,rfl,Nat.le_trans hb.size hl,hw⟩
theorem WrongPost.out {w:World} {c a:Int} {i:Option Int} {e:Ending} {w':World} (h:WrongPost w c a i e w'):∃b,e= .returned (.pointer (some ⟨b,0,none⟩))∧Below w.heap.size w w'∧w.heap.size≤b∧WrAt w' b c a i:=by
 obtain⟨h1,b,h2,h3,h4⟩:=h
 exact⟨b,h2,h1,h3,h4⟩
theorem right_all {p:Cp} {n m fc gc:Nat} {fa ga:Option Addr} {xs:List (Cf×Fv)} {w:World} (hp:PgAt w p n m fa ga xs) (h1:n≤fc) (h2:m≤gc) (ht:Tame p) (hG:Gc w):
  Calls Tryz.prog 11 #[.agg #[.slice fa n fc,.slice ga m gc]] w (RightPost w (rightC p)):=by
 obtain⟨R,HR⟩:∃R,Hid (rightC p=R):=⟨_,rfl⟩
 rw[HR.out]
 have HE:=Lib.hid ((right_many (p:=p)).symm.trans HR.out)
 have HPG:=Lib.hid hp
 have HT:=Lib.hid ht
 have HGc:=Lib.hid hG
 have hnl:=hp.fn
 have hml:=hp.gn
 have HN:=Lib.hid hnl
 have HM:=Lib.hid hml
 have hn:n≤140737488351232:=hnl▸ht.ok.1
 have hm2:m≤140737488351232:=hml▸ht.ok.2.1
 have h13:=hG.size
 have HMA:Hid (∀W,Below w.heap.size w W→Calls Tryz.prog 33 #[.agg #[.slice fa n fc,.slice ga m gc]] W (ManyPost W (manyC p))):=Lib.hid fun W hW=>codeMany_any (hp.rise hW) ht.ok ht.sum
 have HGL:Hid (∀W,Below w.heap.size w W→Calls Tryz.prog 34 #[.slice ga m gc] W fun e w'=>e= .returned (.bool (globalsB [] (p.globals.map fun s=>s.data.toList)))∧Below W.heap.size W w'):=Lib.hid fun W hW=>by
  have:=globals_any p.globals ga gc W (hG.up hW) (hp.rise hW).gr ht.ok.2.1 ht.ok.2.2.2
  rw[hml] at this
  exact this
 have HHD:Hid (∀(W:World) (i b k:Nat) (old:List (List UInt8)) (f:Cf),Below w.heap.size w W→w.heap.size≤b→CntAt W b k old→k≤100000000000000→old.length≤100000000000000→p.funcs[i]? =some f→Calls Tryz.prog 36 #[.agg #[.slice fa n fc,.slice ga m gc],.int .i64 i,.map (some b)] W (HeadPost w W b k (headedB p.funcs i f old) (nextOld i f old))):=
  Lib.hid fun W i b k old f hW hb hc hk ho hf=>headed_any hp ht.ok (ht.names f (List.mem_of_getElem? hf)) hW (hG.up hW) h13 hb hc hk ho hf
 have HLV:Hid (∀(W:World),Below w.heap.size w W→LiesC W W.heap.size p (.agg #[.slice fa n fc,.slice ga m gc])):=Lib.hid fun W hW=>(hp.rise hW).lies h1 h2
 have HFN:Hid (∀(W:World),Below w.heap.size w W→∀i f,p.funcs[i]? =some f→∃g q fv,fa=some ⟨g,q,none⟩∧LiesF w w.heap.size (f,fv)∧HeadAt W g q i n f.name f.params f.slots f.around fv.ta f.taken.length fv.tc fv.ca f.code.length fv.cc):=Lib.hid fun W hW i f hf=>headAt_of hp hW hf
 have hm:=mapNew
 clear hp ht hG hnl hml h1 h2
 have HB0:Hid (Below w.heap.size w (w.alloc (.cells #[.slice fa n fc,.slice ga m gc] 27 (0,0)))):=Lib.hid ((Below.refl _ _).alloc (Nat.le_refl _) _)
 have HP0:=Lib.hid (heap_alloc_new w (.cells #[.slice fa n fc,.slice ga m gc] 27 (0,0)))
 go_enter Tryz.func11,Tryz.ntmps11
 cases hM:manyC p with
 |some i0=>
  rw[hM] at HMA HE
  have hR:R=some ⟨22,i0,none⟩:=HE.out.symm
  subst hR
  clear hM
  go_wp2_with (go_at_call 33;refine(HMA.out _ HB0.out).mono ?_;intro e w1 hpost;obtain⟨b,rfl,hb1,hl1,hw1⟩:=WrongPost.out hpost;clear hpost)
  go_ret
  exact RightPost.wrong HB0.out hb1 hl1 hw1
 |none=>
 have hlen:=many_len hM HT.out.sum
 rw[HN.out] at hlen
 obtain⟨hn2,hsum⟩:=hlen
 have HSUM:=Lib.hid hsum
 rw[hM] at HMA HE
 clear hM hsum
 cases hGB:globalsB [] (p.globals.map fun s=>s.data.toList) with
 |false=>
  rw[hGB] at HGL HE
  have hR:R=some ⟨130,0,none⟩:=HE.out.symm
  subst hR
  clear hGB
  go_wp2_with (first
   |(go_at_call 33;refine(HMA.out _ HB0.out).mono ?_;rintro e w1 ⟨rfl,hb1⟩;have hB1:=HB0.out.trans (hb1.mono HB0.out.size);have hP1:=(hb1.block _ (Array.getElem?_eq_some_iff.1 HP0.out).1).trans HP0.out;have p1:=cell_of_row w1 _ 1 _ _ _ hP1;simp only[gq] at p1;have HB1:=Lib.hid hB1;clear hB1 hP1 hb1)
   |(go_at_call 34;refine(HGL.out _ HB1.out).mono ?_;rintro e w2 ⟨rfl,hb2⟩;have HB2:=Lib.hid (HB1.out.trans (hb2.mono HB1.out.size));clear hb2)
   |(go_at_call 35;refine(wrong_none 130 0 _).mono ?_;intro e w3 hpost;obtain⟨b,rfl,hb3,hl3,hw3⟩:=WrongPost.out hpost;clear hpost))
  go_ret
  exact RightPost.wrong HB2.out hb3 hl3 hw3
 |true=>
 rw[hGB] at HGL HE
 clear hGB
 have HE2:Hid ((match headsFrom p.funcs 0 p.funcs [] with
   |some i=>some ⟨130,i,none⟩
   |none=>match codesFrom p 0 p.funcs with
    |some w=>some w
    |none=>fitsFrom 0 p.funcs:Option Cwr)=R):=Lib.hid HE.out
 obtain⟨RH,HRH⟩:∃RH,Hid (headsFrom p.funcs 0 p.funcs []=RH):=⟨_,rfl⟩
 rw[HRH.out] at HE2
 clear HE
 go_wp2_with (first
  |(go_at_call 33;refine(HMA.out _ HB0.out).mono ?_;rintro e w1 ⟨rfl,hb1⟩;have hB1:=HB0.out.trans (hb1.mono HB0.out.size);have hP1:=(hb1.block _ (Array.getElem?_eq_some_iff.1 HP0.out).1).trans HP0.out;have p1:=cell_of_row w1 _ 1 _ _ _ hP1;simp only[gq] at p1;have HB1:=Lib.hid hB1;have HP1:=Lib.hid hP1;clear hB1 hP1 hb1)
  |(go_at_call 34;refine(HGL.out _ HB1.out).mono ?_;rintro e w2 ⟨rfl,hb2⟩;have hB2:=HB1.out.trans (hb2.mono HB1.out.size);have hP2:=(hb2.block _ (Array.getElem?_eq_some_iff.1 HP1.out).1).trans HP1.out;have hP3:=(heap_alloc_old w2 (.map #[] 0) (Array.getElem?_eq_some_iff.1 hP2).1).trans hP2;have q0:=cell_of_row _ _ 0 _ _ _ hP3;simp only[gq] at q0;have HB2:=Lib.hid hB2;have HP2:=Lib.hid hP2;clear hB2 hP2 hb2))
 have HB3:Hid (Below w.heap.size w (w2.alloc (.map #[] 0))):=Lib.hid (HB2.out.alloc HB2.out.size _)
 have HP3:Hid ((w2.alloc (.map #[] 0)).heap[w.heap.size]? =some (.cells #[.slice fa n fc,.slice ga m gc] 27 (0,0))):=Lib.hid ((heap_alloc_old _ _ (Array.getElem?_eq_some_iff.1 HP2.out).1).trans HP2.out)
 have HC3:=Lib.hid (CntAt.made w2)
 have hmb:w.heap.size<w2.heap.size:=(Array.getElem?_eq_some_iff.1 HP2.out).1
 obtain⟨mb,hmb2⟩:∃mb,w2.heap.size=mb:=⟨_,rfl⟩
 rw[hmb2] at HC3 hmb
 rw[hmb2]
 clear hmb2 p1 q0 hP3
 go_loopw [28] (fun i wr=>Hid (Below w.heap.size w wr)∧Hid (wr.heap[w.heap.size]? =some (.cells #[.slice fa n fc,.slice ga m gc] 27 (0,0)))∧∃j:Nat,j≤n∧i= .int .i64 j∧∃old:List (List UInt8),old.length≤j∧Hid (CntAt wr mb j old)∧Hid (headsFrom p.funcs j (p.funcs.drop j) old=RH)) (fun i _=>n-(intOf i).toNat)
 case atStart=>exact⟨HB3,HP3,0,Nat.zero_le _,rfl,[],Nat.le_refl _,HC3,HRH⟩
 case round=>
  clear HB3 HP3 HC3
  obtain⟨HB,HP,j,hj,rfl,old,hol,HC,HI⟩:=hrel
  obtain⟨q0,q1⟩:=cr2 wr _ HP.out
  simp only[gq] at q0 q1
  by_cases hlt:j<n
  ·obtain⟨f,hf⟩:∃f,p.funcs[j]? =some f:=⟨_,List.getElem?_eq_getElem (by rw[HN.out];exact hlt)⟩
   have HF:=Lib.hid (HHD.out wr j mb j old f HB.out (Nat.le_of_lt hmb) HC.out (by omega) (by omega) hf)
   have hq:=HI.out
   rw[drop_cons hf,headsFrom_cons] at hq
   have hnx:=nextOld_len j f old
   clear hf
   cases hh:headedB p.funcs j f old with
   |true=>
    rw[hh] at HF hq
    have HQ:=Lib.hid hq
    clear hh hq
    go_wp2_with (go_at_call 36;refine HF.out.mono ?_;rintro e w4 ⟨rfl,hb4,hc4,hk4⟩;have HB4:=Lib.hid hb4;have HC4:=Lib.hid (hc4 rfl);have HP4:=Lib.hid ((hk4 _ (Array.getElem?_eq_some_iff.1 HP.out).1 (by omega)).trans HP.out);clear hb4 hc4 hk4)
    go_roundw
    case rel=>exact⟨HB4,HP4,j+1,by omega,by go_num,_,by omega,HC4,HQ⟩
    case measure=>simp[intOf];omega
   |false=>
    rw[hh] at HF hq
    have hR:R=some ⟨130,j,none⟩:=by
     rw[if_neg (by simp)] at hq
     have:=HE2.out
     rw[←hq] at this
     exact this.symm
    subst hR
    clear hh hq HI HRH HE2
    go_wp2_with (first
     |(go_at_call 36;refine HF.out.mono ?_;rintro e w4 ⟨rfl,hb4,hc4,hk4⟩;have HB4:=Lib.hid hb4;clear hb4 hc4 hk4)
     |(go_at_call 35;refine(wrong_none 130 j _).mono ?_;intro e w3 hpost;obtain⟨b,rfl,hb3,hl3,hw3⟩:=WrongPost.out hpost;clear hpost))
    go_ret
    exact RightPost.wrong HB4.out hb3 hl3 hw3
  ·obtain rfl:j=n:=by omega
   have hRH:RH=none:=by
    rw[←HI.out,List.drop_of_length_le (by rw[HN.out];exact Nat.le_refl _)]
    rfl
   subst hRH
   have HE3:Hid ((match codesFrom p 0 p.funcs with
    |some w=>some w
    |none=>fitsFrom 0 p.funcs:Option Cwr)=R):=Lib.hid HE2.out
   obtain⟨RC,HRC⟩:∃RC,Hid (codesFrom p 0 p.funcs=RC):=⟨_,rfl⟩
   rw[HRC.out] at HE3
   clear HI HRH HE2 HC hol
   go_wp2_with fail
   clear q0 q1
   go_loopw [43] (fun i wr=>Hid (Below w.heap.size w wr)∧Hid (wr.heap[w.heap.size]? =some (.cells #[.slice fa j fc,.slice ga m gc] 27 (0,0)))∧∃q:Nat,q≤j∧i= .int .i64 q∧Hid (codesFrom p q (p.funcs.drop q)=RC)) (fun i _=>j-(intOf i).toNat)
   case atStart=>exact⟨HB,HP,0,Nat.zero_le _,rfl,HRC⟩
   case round=>
    clear HB HP
    obtain⟨HB,HP,q,hq,rfl,HI⟩:=hrel
    obtain⟨q0,q1⟩:=cr2 wr _ HP.out
    simp only[gq] at q0 q1
    by_cases hlt:q<j
    ·obtain⟨f,hf⟩:∃f,p.funcs[q]? =some f:=⟨_,List.getElem?_eq_getElem (by rw[HN.out];exact hlt)⟩
     obtain⟨g,off,fv,rfl,_,hA⟩:=HFN.out wr HB.out q f hf
     have HF:=Lib.hid hf
     have hi:=HI.out
     rw[drop_cons hf,codesFrom_cons] at hi
     have hcl:(f.code.length:Int)≤60000:=Int.le_trans (sum_mem p.funcs f (List.mem_of_getElem? hf)) HSUM.out
     obtain⟨cn,hcn⟩:∃cn,f.code.length=cn:=⟨_,rfl⟩
     have HCN:=Lib.hid hcn
     obtain⟨tn,htn⟩:∃tn,f.taken.length=tn:=⟨_,rfl⟩
     rw[hcn,htn] at hA
     rw[hcn] at hcl
     have hg:=hA.lt
     have x0:=hA.x0
     have x1:=hA.x1
     have x2:=hA.x2
     have x3:=hA.x3
     have x4:=hA.x4
     have x5:=hA.x5
     clear hA hf hcn htn
     by_cases hne:cn=0
     ·subst hne
      have hR:R=some ⟨130,q,none⟩:=by
       rw[if_pos (List.length_eq_zero_iff.1 HCN.out)] at hi
       have:=HE3.out
       rw[←hi] at this
       exact this.symm
      subst hR
      clear hi HI HRC HE3 hcl
      have HB4:Hid (∀o,Below w.heap.size w (wr.alloc o)):=Lib.hid fun o=>HB.out.alloc HB.out.size _
      go_wp2_with (go_at_call 35;refine(wrong_none 130 q _).mono ?_;intro e w3 hpost;obtain⟨b,rfl,hb3,hl3,hw3⟩:=WrongPost.out hpost;clear hpost)
      go_ret
      exact RightPost.wrong (HB4.out _) hb3 hl3 hw3
     ·rw[if_neg (fun e=>hne (by rw[←HCN.out,e];rfl))] at hi
      have HI2:=Lib.hid hi
      have dn:((cn:Int)==0)=false:=by simp;omega
      clear hi HI
      obtain⟨RF,HRF⟩:∃RF,Hid (fineFrom p q f.code 0 f.code=RF):=⟨_,rfl⟩
      rw[HRF.out] at HI2
      go_wp2_with fail
      have HB5:Hid (Below w.heap.size w (wr.alloc (.cells #[.string f.name,.int .i64 f.params,.int .i64 f.slots,.slice fv.ta tn fv.tc,.int .i64 f.around,.slice fv.ca cn fv.cc] 33 (0,0)))):=Lib.hid (HB.out.alloc HB.out.size _)
      have HP5:Hid ((wr.alloc (.cells #[.string f.name,.int .i64 f.params,.int .i64 f.slots,.slice fv.ta tn fv.tc,.int .i64 f.around,.slice fv.ca cn fv.cc] 33 (0,0))).heap[w.heap.size]? =some (.cells #[.slice (some ⟨g,off,none⟩) j fc,.slice ga m gc] 27 (0,0))):=Lib.hid ((heap_alloc_old _ _ (Array.getElem?_eq_some_iff.1 HP.out).1).trans HP.out)
      go_loopw [58] (fun i wr=>Hid (Below w.heap.size w wr)∧Hid (wr.heap[w.heap.size]? =some (.cells #[.slice (some ⟨g,off,none⟩) j fc,.slice ga m gc] 27 (0,0)))∧∃k:Nat,i= .int .i64 k∧k≤cn∧Hid (fineFrom p q f.code k (f.code.drop k)=RF)) (fun i _=>cn-(intOf i).toNat)
      case atStart=>exact⟨HB5,HP5,0,rfl,Nat.zero_le _,HRF⟩
      case round=>
       clear HB HP HB5 HP5 q0 q1 x0 x1 x2 x3 x4 x5 dn
       obtain⟨HB,HP,k,rfl,hk,HK⟩:=hrel
       obtain⟨q0,q1⟩:=cr2 wr _ HP.out
       simp only[gq] at q0 q1
       by_cases hlt2:k<cn
       ·obtain⟨x,hx⟩:∃x,f.code[k]? =some x:=⟨_,List.getElem?_eq_getElem (by rw[HCN.out];exact hlt2)⟩
        have hq2:=HK.out
        rw[drop_cons hx,fineFrom_cons] at hq2
        have HFI:=Lib.hid (fine_any (HGc.out.up HB.out) (HLV.out _ HB.out) HF.out hx (by rw[HCN.out];omega) (fun h=>HT.out.says HF.out hx h))
        clear hx
        cases hfb:fineB p q f.code k x with
        |true=>
         rw[hfb] at HFI hq2
         have HK2:=Lib.hid hq2
         clear hfb hq2
         go_wp2_with (go_at_call 37;refine HFI.out.mono ?_;rintro e w4 ⟨rfl,hb4⟩;have HB4:=Lib.hid (HB.out.trans (hb4.mono HB.out.size));have HP4:=Lib.hid ((hb4.block _ (Array.getElem?_eq_some_iff.1 HP.out).1).trans HP.out);clear hb4)
         go_roundw
         case rel=>exact⟨HB4,HP4,k+1,by go_num,by omega,HK2⟩
         case measure=>simp[intOf];omega
        |false=>
         rw[hfb] at HFI hq2
         have hR:R=some ⟨130,q,some k⟩:=by
          rw[if_neg (by simp)] at hq2
          have h3:=HI2.out
          rw[←hq2] at h3
          have:=HE3.out
          rw[←h3] at this
          exact this.symm
         subst hR
         clear hfb hq2 HI2 HRF HRC HE3 HK
         go_wp2_with (first
          |(go_at_call 37;refine HFI.out.mono ?_;rintro e w4 ⟨rfl,hb4⟩;have HB4:=Lib.hid (HB.out.trans (hb4.mono HB.out.size));clear hb4)
          |(go_at_call 35;refine(wrong_some 130 q k (by omega) _ (HGc.out.up HB4.out)).mono ?_;intro e w3 hpost;obtain⟨b,rfl,hb3,hl3,hw3⟩:=WrongPost.out hpost;clear hpost))
         go_ret
         exact RightPost.wrong HB4.out hb3 hl3 hw3
       ·obtain rfl:k=cn:=by omega
        have hRF:RF=none:=by
         rw[←HK.out,List.drop_of_length_le (by rw[HCN.out];exact Nat.le_refl _)]
         rfl
        subst hRF
        have HI3:Hid (codesFrom p (q+1) (p.funcs.drop (q+1))=RC):=Lib.hid HI2.out
        go_wp2_with fail
        go_roundw
        case rel=>exact⟨HB,HP,q+1,by omega,by go_num,HI3⟩
        case measure=>simp[intOf];omega
    ·obtain rfl:q=j:=by omega
     have hRC:RC=none:=by
      rw[←HI.out,List.drop_of_length_le (by rw[HN.out];exact Nat.le_refl _)]
      rfl
     subst hRC
     have HE4:Hid (fitsFrom 0 p.funcs=R):=Lib.hid HE3.out
     clear HI HE3
     go_wp2_with fail
     clear q0 q1
     go_loopw [75] (fun i wr=>Hid (Below w.heap.size w wr)∧∃k:Nat,k≤q∧i= .int .i64 k∧Hid (fitsFrom k (p.funcs.drop k)=R)) (fun i _=>q-(intOf i).toNat)
     case atStart=>exact⟨HB,0,Nat.zero_le _,rfl,HE4⟩
     case round=>
      clear HB HP
      obtain⟨HB,k,hk,rfl,HI⟩:=hrel
      by_cases hlt:k<q
      ·obtain⟨f,hf⟩:∃f,p.funcs[k]? =some f:=⟨_,List.getElem?_eq_getElem (by rw[HN.out];exact hlt)⟩
       obtain⟨g,off,fv,rfl,hl,hA⟩:=HFN.out wr HB.out k f hf
       have hi:=HI.out
       rw[drop_cons hf,fitsFrom_cons] at hi
       have hcl:(f.code.length:Int)≤60000:=Int.le_trans (sum_mem p.funcs f (List.mem_of_getElem? hf)) HSUM.out
       obtain⟨c1,c2,c3⟩:=codes_fit HRC.out hf
       have HBD:Hid (∀e,fitsP f.code=some e→0≤e∧e≤60000):=Lib.hid fun e he=>by have:=fits_bd c1 c2 he;omega
       have HFI:Hid (∀W,Below w.heap.size w W→Calls Tryz.prog 38 #[fnV (f,fv)] W fun e w'=>e= .returned (.int .i64 (fitsR (fitsP f.code)))∧Below W.heap.size W w'):=
        Lib.hid fun W hW=>fits_any ((hl.2.1.keep hW.block).more hW.size) c1 (by omega) c2 c3
       have hg:=hA.lt
       have x0:=hA.x0
       have x1:=hA.x1
       have x2:=hA.x2
       have x3:=hA.x3
       have x4:=hA.x4
       have x5:=hA.x5
       simp only[fnV] at HFI
       have HB4:Hid (∀o,Below w.heap.size w (wr.alloc o)):=Lib.hid fun o=>HB.out.alloc HB.out.size _
       clear hA hf hl c1 c2 c3 hcl
       cases hfp:fitsP f.code with
       |none=>
        rw[hfp] at HFI hi
        have HI2:=Lib.hid hi
        clear hfp hi
        have d:decide ((0:Int)≤-1)=false:=rfl
        go_wp2_with (go_at_call 38;refine(HFI.out _ (HB4.out _)).mono ?_;rintro e w4 ⟨rfl,hb4⟩;have HB5:=Lib.hid ((HB4.out _).trans (hb4.mono (HB4.out _).size));clear hb4;simp only[fitsR])
        go_roundw
        case rel=>exact⟨HB5,k+1,by omega,by go_num,HI2⟩
        case measure=>simp[intOf];omega
       |some z=>
        obtain⟨hz0,hz1⟩:=HBD.out z hfp
        obtain⟨jz,rfl⟩:=Int.eq_ofNat_of_zero_le hz0
        rw[hfp] at HFI hi
        have hR:R=some ⟨130,k,some (jz:Int)⟩:=hi.symm
        subst hR
        have d:decide ((0:Int)≤(jz:Int))=true:=by simp
        clear hfp hi HI HE4 HBD
        go_wp2_with (first
         |(go_at_call 38;refine(HFI.out _ (HB4.out _)).mono ?_;rintro e w4 ⟨rfl,hb4⟩;have HB5:=Lib.hid ((HB4.out _).trans (hb4.mono (HB4.out _).size));clear hb4;simp only[fitsR])
         |(go_at_call 35;refine(wrong_some 130 k jz (by omega) _ (HGc.out.up HB5.out)).mono ?_;intro e w3 hpost;obtain⟨b,rfl,hb3,hl3,hw3⟩:=WrongPost.out hpost;clear hpost))
        go_ret
        exact RightPost.wrong HB5.out hb3 hl3 hw3
      ·obtain rfl:k=q:=by omega
       have hR:R=none:=by
        rw[←HI.out,List.drop_of_length_le (by rw[HN.out];exact Nat.le_refl _)]
        rfl
       subst hR
       go_wp2_with fail
       go_ret
       exact⟨HB.out,rfl⟩
def tailL (x:Ci):List UInt8:=if x.text.data.toList=[] then [] else 32::(34::quoteL x.text.data.toList++ [34])
def headL (f:Cf):List UInt8:=[102,117,110,99,32]++(if f.name.data.toList=[] then [45] else f.name.data.toList)
theorem instL_eq (x:Ci) (b r:List UInt8):b++(instL x++r)=(b++((wordsL (9::(formOf x.op).word) [x.a,x.b,x.at_]++tailL x)++ [10]))++r:=by simp[instL,tailL]
theorem funcL_eq (f:Cf) (b r:List UInt8):b++(funcL f++r)=(b++(wordsL (wordsL (headL f) [f.params,f.slots,f.around]) f.taken++ [10]))++(f.code.flatMap instL++r):=by simp[funcL,headL]
theorem listL_eq (p:Cp):listL p=(Lib.join (([103,108,111,98,97,108,115]:List UInt8)::p.globals.map fun s=>s.data.toList) [32]++ [10])++p.funcs.flatMap funcL:=by
 rw[Lib.join_cons]
 unfold listL Lib.joinTail
 rw[List.map_map,←List.flatMap_def]
 simp[Function.comp_def]
theorem wordsL_le (t:List UInt8):∀l:List Int,t.length+l.length≤(wordsL t l).length
 | []=>by simp[wordsL]
 |a::l=>by
  have:=wordsL_le t l
  unfold wordsL at this⊢
  simp only[List.flatMap_cons,List.length_append,List.length_cons] at this⊢
  omega
section
variable {P:Program} (w:World)
theorem wpList_append_row {ops:Array Oper} {rest:List Oper} {o:Oper} {a:Act} {Q:Exit→Act→World→Prop} (hgd:o.guard=none) (s x:Operand) (t:TypeId)
  (ho:o.op= .call {callee:= .builtin .append,args:= #[s,x],argTypes:= #[t,t]}) (e:TypeId) (i:TypeInfo) (z:Value) (ht:P.underlying t=some (.slice e)) (hi:P.info? e=some i) (hz:i.zero=some z)
  (hsize:i.size=1) (hby:i.bytes=16)
  (b:Nat) (u:Value) (hs:a.eval s= .slice (some ⟨b,0,none⟩) 1 1) (hc:w.cell? ⟨b,0,none⟩=some u) (ga:Option Addr) (m gc:Nat) (hx:a.eval x= .slice ga m gc) (us:List Value) (hm:us.length=m) (hr:RowIs w w.heap.size ga us) (hmb:m≤1000000000)
  (h:∀bk cap w',Below w.heap.size w w'→bk<w'.heap.size→1+m≤cap→(∀j v,(u::us)[j]? =some v→w'.cell? ⟨bk,0+j,none⟩=some v)→wpList P ops Q rest (a.put o.dst (.slice (some ⟨bk,0,none⟩) (1+m) cap)) w'):wpList P ops Q (o::rest) a w:=by
 have hbl:b<w.heap.size:=World.block_lt_of_cell? w _ hc
 refine wpList_plain hgd fun K hK=> ?_
 by_cases h0:m=0
 ·subst h0
  obtain rfl:us=[]:=List.eq_nil_of_length_eq_zero hm
  have hf:(Builtin.firstCells i.size 0 (.slice ga 0 gc)).run P w= .ok #[] w:=by
   cases ga with
   |none=>exact run_firstCells_none w i.size 0 0 gc
   |some a=>exact run_firstCells_some w i.size 0 a 0 gc [] (by simp) (fun j v h=>by cases h)
  have hr:(Builtin.append_ #[t,t] o.type #[.slice (some ⟨b,0,none⟩) 1 1,.slice ga 0 gc]).run P w= .ok (.slice (some ⟨b,0,none⟩) 1 1) w:=by
   simp[Builtin.append_,run_underlying ht,sizeOf,typeInfo,hi,Builtin.lenOf,hf,storeCells]
  unfold Oper.wp execOp
  simp only[ho,resolve,invoke,builtin,Sem.run_bind,Sem.run_pure,Result.andThen_ok,List.map_toArray,List.map_cons,List.map_nil,hs,hx,hr]
  refine hK _ _ (h b 1 w (Below.refl _ _) hbl (Nat.le_refl _) fun j v hj=> ?_)
  match j,hj with
  |0,hj=>rw[←Option.some.inj hj];exact hc
 ·obtain⟨g,q,rfl,hg,hcs⟩:=hr.at (by omega)
  have hr:=run_append_grow (P:=P) w t o.type e i z ht hi hz ⟨b,0,none⟩ 1 1 [u] (by simp[hsize]) (fun j v hj=>by
   match j,hj with
   |0,hj=>rw[←Option.some.inj hj];exact hc) ⟨g,q,none⟩ m gc us (by rw[hsize];omega) (fun j v hj=>by rw[Addr.add_lit];exact hcs j v hj) (by omega) (by omega) (growslice_fits (by omega) (by rw[hby];omega))
  unfold Oper.wp execOp
  simp only[ho,resolve,invoke,builtin,Sem.run_bind,Sem.run_pure,Result.andThen_ok,List.map_toArray,List.map_cons,List.map_nil,hs,hx,hr]
  refine hK _ _ (h w.heap.size _ _ ⟨rfl,rfl,rfl,by simp,fun k hk=>heap_alloc_old w.drew _ hk⟩ (by simp) (grownCap_ge w (1+m) 1 e) fun j v hj=> ?_)
  rw[Nat.zero_add]
  refine(cell_of_row _ _ j _ _ _ (heap_alloc_new w.drew _)).trans ?_
  rw[←Array.getElem?_toList]
  simp only[Array.toList_append,List.cons_append,List.nil_append]
  have hl:=(List.getElem?_eq_some_iff.1 hj).1
  rw[←List.cons_append,List.getElem?_append_left (by simpa using hl)]
  exact hj
end
end Go.Proofs.YtagnicbknbmccaaGreatDoor
