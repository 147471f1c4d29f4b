/- Trees as plain data, how they lie in memory, and the plain functions count and same on them. What tree.All gives: the nodes of a tree, a node ahead of its kids: plain laws. -/
import Derived.Below
import Derived.Lib.Hide
import Derived.Laws.Strings
namespace Go.Proofs.YtagnicbknbmccaaGreatDoor
open Go.RowKit
inductive Nd where
 |mk (kind:Int) (text:ByteArray) (n at_:Int) (kids:List Nd)
theorem Nd.induct {P:Nd→Prop} (h:∀k s n a ks,(∀x∈ks,P x)→P (.mk k s n a ks)):∀t,P t
 | .mk k s n a ks=>h k s n a ks (fun x _=>Nd.induct h x)
def Nd.kind:Nd→Int| .mk k _ _ _ _=>k
def Nd.text:Nd→ByteArray| .mk _ s _ _ _=>s
def Nd.num:Nd→Int| .mk _ _ n _ _=>n
def Nd.at_:Nd→Int| .mk _ _ _ a _=>a
def Nd.kids:Nd→List Nd| .mk _ _ _ _ l=>l
def okI (n:Int):Prop:= -9223372036854775808≤n∧n≤9223372036854775807
theorem ret_int {k:IntKind} {a b:Int} (h:a=b):Ending.returned (.int k a)= .returned (.int k b):=by rw[h]
theorem ret_bool {a b:Bool} (h:a=b):Ending.returned (.bool a)= .returned (.bool b):=by rw[h]
theorem drop_cons {α:Type} {l:List α} {j:Nat} {x:α} (h:l[j]? =some x):l.drop j=x::l.drop (j+1):=by
 obtain⟨hj,hx⟩:=List.getElem?_eq_some_iff.1 h
 rw[List.drop_eq_getElem_cons hj,hx]
theorem toList_inj {s t:ByteArray} (h:s.toList=t.toList):s=t:=by
 have e:∀x:ByteArray,x.toList=x.data.toList:=fun x=>ByteArray.toList_eq x
 rw[e,e] at h
 cases s;cases t;simp at h;simp[h]
mutual
def Lies (w:World) (B:Nat):Nd→Value→Prop
 | .mk k s n a ks,v=>∃(A:Option Addr) (cap:Nat),v= .agg #[.int .i64 k,.string s,.int .i64 n,.int .i64 a,.slice A ks.length cap]∧
   okI k∧okI n∧okI a∧s.size≤140737488351232∧ks.length≤cap∧cap≤9223372036854775807∧
   (ks=[]∨∃b o,A=some ⟨b,o,none⟩∧b<B∧LiesL w B ks b o)
def LiesL (w:World) (B:Nat):List Nd→Nat→Nat→Prop
 | [],_,_=>True
 |t::ts,b,o=>(∃c0 c1 c2 c3 c4:Value,w.cell? ⟨b,o,none⟩=some c0∧w.cell? ⟨b,o+1,none⟩=some c1∧w.cell? ⟨b,o+2,none⟩=some c2∧
   w.cell? ⟨b,o+3,none⟩=some c3∧w.cell? ⟨b,o+4,none⟩=some c4∧Lies w B t (.agg #[c0,c1,c2,c3,c4]))∧LiesL w B ts b (o+5)
end
mutual
theorem Lies.below {w w':World} {B:Nat} (hb:Below B w w'):∀ {t:Nd} {v:Value},Lies w B t v→Lies w' B t v
 | .mk k s n a ks,v,h=>by
  unfold Lies at h⊢
  obtain⟨A,cap,h1,h2,h3,h4,h5,h6,h7,h8⟩:=h
  refine⟨A,cap,h1,h2,h3,h4,h5,h6,h7, ?_⟩
  rcases h8 with h8|⟨b,o,hA,hlt,hl⟩
  ·exact .inl h8
  ·exact .inr ⟨b,o,hA,hlt,LiesL.below hb hlt hl⟩
theorem LiesL.below {w w':World} {B:Nat} (hb:Below B w w'):∀ {ts:List Nd} {b o:Nat},b<B→LiesL w B ts b o→LiesL w' B ts b o
 | [],_,_,_,_=>by unfold LiesL;trivial
 |t::ts,b,o,hlt,h=>by
  unfold LiesL at h⊢
  obtain⟨⟨c0,c1,c2,c3,c4,h0,h1,h2,h3,h4,ht⟩,hl⟩:=h
  have hc:∀j,w'.cell? ⟨b,j,none⟩=w.cell? ⟨b,j,none⟩:=fun j=>hb.cell (p:=⟨b,j,none⟩) hlt
  exact⟨⟨c0,c1,c2,c3,c4,by rw[hc];exact h0,by rw[hc];exact h1,by rw[hc];exact h2,by rw[hc];exact h3,by rw[hc];exact h4,Lies.below hb ht⟩,LiesL.below hb hlt hl⟩
end
mutual
theorem Lies.more {w:World} {B B':Nat} (hB:B≤B'):∀ {t:Nd} {v:Value},Lies w B t v→Lies w B' t v
 | .mk k s n a ks,v,h=>by
  unfold Lies at h⊢
  obtain⟨A,cap,h1,h2,h3,h4,h5,h6,h7,h8⟩:=h
  refine⟨A,cap,h1,h2,h3,h4,h5,h6,h7, ?_⟩
  rcases h8 with h8|⟨b,o,hA,hlt,hl⟩
  ·exact .inl h8
  ·exact .inr ⟨b,o,hA,by omega,LiesL.more hB hl⟩
theorem LiesL.more {w:World} {B B':Nat} (hB:B≤B'):∀ {ts:List Nd} {b o:Nat},LiesL w B ts b o→LiesL w B' ts b o
 | [],_,_,_=>by unfold LiesL;trivial
 |t::ts,b,o,h=>by
  unfold LiesL at h⊢
  obtain⟨⟨c0,c1,c2,c3,c4,h0,h1,h2,h3,h4,ht⟩,hl⟩:=h
  exact⟨⟨c0,c1,c2,c3,c4,h0,h1,h2,h3,h4,Lies.more hB ht⟩,LiesL.more hB hl⟩
end
theorem Lies.up {w W:World} {t:Nd} {v:Value} (h:Lies w w.heap.size t v) (hb:Below w.heap.size w W):Lies W W.heap.size t v:=(h.below hb).more hb.size
theorem LiesL.up {w W:World} {ts:List Nd} {b o:Nat} (h:LiesL w w.heap.size ts b o) (hlt:b<w.heap.size) (hb:Below w.heap.size w W):LiesL W W.heap.size ts b o:=(h.below hb hlt).more hb.size
theorem LiesL.at_ {w:World} {B:Nat}:∀ {ts:List Nd} {b o:Nat} (i:Nat) (t:Nd),LiesL w B ts b o→ts[i]? =some t→
  ∃c0 c1 c2 c3 c4:Value,w.cell? ⟨b,o+i*5,none⟩=some c0∧w.cell? ⟨b,o+i*5+1,none⟩=some c1∧w.cell? ⟨b,o+i*5+2,none⟩=some c2∧
   w.cell? ⟨b,o+i*5+3,none⟩=some c3∧w.cell? ⟨b,o+i*5+4,none⟩=some c4∧Lies w B t (.agg #[c0,c1,c2,c3,c4])
 | [],_,_,i,t,_,h=>by simp at h
 |x::ts,b,o,0,t,hl,h=>by
  unfold LiesL at hl
  simp at h
  subst h
  simpa using hl.1
 |x::ts,b,o,i+1,t,hl,h=>by
  unfold LiesL at hl
  have:=LiesL.at_ i t hl.2 (by simpa using h)
  rw[show o+(i+1)*5=o+5+i*5 from by omega]
  exact this
theorem LiesL.get {w:World} {B:Nat} {ts:List Nd} {b o:Nat} (i:Nat) (hi:i<ts.length) (h:LiesL w B ts b o):
  ∃(k:Int) (s:ByteArray) (n a:Int) (A:Option Addr) (cap:Nat) (ks:List Nd),ts[i]? =some (.mk k s n a ks)∧
   w.cell? ⟨b,o+i*5,none⟩=some (.int .i64 k)∧w.cell? ⟨b,o+i*5+1,none⟩=some (.string s)∧w.cell? ⟨b,o+i*5+2,none⟩=some (.int .i64 n)∧
   w.cell? ⟨b,o+i*5+3,none⟩=some (.int .i64 a)∧w.cell? ⟨b,o+i*5+4,none⟩=some (.slice A ks.length cap)∧
   Lies w B (.mk k s n a ks) (.agg #[.int .i64 k,.string s,.int .i64 n,.int .i64 a,.slice A ks.length cap]):=by
 obtain⟨t,ht⟩:∃t,ts[i]? =some t:=⟨ts[i],List.getElem?_eq_getElem hi⟩
 obtain⟨c0,c1,c2,c3,c4,h0,h1,h2,h3,h4,hl⟩:=LiesL.at_ i t h ht
 obtain⟨k,s,n,a,ks⟩:=t
 have hl':=hl
 unfold Lies at hl
 obtain⟨A,cap,hv,_⟩:=hl
 simp only[Value.agg.injEq,Array.mk.injEq,List.cons.injEq,and_true] at hv
 obtain⟨rfl,rfl,rfl,rfl,rfl⟩:=hv
 exact⟨k,s,n,a,A,cap,ks,ht,h0,h1,h2,h3,h4,hl'⟩
mutual
def Nd.count:Nd→Int→Int
 | .mk _ _ _ _ ks,left=>min (countL ks left 1) (left+1)
def countL:List Nd→Int→Int→Int
 | [],_,many=>many
 |k::ks,left,many=>if left<many then many else countL ks left (many+k.count (left-many))
end
mutual
theorem Nd.count_bd:∀(t:Nd) (left:Int),0≤left→1≤t.count left∧t.count left≤left+1
 | .mk _ _ _ _ ks,left,h=>by
  have:=countL_bd ks left 1 (by omega) (by omega)
  unfold Nd.count
  omega
theorem countL_bd:∀(ks:List Nd) (left many:Int),1≤many→many≤left+1→1≤countL ks left many∧countL ks left many≤left+1
 | [],left,many,h,h'=>by unfold countL;omega
 |k::ks,left,many,h,h'=>by
  unfold countL
  split
  ·omega
  ·have:=Nd.count_bd k (left-many) (by omega)
   exact countL_bd ks left _ (by omega) (by omega)
end
mutual
def Nd.same:Nd→Nd→Bool
 | .mk k s n _ ks,.mk k' s' n' _ ks'=>k==k'&&s.toList==s'.toList&&n==n'&&ks.length==ks'.length&&sameL ks ks'
def sameL:List Nd→List Nd→Bool
 |a::us,b::vs=>a.same b&&sameL us vs
 |_,_=>true
end
def Nd.Same (a b:Nd):Bool:=decide (a.count 1000000≤1000000)&&a.count 1000000==b.count 1000000&&a.same b
structure Tl where
 deep:Int
 k:Int
 s:ByteArray
 n:Int
 a:Int
mutual
def Nd.size:Nd→Nat
 | .mk _ _ _ _ ks=>1+sizeL ks
def sizeL:List Nd→Nat
 | []=>0
 |t::ts=>t.size+sizeL ts
end
def Nd.more:Nd→Nd| .mk k s n a ks=> .mk k s n a (ks++ [.mk 16 ⟨#[]⟩ 0 0 []])
end Go.Proofs.YtagnicbknbmccaaGreatDoor
