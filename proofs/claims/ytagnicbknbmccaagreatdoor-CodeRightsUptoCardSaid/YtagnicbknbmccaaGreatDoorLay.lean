/- tree.lay, guiseref2.told: the nodes of a tree are laid down, a node ahead of its kids. -/
import Derived.Laws.AppendOwn
import Derived.Deep.AppendLies
import Derived.OwnWalk
import Derived.Test.YtagnicbknbmccaaGreatDoorCount
import Derived.Test.YtagnicbknbmccaaGreatDoorMNd
namespace Go.Proofs.YtagnicbknbmccaaGreatDoor
open Go.RowKit
def Tl.cells (x:Tl):List Value:=[.int .i64 x.deep,.int .i64 x.k,.string x.s,.int .i64 x.n,.int .i64 x.a,.slice none 0 0]
theorem row_form {w:World} {B:Nat} {e:TypeId} {s:Nat} {v:Value} {n:Nat} {xs:List Value} (h:w.ownsRow B e s v n xs):∃A cap,v= .slice A n cap∧n≤cap∧cap≤9223372036854775807:=by
 rcases h.2 with⟨rfl,rfl⟩|⟨g,cap,cur,rfl,_,_,h1,h2,_⟩
 ·exact⟨none,0,rfl,Nat.le_refl _,by omega⟩
 ·exact⟨_,cap,rfl,h1,by simpa[maxLen] using h2⟩
theorem grown_below {B:Nat} {w w1 w2:World} {e:TypeId} {s:Nat} {v:Value} {n:Nat} {xs:List Value} (hb:Below B w w1) (ho:w1.ownsRow B e s v n xs) (hB:B≤w1.heap.size) (hg:w1.grownBy w2 v.ownBlock):Below B w w2:=
 hb.trans ⟨hg.os,hg.tape,hg.output,hg.size,fun k hk=>hg.block k (by omega) (fun e=>by have:=(ho.lt k e.symm).1;omega)⟩
theorem Tl.one (x:Tl):∀u∈x.cells,u.oneCell'=true:=by
 intro u hu
 unfold Tl.cells at hu
 simp at hu
 rcases hu with rfl|rfl|rfl|rfl|rfl|rfl<;>rfl
end Go.Proofs.YtagnicbknbmccaaGreatDoor
