/- code.Decode of the least program's bytes. -/
import Derived.Lib.SmallJoins
import Derived.Test.YtagnicbknbmccaaGreatDoorMCwF
import Derived.Test.YtagnicbknbmccaaGreatDoorSqC
import Derived.Test.YtagnicbknbmccaaGreatDoorMCzK
import Derived.Test.YtagnicbknbmccaaGreatDoorMCwV
import Derived.Test.YtagnicbknbmccaaGreatDoorMCmA
namespace Go.Proofs.YtagnicbknbmccaaGreatDoor
open Go.RowKit
def leastF:Cf:=⟨⟨#[]⟩,0,1,[],-1,[⟨7,0,0,⟨#[]⟩,0⟩,⟨50,0,0,⟨#[]⟩,0⟩]⟩
theorem funcInfo:(Tryz.prog.info? 33).map (fun i=>(i.zero,i.size,i.bytes))=some (some (.agg #[.string ⟨#[]⟩,.int .i64 0,.int .i64 0,.slice none 0 0,.int .i64 0,.slice none 0 0]),6,88):=by kernel_rfl
theorem own_row {W:World} {lo:Nat} {e:TypeId} {s n cap:Nat} {A:Option Addr} {xs:List Value} (h:W.ownsRow lo e s (.slice A n cap) n xs):RowIs W W.heap.size A xs∧n≤cap:=by
 have hl:=h.1
 rcases h.2 with⟨e1,rfl⟩|⟨g,cap',cur,e1,hlo,hg,h1,h2,h3,h4⟩
 ·refine⟨.inl (List.eq_nil_of_length_eq_zero (by simpa using hl)),Nat.zero_le _⟩
 ·injection e1 with e1 e2 e3
  subst e1 e3
  refine⟨.inr ⟨g,0,rfl,(Array.getElem?_eq_some_iff.1 hg).1,fun j v hj=> ?_⟩,h1⟩
  have:=h.cells (g:=g) rfl j v hj
  rwa [Addr.add_lit] at this
end Go.Proofs.YtagnicbknbmccaaGreatDoor
