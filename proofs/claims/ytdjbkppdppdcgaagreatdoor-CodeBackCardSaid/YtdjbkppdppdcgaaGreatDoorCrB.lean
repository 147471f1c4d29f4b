/- The tied card of CodeBack: for any raw numbers the law answers true, and both rows read behind the call as they did; what the listed variables hold is tied to the program's text. -/
import Derived.Test.YtdjbkppdppdcgaaGreatDoorTie
import Derived.Test.YtdjbkppdppdcgaaGreatDoorCards
import Derived.SevenTiedAt
import Derived.Test.YtdjbkppdppdcgaaGreatDoorRwB
namespace Go.Proofs.YtdjbkppdppdcgaaGreatDoor
open Go
theorem codeBack_card:Rows.CodeBackCardSaid:=
 Claim7.holds_tied_plain_at .later [] [.data,.data,.data,.data,.handle,.sentinel,.sentinel,.listed,.data,.pinned,.pinned] true (true,"80ca6a302f28e0810337e9d47de292a80774425751c61d7da81bfa1c6b70abb7") true
  codeBack_holds (fun _ h=>by cases h) (by kernel_rfl) (fun _ h=>by cases h) codeBack_row_tie rfl ⟨rfl,rfl⟩ (by kernel_rfl) rfl
  (fun f fn hf hfn=>by
   obtain rfl:f=4:=Option.some.inj ((show Tryz.prog.funcNamed "guise/guiselaw13.CodeBack"=some 4 by kernel_rfl).symm.trans hf)|>.symm
   obtain rfl:fn=Tryz.f4:=(Option.some.inj (Tryz.func4.symm.trans hfn)).symm
   exact⟨by kernel_rfl,fun j t ht=>by
    rw[Tryz.params4] at ht
    have h3:t=30:=by
     rcases j with _|_|j
     ·simpa using ht.symm
     ·simpa using ht.symm
     ·simp at ht
    subst h3
    exact(show Tryz.prog.wantsStandIn 30=false by kernel_rfl)⟩)
  (by kernel_rfl)
#print axioms codeBack_card
end Go.Proofs.YtdjbkppdppdcgaaGreatDoor
