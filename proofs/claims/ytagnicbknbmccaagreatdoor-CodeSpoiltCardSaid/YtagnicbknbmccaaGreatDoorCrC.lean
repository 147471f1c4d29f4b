/- The tied card of CodeSpoilt: for any raw numbers the law answers true, and the row reads behind the call as it did; what the listed variables hold is tied to the program's text. -/
import Derived.Test.YtagnicbknbmccaaGreatDoorTie
import Derived.Test.YtagnicbknbmccaaGreatDoorCards
import Derived.SevenTiedAt
import Derived.Test.YtagnicbknbmccaaGreatDoorRwC
namespace Go.Proofs.YtagnicbknbmccaaGreatDoor
open Go
theorem codeSpoilt_card:Rows.CodeSpoiltCardSaid:=
 Claim7.holds_tied_plain_at .later [] [.data,.data,.data,.data,.handle,.sentinel,.sentinel,.listed,.data,.pinned,.pinned] true (true,"17330d438cbc6a0926674e15050135ce17074efe2de43817bb51a3ad74372fd1") true
  codeSpoilt_holds (fun _ h=>by cases h) (by kernel_rfl) (fun _ h=>by cases h) codeSpoilt_row_tie rfl ⟨rfl,rfl⟩ (by kernel_rfl) rfl
  (fun f fn hf hfn=>by
   obtain rfl:f=3:=Option.some.inj ((show Tryz.prog.funcNamed "guise/guiselaw13.CodeSpoilt"=some 3 by kernel_rfl).symm.trans hf)|>.symm
   obtain rfl:fn=Tryz.f3:=(Option.some.inj (Tryz.func3.symm.trans hfn)).symm
   exact⟨by kernel_rfl,fun j t ht=>by
    rw[Tryz.params3] at ht
    have h3:t=22∨t=3:=by
     rcases j with _|_|_|j
     ·exact .inl (by simpa using ht.symm)
     ·exact .inr (by simpa using ht.symm)
     ·exact .inr (by simpa using ht.symm)
     ·simp at ht
    rcases h3 with rfl|rfl
    ·exact(show Tryz.prog.wantsStandIn 22=false by kernel_rfl)
    ·exact(show Tryz.prog.wantsStandIn 3=false by kernel_rfl)⟩)
  (by kernel_rfl)
#print axioms codeSpoilt_card
end Go.Proofs.YtagnicbknbmccaaGreatDoor
