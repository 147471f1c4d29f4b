/- The tied card of CodeRights: for every program whose bulk is at most 1048576 the law answers true, and the program reads behind the call as it did; what the listed variables hold is tied to the program's text. -/
import Derived.Test.YtagnicbknbmccaaGreatDoorTie
import Derived.Test.YtagnicbknbmccaaGreatDoorCards
import Derived.SevenTiedAt
import Derived.Test.YtagnicbknbmccaaGreatDoorRwR
namespace Go.Proofs.YtagnicbknbmccaaGreatDoor
open Go
theorem codeRights_card:Rows.CodeRightsUptoCardSaid:=
 Claim7.holds_tied_plain_at .later [] _ _ _ _
  codeRights_holds (fun _ h=>by cases h) (by kernel_rfl) (fun _ h=>by cases h) codeRightsUpto_row_tie rfl ⟨rfl,rfl⟩ (by kernel_rfl) rfl
  (fun f fn hf hfn=>by
   obtain rfl:f=4:=Option.some.inj ((show Tryz.prog.funcNamed "guise/guiselaw13.CodeRights"=some 4 by kernel_rfl).symm.trans hf)|>.symm
   obtain rfl:fn=Tryz.f4:=(Option.some.inj (Tryz.func4.symm.trans hfn)).symm
   exact⟨by kernel_rfl,fun j t ht=>by
    rw[Tryz.params4] at ht
    have h3:t=27:=by
     rcases j with _|j
     ·simpa using ht.symm
     ·simp at ht
    subst h3
    exact(show Tryz.prog.wantsStandIn 27=false by kernel_rfl)⟩)
  (by kernel_rfl)
#print axioms codeRights_card
end Go.Proofs.YtagnicbknbmccaaGreatDoor
