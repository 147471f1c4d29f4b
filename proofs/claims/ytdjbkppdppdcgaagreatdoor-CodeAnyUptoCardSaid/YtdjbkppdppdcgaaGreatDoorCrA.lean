/- The tied card of CodeAny: for every two texts whose bulk is at most 1048576 the law answers true, and both read behind the call as they did; what the listed variables hold is tied to the program's text. -/
import Derived.Test.YtdjbkppdppdcgaaGreatDoorTie
import Derived.Test.YtdjbkppdppdcgaaGreatDoorCards
import Derived.SevenTiedAt
import Derived.Test.YtdjbkppdppdcgaaGreatDoorRwA
namespace Go.Proofs.YtdjbkppdppdcgaaGreatDoor
open Go

theorem codeAny_card : Rows.CodeAnyUptoCardSaid :=
  Claim7.holds_tied_plain_at .later [] _ _ _ _
    codeAny_holds (fun _ h => by cases h) (by kernel_rfl) (fun _ h => by cases h) codeAnyUpto_row_tie rfl ⟨rfl, rfl⟩ (by kernel_rfl) rfl
    (fun f fn hf hfn => by
      obtain rfl : f = 5 := Option.some.inj ((show Tryz.prog.funcNamed "guise/guiselaw13.CodeAny" = some 5 by kernel_rfl).symm.trans hf) |>.symm
      obtain rfl : fn = Tryz.f5 := (Option.some.inj (Tryz.func5.symm.trans hfn)).symm
      exact ⟨by kernel_rfl, fun j t ht => by
        rw [Tryz.params5] at ht
        have h3 : t = 9 := by
          rcases j with _ | _ | j
          · simpa using ht.symm
          · simpa using ht.symm
          · simp at ht
        subst h3
        exact (show Tryz.prog.wantsStandIn 9 = false by kernel_rfl)⟩)
    (by kernel_rfl)
#print axioms codeAny_card
end Go.Proofs.YtdjbkppdppdcgaaGreatDoor
