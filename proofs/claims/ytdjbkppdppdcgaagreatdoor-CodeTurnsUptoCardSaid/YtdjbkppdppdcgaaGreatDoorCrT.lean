/- The tied card of CodeTurns: for every program whose bulk is at most 1048576 the law answers true, and the program reads behind the call as it did; what the listed variables hold is tied to the program's text. -/
import Derived.Test.YtdjbkppdppdcgaaGreatDoorTie
import Derived.Test.YtdjbkppdppdcgaaGreatDoorCards
import Derived.SevenTiedAt
import Derived.Test.YtdjbkppdppdcgaaGreatDoorRwT
namespace Go.Proofs.YtdjbkppdppdcgaaGreatDoor
open Go

theorem codeTurns_card : Rows.CodeTurnsUptoCardSaid :=
  Claim7.holds_tied_plain_at .later [] _ _ _ _
    codeTurns_holds (fun _ h => by cases h) (by kernel_rfl) (fun _ h => by cases h) codeTurnsUpto_row_tie rfl ⟨rfl, rfl⟩ (by kernel_rfl) rfl
    (fun f fn hf hfn => by
      obtain rfl : f = 6 := Option.some.inj ((show Tryz.prog.funcNamed "guise/guiselaw13.CodeTurns" = some 6 by kernel_rfl).symm.trans hf) |>.symm
      obtain rfl : fn = Tryz.f6 := (Option.some.inj (Tryz.func6.symm.trans hfn)).symm
      exact ⟨by kernel_rfl, fun j t ht => by
        rw [Tryz.params6] at ht
        have h3 : t = 25 := by
          rcases j with _ | j
          · simpa using ht.symm
          · simp at ht
        subst h3
        exact (show Tryz.prog.wantsStandIn 25 = false by kernel_rfl)⟩)
    (by kernel_rfl)
#print axioms codeTurns_card
end Go.Proofs.YtdjbkppdppdcgaaGreatDoor
