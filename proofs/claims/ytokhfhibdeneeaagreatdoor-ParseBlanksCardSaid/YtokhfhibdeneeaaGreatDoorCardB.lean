/- The tied card of ParseBlanks: for every text, number and choice of blank the law answers true, and all read behind the call as they did; what the listed variables hold is tied to the program's text. -/
import Derived.Test.YtokhfhibdeneeaaGreatDoorTie
import Derived.Test.YtokhfhibdeneeaaGreatDoorCards
import Derived.SevenTiedAt
import Derived.Test.YtokhfhibdeneeaaGreatDoorRowB
namespace Go.Proofs.YtokhfhibdeneeaaGreatDoor
open Go

theorem parseBlanks_card : Rows.ParseBlanksCardSaid :=
  Claim7.holds_tied_plain_at .later [] [.data, .data, .data, .sentinel, .sentinel, .listed, .data, .data] true (true, "1ab4fa460bfc81a4748f1b876b0d90e81ca1e453e1f9b6bc5614f132704bfd0e") true
    parseBlanks_holds (fun _ h => by cases h) (by kernel_rfl) (fun _ h => by cases h) parseBlanks_row_tie rfl ⟨rfl, rfl⟩ (by kernel_rfl) rfl
    (fun f fn hf hfn => by
      obtain rfl : f = 5 := Option.some.inj ((show Tryz.prog.funcNamed "guise/guiselaw3.ParseBlanks" = some 5 by kernel_rfl).symm.trans hf) |>.symm
      obtain rfl : fn = Tryz.f5 := (Option.some.inj (Tryz.func5.symm.trans hfn)).symm
      exact ⟨by kernel_rfl, fun j t ht => by
        rw [Tryz.params5] at ht
        have h3 : t = 9 ∨ t = 3 ∨ t = 4 := by
          rcases j with _ | _ | _ | j
          · left; simpa using ht.symm
          · right; left; simpa using ht.symm
          · right; right; simpa using ht.symm
          · simp at ht
        rcases h3 with rfl | rfl | rfl
        · exact (show Tryz.prog.wantsStandIn 9 = false by kernel_rfl)
        · exact (show Tryz.prog.wantsStandIn 3 = false by kernel_rfl)
        · exact (show Tryz.prog.wantsStandIn 4 = false by kernel_rfl)⟩)
    (by kernel_rfl)
#print axioms parseBlanks_card
end Go.Proofs.YtokhfhibdeneeaaGreatDoor
