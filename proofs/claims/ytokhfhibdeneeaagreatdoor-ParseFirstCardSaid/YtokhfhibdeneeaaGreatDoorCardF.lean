/- The tied card of ParseFirst: for every two texts the law answers true, and both read behind the call as they did; what the listed variables hold is tied to the program's text. -/
import Derived.Test.YtokhfhibdeneeaaGreatDoorTie
import Derived.Test.YtokhfhibdeneeaaGreatDoorCards
import Derived.SevenTiedAt
import Derived.Test.YtokhfhibdeneeaaGreatDoorRowF
namespace Go.Proofs.YtokhfhibdeneeaaGreatDoor
open Go

theorem parseFirst_card : Rows.ParseFirstCardSaid :=
  Claim7.holds_tied_plain_at .later [] [.data, .data, .data, .sentinel, .sentinel, .listed, .data, .data] true (true, "1ab4fa460bfc81a4748f1b876b0d90e81ca1e453e1f9b6bc5614f132704bfd0e") true
    parseFirst_holds (fun _ h => by cases h) (by kernel_rfl) (fun _ h => by cases h) parseFirst_row_tie rfl ⟨rfl, rfl⟩ (by kernel_rfl) rfl
    (fun f fn hf hfn => by
      obtain rfl : f = 4 := Option.some.inj ((show Tryz.prog.funcNamed "guise/guiselaw3.ParseFirst" = some 4 by kernel_rfl).symm.trans hf) |>.symm
      obtain rfl : fn = Tryz.f4 := (Option.some.inj (Tryz.func4.symm.trans hfn)).symm
      exact ⟨by kernel_rfl, fun j t ht => by
        rw [Tryz.params4] at ht
        have h3 : t = 9 := by
          rcases j with _ | _ | j
          · simpa using ht.symm
          · simpa using ht.symm
          · simp at ht
        subst h3
        exact (show Tryz.prog.wantsStandIn 9 = false by kernel_rfl)⟩)
    (by kernel_rfl)
#print axioms parseFirst_card
end Go.Proofs.YtokhfhibdeneeaaGreatDoor
