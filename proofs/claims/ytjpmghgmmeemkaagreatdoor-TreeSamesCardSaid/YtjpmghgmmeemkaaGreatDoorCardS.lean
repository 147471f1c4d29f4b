/- The tied card of TreeSames: for every two trees the law answers true, and both read behind the call as they did; what the listed variables hold is tied to the program's text. -/
import Derived.Test.YtjpmghgmmeemkaaGreatDoorRowS
import Derived.Test.YtjpmghgmmeemkaaGreatDoorTie
import Derived.Test.YtjpmghgmmeemkaaGreatDoorCards
import Derived.SevenTiedAt
namespace Go.Proofs.YtjpmghgmmeemkaaGreatDoor
open Go

theorem treeSames_card : Rows.TreeSamesCardSaid :=
  Claim7.holds_tied_plain_at .later [] [.data, .data, .data, .handle, .listed, .data, .data] true (true, "25a973eb611655ae1334e49b9c0f5354ea3cb48aff4225e23588d89d361353d7") true
    treeSames_holds (fun _ h => by cases h) (by kernel_rfl) (fun _ h => by cases h) treeSames_row_tie rfl ⟨rfl, rfl⟩ (by kernel_rfl) rfl
    (fun f fn hf hfn => by
      obtain rfl : f = 3 := Option.some.inj ((show Tryz.prog.funcNamed "guise/guiselaw2.TreeSames" = some 3 by kernel_rfl).symm.trans hf) |>.symm
      obtain rfl : fn = Tryz.f3 := (Option.some.inj (Tryz.func3.symm.trans hfn)).symm
      exact ⟨by kernel_rfl, fun j t ht => by
        rw [Tryz.params3] at ht
        have h3 : t = 24 := by
          rcases j with _ | _ | j
          · simpa using ht.symm
          · simpa using ht.symm
          · simp at ht
        subst h3
        exact (show Tryz.prog.wantsStandIn 24 = false by kernel_rfl)⟩)
    (by kernel_rfl)
#print axioms treeSames_card
end Go.Proofs.YtjpmghgmmeemkaaGreatDoor
