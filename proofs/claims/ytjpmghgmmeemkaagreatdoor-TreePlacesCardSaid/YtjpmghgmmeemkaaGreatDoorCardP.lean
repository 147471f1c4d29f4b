/- The tied card of TreePlaces: for every tree and every number the law answers true, and what was handed in reads behind the call as it did; what the listed variables hold is tied to the program's text. -/
import Derived.Test.YtjpmghgmmeemkaaGreatDoorTie
import Derived.Test.YtjpmghgmmeemkaaGreatDoorCards
import Derived.SevenTiedAt
import Derived.Test.YtjpmghgmmeemkaaGreatDoorJT7
namespace Go.Proofs.YtjpmghgmmeemkaaGreatDoor
open Go

theorem treePlaces_card : Rows.TreePlacesCardSaid :=
  Claim7.holds_tied_plain_at .later [] [.data, .data, .data, .handle, .listed, .data, .data] true (true, "25a973eb611655ae1334e49b9c0f5354ea3cb48aff4225e23588d89d361353d7") true
    treePlaces_holds (fun _ h => by cases h) (by kernel_rfl) (fun _ h => by cases h) treePlaces_row_tie rfl ⟨rfl, rfl⟩ (by kernel_rfl) rfl
    (fun f fn hf hfn => by
      obtain rfl : f = 4 := Option.some.inj ((show Tryz.prog.funcNamed "guise/guiselaw2.TreePlaces" = some 4 by kernel_rfl).symm.trans hf) |>.symm
      obtain rfl : fn = Tryz.f4 := (Option.some.inj (Tryz.func4.symm.trans hfn)).symm
      exact ⟨by kernel_rfl, fun j t ht => by
        rw [Tryz.params4] at ht
        have h3 : t = 24 ∨ t = 3 := by
          rcases j with _ | _ | j
          · left; simpa using ht.symm
          · right; simpa using ht.symm
          · simp at ht
        rcases h3 with rfl | rfl
        · exact (show Tryz.prog.wantsStandIn 24 = false by kernel_rfl)
        · exact (show Tryz.prog.wantsStandIn 3 = false by kernel_rfl)⟩)
    (by kernel_rfl)
#print axioms treePlaces_card
end Go.Proofs.YtjpmghgmmeemkaaGreatDoor
