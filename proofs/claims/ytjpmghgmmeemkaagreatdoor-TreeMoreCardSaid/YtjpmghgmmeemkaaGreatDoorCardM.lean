/- The tied card of TreeMore: for every tree and every text the law answers true, and both read behind the call as they did; what the listed variables hold is tied to the program's text. -/
import Derived.Test.YtjpmghgmmeemkaaGreatDoorRowM
import Derived.Test.YtjpmghgmmeemkaaGreatDoorTie
import Derived.Test.YtjpmghgmmeemkaaGreatDoorCards
import Derived.SevenTiedAt
namespace Go.Proofs.YtjpmghgmmeemkaaGreatDoor
open Go

theorem treeMore_card : Rows.TreeMoreCardSaid :=
  Claim7.holds_tied_plain_at .later [] [.data, .data, .data, .handle, .listed, .data, .data] true (true, "25a973eb611655ae1334e49b9c0f5354ea3cb48aff4225e23588d89d361353d7") true
    treeMore_holds (fun _ h => by cases h) (by kernel_rfl) (fun _ h => by cases h) treeMore_row_tie rfl ⟨rfl, rfl⟩ (by kernel_rfl) rfl
    (fun f fn hf hfn => by
      obtain rfl : f = 6 := Option.some.inj ((show Tryz.prog.funcNamed "guise/guiselaw2.TreeMore" = some 6 by kernel_rfl).symm.trans hf) |>.symm
      obtain rfl : fn = Tryz.f6 := (Option.some.inj (Tryz.func6.symm.trans hfn)).symm
      exact ⟨by kernel_rfl, fun j t ht => by
        rw [Tryz.params6] at ht
        have h3 : t = 24 ∨ t = 9 := by
          rcases j with _ | _ | j
          · left; simpa using ht.symm
          · right; simpa using ht.symm
          · simp at ht
        rcases h3 with rfl | rfl
        · exact (show Tryz.prog.wantsStandIn 24 = false by kernel_rfl)
        · exact (show Tryz.prog.wantsStandIn 9 = false by kernel_rfl)⟩)
    (by kernel_rfl)
#print axioms treeMore_card
end Go.Proofs.YtjpmghgmmeemkaaGreatDoor
