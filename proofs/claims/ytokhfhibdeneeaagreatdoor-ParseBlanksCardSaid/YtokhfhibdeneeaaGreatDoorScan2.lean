/- The text 01: lex.number, lex.one, lex.Scan, tree.ints. -/
import Derived.Deep.RegionWith
import Derived.Test.YtokhfhibdeneeaaGreatDoorShelf
import Derived.Test.YtokhfhibdeneeaaGreatDoorMLex1
namespace Go.Proofs.YtokhfhibdeneeaaGreatDoor
open Go.RowKit

theorem number_result (tmps : Array Value) (W : World) (g : Nat) (v0 v1 v2 x y : Value) (h4 : tmps.getD 4 undef = .pointer (some ⟨g, 0, none⟩)) (h5 : tmps.getD 5 undef = x) (h6 : tmps.getD 6 undef = y) {fr : Nat × Nat} (hrow : W.heap[g]? = some (.cells #[v0, v1, v2] 46 fr)) :
    (results Tryz.f59 tmps).run Tryz.prog W = .ok (.tuple #[.agg #[v0, v1, v2], x, y]) W := by
  have h4' : tmps[4]?.getD undef = .pointer (some ⟨g, 0, none⟩) := by simpa using h4
  have h5' : tmps[5]?.getD undef = x := by simpa using h5
  have h6' : tmps[6]?.getD undef = y := by simpa using h6
  have e0 : W.cell? ⟨g, 0, none⟩ = some v0 := cell_of_row W _ 0 _ _ _ hrow
  have e1 : W.cell? ⟨g, 1, none⟩ = some v1 := cell_of_row W _ 1 _ _ _ hrow
  have e2 : W.cell? ⟨g, 2, none⟩ = some v2 := cell_of_row W _ 2 _ _ _ hrow
  simp [results, Tryz.f59, go_sem, h4', h5', h6', e0, e1, e2]

theorem one_result (tmps : Array Value) (W : World) (g : Nat) (v0 v1 v2 x y : Value) (h4 : tmps.getD 4 undef = .pointer (some ⟨g, 0, none⟩)) (h5 : tmps.getD 5 undef = x) (h6 : tmps.getD 6 undef = y) {fr : Nat × Nat} (hrow : W.heap[g]? = some (.cells #[v0, v1, v2] 46 fr)) :
    (results Tryz.f29 tmps).run Tryz.prog W = .ok (.tuple #[.agg #[v0, v1, v2], x, y]) W := by
  have h4' : tmps[4]?.getD undef = .pointer (some ⟨g, 0, none⟩) := by simpa using h4
  have h5' : tmps[5]?.getD undef = x := by simpa using h5
  have h6' : tmps[6]?.getD undef = y := by simpa using h6
  have e0 : W.cell? ⟨g, 0, none⟩ = some v0 := cell_of_row W _ 0 _ _ _ hrow
  have e1 : W.cell? ⟨g, 1, none⟩ = some v1 := cell_of_row W _ 1 _ _ _ hrow
  have e2 : W.cell? ⟨g, 2, none⟩ = some v2 := cell_of_row W _ 2 _ _ _ hrow
  simp [results, Tryz.f29, go_sem, h4', h5', h6', e0, e1, e2]

end Go.Proofs.YtokhfhibdeneeaaGreatDoor
