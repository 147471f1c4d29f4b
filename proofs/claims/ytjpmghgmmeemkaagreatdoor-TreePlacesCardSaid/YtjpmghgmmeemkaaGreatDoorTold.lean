/- guiselaw2.told. -/
import Derived.Test.YtjpmghgmmeemkaaGreatDoorJAs
import Derived.Test.YtjpmghgmmeemkaaGreatDoorJLookSpec
namespace Go.Proofs.YtjpmghgmmeemkaaGreatDoor
open Go.RowKit

def Gerr (w : World) : Prop := w.cell? ⟨0, 0, none⟩ = some (.iface 110 (.agg #[.pointer (some ⟨9, 35, none⟩)]))
theorem Gerr.below {w w' : World} {B : Nat} (h : Gerr w) (hb : Below B w w') (h1 : 1 ≤ B) : Gerr w' := (hb.cell (p := ⟨0, 0, none⟩) (show 0 < B by omega)).trans h

/-- errors.As at a *api.Wrong, into a boxed variable. -/
theorem as_box (e : Addr) (tb : Nat) (w : World) (hg : Gerr w) (hb : Boxed w tb 55 (.pointer none)) :
    Calls Tryz.prog 28 #[.iface 55 (.pointer (some e)), .iface 57 (.pointer (some ⟨tb, 0, none⟩))] w fun ev w' => ev = .returned (.bool true) ∧ Boxed w' tb 55 (.pointer (some e)) ∧ Foot w.heap.size (fun k => k = tb) w w' := by
  have hlt := hb.lt
  refine (as_hit e ⟨tb, 0, none⟩ (.pointer none) w hg hb.cell hb.frozen).mono ?_
  rintro ev w' ⟨rfl, rfl⟩
  refine ⟨rfl, ((((hb.alloc _).alloc _).alloc _).alloc _).set _, ?_⟩
  exact Foot.set (g := fun k => k = tb) (p := ⟨tb, 0, none⟩) (((((Foot.refl w.heap.size _ w).alloc (Nat.le_refl _) _).alloc (by simp) _).alloc (by simp; omega) _).alloc (by simp; omega) _) (.inr rfl) _

theorem told_result (tmps : Array Value) (W : World) (g : Nat) (v0 v1 v2 x : Value) (h2 : tmps.getD 2 undef = .pointer (some ⟨g, 0, none⟩)) (h3 : tmps.getD 3 undef = x) {fr : Nat × Nat} (hrow : W.heap[g]? = some (.cells #[v0, v1, v2] 31 fr)) :
    (results Tryz.f13 tmps).run Tryz.prog W = .ok (.tuple #[.agg #[v0, v1, v2], x]) W := by
  have h2' : tmps[2]?.getD undef = .pointer (some ⟨g, 0, none⟩) := by simpa using h2
  have h3' : tmps[3]?.getD undef = x := by simpa using h3
  have e0 : W.cell? ⟨g, 0, none⟩ = some v0 := cell_of_row W _ 0 _ _ _ hrow
  have e1 : W.cell? ⟨g, 1, none⟩ = some v1 := cell_of_row W _ 1 _ _ _ hrow
  have e2 : W.cell? ⟨g, 2, none⟩ = some v2 := cell_of_row W _ 2 _ _ _ hrow
  simp [results, Tryz.f13, go_sem, h2', h3', e0, e1, e2]

set_option maxRecDepth 100000 in
set_option maxHeartbeats 2000000 in
theorem told_nil (w : World) : Calls Tryz.prog 13 #[.nilIface] w fun e w' => e = .returned (.tuple #[.agg #[.int .i64 0, .int .i64 0, .string ⟨#[]⟩], .bool true]) ∧ Below w.heap.size w w' := by
  go_enter Tryz.func13, Tryz.ntmps13
  go_wp2
  exact bodyPost_ret (told_result _ _ w.heap.size _ _ _ _ rfl rfl (heap_alloc_new w _)) rfl ⟨rfl, (Below.refl _ _).alloc (Nat.le_refl _) _⟩

set_option maxRecDepth 100000 in
set_option maxHeartbeats 2000000 in
theorem told_wrong (b : Nat) (c a : Int) (nm : ByteArray) (w : World) (hg : Gerr w) (h1 : 1 ≤ w.heap.size) (hb : b < w.heap.size) (hw : WrongAt w b c a nm) (hc : c ≠ 0) :
    Calls Tryz.prog 13 #[.iface 55 (.pointer (some ⟨b, 0, none⟩))] w fun e w' => e = .returned (.tuple #[.agg #[.int .i64 c, .int .i64 a, .string nm], .bool true]) ∧ Below w.heap.size w w' := by
  have hcb : (c == 0) = false := by simp [hc]
  have hbel : Below w.heap.size w ((w.alloc (.cells #[.int .i64 0, .int .i64 0, .string ⟨#[]⟩] 31)).alloc (.cells #[.pointer none] 55)) := ((Below.refl _ _).alloc (Nat.le_refl _) _).alloc (by simp) _
  have hbox := Boxed.new (w.alloc (.cells #[.int .i64 0, .int .i64 0, .string ⟨#[]⟩] 31)) 55 (.pointer none)
  rw [World.size_alloc] at hbox
  have has := as_box ⟨b, 0, none⟩ (w.heap.size + 1) _ (hg.below hbel h1) hbox
  have HAS := Lib.hid has
  have HB := Lib.hid hbel
  have HW := Lib.hid hw
  clear has hbel hbox hw hg
  go_enter Tryz.func13, Tryz.ntmps13
  go_wp2_with (first
    | (go_at_call 28; refine HAS.out.mono ?_; rintro e w1 ⟨rfl, hbx, hft⟩
       have hcell := hbx.cell
       have hfd := Foot.to (C := w.heap.size) hft (by simp; omega) (fun k e => by omega)
       have hb1 := HB.out.trans hfd
       obtain ⟨c0, c1, c2, _⟩ := HW.out.kept (hb1.block b hb)
       have hrow : w1.heap[w.heap.size]? = some (.cells #[.int .i64 0, .int .i64 0, .string ⟨#[]⟩] 31) := (hft.block _ (by simp; omega) (by omega)).trans ((heap_alloc_old _ _ (by simp)).trans (heap_alloc_new _ _))
       have r0 : ∀ i, w1.cell? ⟨w.heap.size, i, none⟩ = (#[Value.int .i64 0, .int .i64 0, .string ⟨#[]⟩])[i]? := fun i => cell_of_row w1 _ i _ _ _ hrow
       have d0 : w1.cell? ⟨w.heap.size, 0, none⟩ = some (.int .i64 0) := r0 0
       have d1 : w1.cell? ⟨w.heap.size, 1, none⟩ = some (.int .i64 0) := r0 1
       have d2 : w1.cell? ⟨w.heap.size, 2, none⟩ = some (.string ⟨#[]⟩) := r0 2
       have df : ∀ i, w1.frozen? ⟨w.heap.size, i, none⟩ = false := fun i => frozen_of_row w1 _ i _ _ hrow
       have HIS := Lib.hid (is_hit b c w1 c0)
       have HB1 := Lib.hid hb1
       have HROW := Lib.hid hrow
       clear hbx hft hfd hb1 hrow r0)
    | (go_at_call 29; refine HIS.out.mono ?_; rintro e w2 ⟨rfl, rfl⟩))
  go_region
  all_goals go_wp2
  have hrow := heap_setCell_same _ w.heap.size 2 _ _ (.string nm) (heap_setCell_same _ w.heap.size 1 _ _ (.int .i64 a) (heap_setCell_same w2 w.heap.size 0 _ _ (.int .i64 c) HROW.out))
  have hcn : (c != 0) = true := by simp [hc]
  refine bodyPost_ret (told_result _ _ w.heap.size _ _ _ _ rfl rfl hrow) rfl ⟨by rw [hcn]; rfl, ?_⟩
  exact Below.drew (((HB1.out.setCell (p := ⟨w.heap.size, 0, none⟩) (Nat.le_refl _) _).setCell (p := ⟨w.heap.size, 1, none⟩) (Nat.le_refl _) _).setCell (p := ⟨w.heap.size, 2, none⟩) (Nat.le_refl _) _)

end Go.Proofs.YtjpmghgmmeemkaaGreatDoor
