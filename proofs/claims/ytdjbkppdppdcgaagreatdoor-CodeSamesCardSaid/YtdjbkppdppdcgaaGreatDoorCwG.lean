/- The package-level variables that package code reaches; code.wrong. -/
import Derived.Test.YtdjbkppdppdcgaaGreatDoorShelf
import Derived.BigQuiet
import Derived.Deep.DeepCutAuto
import Derived.Test.YtdjbkppdppdcgaaGreatDoorMCwF
import Derived.Test.YtdjbkppdppdcgaaGreatDoorMScanA
namespace Go.Proofs.YtdjbkppdppdcgaaGreatDoor
open Go.RowKit

theorem gPow : Tryz.prog.globalNamed "internal/strconv.uint64pow10" = some 4 := by kernel_rfl
/-- The table strings.asciiSpace. -/
def spaceT : Array Value := (Lib.asciiSpaceTab.map fun z => Value.int .u8 z).toArray
def IfcAt (w : World) (g : Nat) : Prop := ∃ ev, w.cell? ⟨g, 0, none⟩ = some ev ∧ (ev = .nilIface ∨ ∃ te pe, ev = .iface te pe)
/-- What the package-level variables hold. -/
structure Gc (w : World) : Prop where
  size : 13 ≤ w.heap.size
  pow : Lib.TabIs Tryz.prog w "internal/strconv.uint64pow10" .u64 Lib.pow10Tab
  max : ∃ m, w.cell? ⟨2, 0, none⟩ = some (.int .i64 m)
  syn : IfcAt w 5
  rng : IfcAt w 6
  space : ∃ t fr, w.heap[1]? = some (.cells spaceT t fr)
theorem Gc.below {w w' : World} {B : Nat} (h : Gc w) (hB : 13 ≤ B) (hb : Below B w w') : Gc w' := by
  have hc : ∀ g, g < 13 → w'.cell? ⟨g, 0, none⟩ = w.cell? ⟨g, 0, none⟩ := fun g hg => hb.cell (p := ⟨g, 0, none⟩) (show g < B by omega)
  obtain ⟨m, h3⟩ := h.max
  obtain ⟨e1, h4, h5⟩ := h.syn
  obtain ⟨e2, h6, h7⟩ := h.rng
  obtain ⟨t, fr, h8⟩ := h.space
  refine ⟨Nat.le_trans h.size hb.size, ?_, ⟨m, by rw [hc _ (by decide)]; exact h3⟩, ⟨e1, by rw [hc _ (by decide)]; exact h4, h5⟩, ⟨e2, by rw [hc _ (by decide)]; exact h6, h7⟩, t, fr, by rw [hb.block _ (Nat.lt_of_lt_of_le (by decide) hB)]; exact h8⟩
  have h2 := h.pow
  unfold Lib.TabIs World.var? at *
  rw [gPow] at h2 ⊢
  simp only [Option.bind_some] at h2 ⊢
  rw [hb.block _ (Nat.lt_of_lt_of_le (by decide) hB)]
  exact h2
theorem Gc.up {w w' : World} (h : Gc w) (hb : Below w.heap.size w w') : Gc w' := h.below h.size hb
theorem Gc.foot {w w' : World} {B : Nat} {g : Nat → Prop} (h : Gc w) (hf : Foot B g w w') (hB : 13 ≤ B) (hg : ∀ k, g k → 13 ≤ k) : Gc w' := h.below (Nat.le_refl 13) (hf.to hB hg)

/-- An error's three cells. -/
def insName : Option Int → ByteArray
  | none => ⟨#[]⟩
  | some i => ⟨(Lib.itoa i).toArray⟩
def WrAt (w : World) (b : Nat) (c a : Int) (i : Option Int) : Prop := w.heap[b]? = some (.cells #[.int .i64 c, .int .i64 a, .string (insName i)] 51 (0, 0))
theorem grow_under {w : World} {k : Nat} {os : Array Obj} : Below w.heap.size w (Go.Sort.grow (w.drewN k) os) :=
  ⟨rfl, rfl, rfl, by show w.heap.size ≤ (w.heap ++ os).size; rw [Array.size_append]; omega, fun j hj => by show (w.heap ++ os)[j]? = _; rw [Array.getElem?_append_left hj]⟩
def WrongPost (w : World) (c a : Int) (i : Option Int) (e : Ending) (w' : World) : Prop := Below w.heap.size w w' ∧ ∃ b, e = .returned (.pointer (some ⟨b, 0, none⟩)) ∧ w.heap.size ≤ b ∧ WrAt w' b c a i
theorem wrong_facts {c a : Int} {w w1 : World} {k : Nat} {os : Array Obj} (h : w1 = Go.Sort.grow ((w.alloc (.cells #[.int .i64 c, .int .i64 a, .string ⟨#[]⟩] 51 (0, 0))).drewN k) os) (s : ByteArray) :
    w1.cell? ⟨w.heap.size, 2, none⟩ = some (.string ⟨#[]⟩) ∧ w1.frozen? ⟨w.heap.size, 2, none⟩ = false ∧ Below w.heap.size w (w1.setCell ⟨w.heap.size, 2, none⟩ (.string s)) ∧
    (w1.setCell ⟨w.heap.size, 2, none⟩ (.string s)).heap[w.heap.size]? = some (.cells #[.int .i64 c, .int .i64 a, .string s] 51 (0, 0)) := by
  have hb : Below (w.heap.size + 1) (w.alloc (.cells #[.int .i64 c, .int .i64 a, .string ⟨#[]⟩] 51 (0, 0))) w1 := by
    rw [h]
    have := grow_under (w := w.alloc (.cells #[.int .i64 c, .int .i64 a, .string ⟨#[]⟩] 51 (0, 0))) (k := k) (os := os)
    rw [World.size_alloc] at this
    exact this
  have hg : w1.heap[w.heap.size]? = some (.cells #[.int .i64 c, .int .i64 a, .string ⟨#[]⟩] 51 (0, 0)) := (hb.block _ (by omega)).trans (heap_alloc_new _ _)
  refine ⟨cell_of_row w1 _ 2 _ _ _ hg, frozen_of_row w1 _ 2 _ _ hg, ?_, heap_setCell_same w1 _ 2 _ _ _ hg⟩
  exact (((Below.refl w.heap.size w).alloc (Nat.le_refl _) _).trans (hb.mono (by omega))).setCell (p := ⟨w.heap.size, 2, none⟩) (Nat.le_refl _) _
theorem wrong_some (c a : Int) (i : Nat) (hi : i ≤ 9223372036854775807) (w : World) (h : Gc w) : Calls Tryz.prog 30 #[.int .i64 c, .int .i64 a, .int .i64 i] w (WrongPost w c a (some (i : Int))) := by
  have hT : Lib.TabIs Tryz.prog (w.alloc (.cells #[.int .i64 c, .int .i64 a, .string ⟨#[]⟩] 51 (0, 0))) "internal/strconv.uint64pow10" .u64 Lib.pow10Tab := (h.up ((Below.refl _ _).alloc (Nat.le_refl _) _)).pow
  have HT := Lib.hid hT
  clear h hT
  have d : decide ((i : Int) < 0) = false := by simp
  go_enter Tryz.func30, Tryz.ntmps30
  go_wp2_with (go_at_call 53; refine (Tryz.strconv_Itoa i (by omega) (by omega) _ HT.out).mono ?_; rintro e w1 ⟨rfl, k, os, hw1⟩; have hf := wrong_facts hw1 (insName (some (i : Int))); have c2 := hf.1; have f2 := hf.2.1; have HF := Lib.hid hf.2.2; clear hf hw1)
  go_ret
  exact ⟨HF.out.1, w.heap.size, rfl, Nat.le_refl _, HF.out.2⟩
end Go.Proofs.YtdjbkppdppdcgaaGreatDoor
