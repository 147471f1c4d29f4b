/- tree.Print of small expressions that are right: the call. -/
import Derived.Test.YtjpmghgmmeemkaaGreatDoorPrint
namespace Go.Proofs.YtjpmghgmmeemkaaGreatDoor
open Go.RowKit

set_option maxHeartbeats 2000000 in
set_option maxRecDepth 100000 in
theorem Print_both (iB fB : ByteArray → Bool) (s : ByteArray) (n a : Int) (l r : Sx) (he : (Sx.nd (.both s n a l r)).Each (NumsAt iB fB)) (v : Value) (w : World) (hgl : Gl w) (hl : Lies w w.heap.size (Sx.nd (.both s n a l r)) v)
    (hok : ((Sx.nd (.both s n a l r)).look iB fB 1 0 0).2 = none) (out : List UInt8) (hout : Sx.bare (.both s n a l r) ([], false) = (out, false)) (h0 : out ≠ []) :
    Calls Tryz.prog 15 #[v] w fun e w' => e = .returned (.tuple #[.string ⟨out.toArray⟩, .nilIface]) ∧ Below w.heap.size w w' := by
  have hl2 := hl
  unfold Sx.nd Lies at hl2
  obtain ⟨A, cap, rfl, _⟩ := hl2
  have hbel : Below w.heap.size w (w.alloc (.cells #[.int .i64 51, .string s, .int .i64 n, .int .i64 a, .slice A [l.nd, r.nd].length cap] 24)) := (Below.refl _ _).alloc (Nat.le_refl _) _
  have hR := Right_any iB fB _ he _ _ (hgl.up hbel) (hl.up hbel)
  rw [hok] at hR
  have HR := Lib.hid hR
  have HL := Lib.hid hl
  have HB := Lib.hid hbel
  have HO := Lib.hid hout
  have HN := Lib.hid h0
  clear hR hl hgl he hok hout h0 hbel
  simp only [List.length_cons, List.length_nil, Nat.zero_add, Nat.reduceAdd] at HR HL HB ⊢
  go_enter Tryz.func15, Tryz.ntmps15
  go_wp2_with (first
    | (go_at_call 14; refine HR.out.mono ?_; clear HR
       rintro e w1 ⟨hb1, hres⟩
       obtain rfl : e = .returned .nilIface := by
         rcases hres with ⟨_, h⟩ | ⟨x, b, h, _⟩
         · exact h
         · cases h
       have hrow : w1.heap[w.heap.size]? = some (.cells #[.int .i64 51, .string s, .int .i64 n, .int .i64 a, .slice A 2 cap] 24) := (hb1.block _ (by simp)).trans (heap_alloc_new _ _)
       have hrow2 : ∀ O, (w1.alloc O).heap[w.heap.size]? = some (.cells #[.int .i64 51, .string s, .int .i64 n, .int .i64 a, .slice A 2 cap] 24) := fun O => (heap_alloc_old _ _ (Array.getElem?_eq_some_iff.1 hrow).1).trans hrow
       have d0 : ∀ O, (w1.alloc O).cell? ⟨w.heap.size, 0, none⟩ = some (.int .i64 51) := fun O => cell_of_row _ _ 0 _ _ _ (hrow2 O)
       have d1 : ∀ O, (w1.alloc O).cell? ⟨w.heap.size, 1, none⟩ = some (.string s) := fun O => cell_of_row _ _ 1 _ _ _ (hrow2 O)
       have d2 : ∀ O, (w1.alloc O).cell? ⟨w.heap.size, 2, none⟩ = some (.int .i64 n) := fun O => cell_of_row _ _ 2 _ _ _ (hrow2 O)
       have d3 : ∀ O, (w1.alloc O).cell? ⟨w.heap.size, 3, none⟩ = some (.int .i64 a) := fun O => cell_of_row _ _ 3 _ _ _ (hrow2 O)
       have d4 : ∀ O, (w1.alloc O).cell? ⟨w.heap.size, 4, none⟩ = some (.slice A 2 cap) := fun O => cell_of_row _ _ 4 _ _ _ (hrow2 O)
       have hb2 : Below w.heap.size w (w1.alloc (.cells #[.pointer none, .slice none 0 0, .bool false] 70)) := (HB.out.trans (hb1.mono (by simp))).alloc (by have := hb1.size; simp at this; omega) _
       have hpr : PrAt w1.heap.size [] false (w1.alloc (.cells #[.pointer none, .slice none 0 0, .bool false] 70)) := .inl ⟨.slice none 0 0, heap_alloc_new _ _, World.ownsRow_nil _ _ _ _⟩
       have hw := whole_both s n a l r _ [] false w1.heap.size _ hpr (by simp) ((HL.out.below hb2).more (by have := hb1.size; simp at this; omega))
       rw [HO.out] at hw
       have HW := Lib.hid hw
       have HB2 := Lib.hid hb2
       have hsz : w.heap.size < w1.heap.size := by have := hb1.size; simp at this; omega
       clear hw hpr hb2 hrow hrow2 hb1 hres)
    | (go_at_call 31; refine HW.out.mono ?_; clear HW
       rintro e w2 ⟨rfl, h1, h2, h3⟩
       have c2 := h1.long
       have HS := Lib.hid (String_p _ _ _ _ h1 HN.out)
       have HP := Lib.hid h3
       clear h1 h2 h3 d0 d1 d2 d3 d4)
    | (go_at_call 32; refine HS.out.mono ?_; clear HS
       rintro e w3 ⟨rfl, hb3⟩
       have hbf : Below w.heap.size w w3 := (HB2.out.trans (HP.out.below.mono (by omega))).trans (hb3.mono (by omega))
       clear hb3))
  go_ret2
  exact ⟨rfl, hbf⟩

end Go.Proofs.YtjpmghgmmeemkaaGreatDoor
