/- tree.Print of small expressions that are right. tree.Print of small expressions that are right: the call. -/
import Derived.Test.YtjpmghgmmeemkaaGreatDoorJBare
import Derived.Test.YtjpmghgmmeemkaaGreatDoorJLookSpec
namespace Go.Proofs.YtjpmghgmmeemkaaGreatDoor
open Go.RowKit

theorem isStmt_51 (w : World) : Calls Tryz.prog 54 #[.int .i64 51] w fun e w' => e = .returned (.bool false) ∧ w' = w := by
  go_enter Tryz.func54, Tryz.ntmps54
  go_wp2
  go_ret
  exact ⟨rfl, rfl⟩

set_option maxHeartbeats 2000000 in
set_option maxRecDepth 100000 in
theorem whole_both (s : ByteArray) (n a : Int) (l r : Sx) (v : Value) (bs : List UInt8) (lg : Bool) (bp : Nat) (w : World) (h : PrAt bp bs lg w) (hlen : bs.length ≤ 60000) (hl : Lies w bp (Sx.nd (.both s n a l r)) v) :
    Calls Tryz.prog 31 #[.pointer (some ⟨bp, 0, none⟩), v] w (WrPost bp (Sx.bare (.both s n a l r) (bs, lg)) w) := by
  have hl2 := hl
  unfold Sx.nd Lies at hl2
  obtain ⟨A, cap, rfl, _⟩ := hl2
  have hlt := h.lt
  have h0 := h.alloc (.cells #[.int .i64 51, .string s, .int .i64 n, .int .i64 a, .slice A [l.nd, r.nd].length cap] 24)
  have hpf0 : PF bp w (w.alloc (.cells #[.int .i64 51, .string s, .int .i64 n, .int .i64 a, .slice A [l.nd, r.nd].length cap] 24)) := (PF.refl bp w).alloc (by omega) _
  have hc := bare_ok (.both s n a l r) _ 0 bs lg bp _ h0 hlen (hl.below hpf0.below)
  simp only [List.length_cons, List.length_nil, Nat.zero_add, Nat.reduceAdd] at hc ⊢
  have HC := Lib.hid hc
  have HP := Lib.hid hpf0
  clear hc h h0 hpf0 hl
  go_enter Tryz.func31, Tryz.ntmps31
  go_wp2_with (first
    | (go_at_call 54; refine (isStmt_51 _).mono ?_; rintro e w1 ⟨rfl, rfl⟩)
    | (go_at_call 57; refine HC.out.mono ?_; clear HC; rintro e w1 ⟨rfl, h1, h2, h3⟩))
  go_end0
  exact ⟨rfl, h1, h2, HP.out.trans h3⟩

set_option maxHeartbeats 2000000 in
set_option maxRecDepth 100000 in
theorem String_p (bp : Nat) (bs : List UInt8) (lg : Bool) (w : World) (h : PrAt bp bs lg w) (h0 : bs ≠ []) :
    Calls Tryz.prog 32 #[.pointer (some ⟨bp, 0, none⟩)] w fun e w' => e = .returned (.string ⟨bs.toArray⟩) ∧ Below bp w w' := by
  obtain ⟨p, v, hbk, hown⟩ : ∃ p, PrIs p bp bs lg w := h.elim (fun h => ⟨_, h⟩) (fun h => ⟨_, h⟩)
  have hl0 : bs.length ≠ 0 := by simpa using h0
  obtain ⟨g, cap, cur, rfl, hbg, hg, hnc, hcm, hcs, htake⟩ : ∃ g cap cur, v = .slice (some ⟨g, 0, none⟩) bs.length cap ∧ bp + 1 ≤ g ∧ w.heap[g]? = some (.cells cur 5 (0, 0)) ∧ bs.length ≤ cap ∧ cap ≤ maxLen ∧ cur.size = cap * 1 ∧ cur.toList.take (bs.length * 1) = Lib.byteCells bs := by
    rcases hown.2 with ⟨_, hz⟩ | ⟨g, cap, cur, hv, r⟩
    · exact absurd hz hl0
    · exact ⟨g, cap, cur, hv, r⟩
  have c1 : w.drew.cell? ⟨bp, 1, none⟩ = some (.slice (some ⟨g, 0, none⟩) bs.length cap) := cell_of_row w _ 1 _ _ _ hbk
  have hSD : (Builtin.unsafeSliceData_ #[66] 108 #[.slice (some ⟨g, 0, none⟩) bs.length cap]).run Tryz.prog w.drew = .ok (.pointer (some ⟨g, 0, none⟩)) w.drew :=
    Lib.run_unsafeSliceData_row _ _ _ _ _ _ (by omega)
  have hUS : (Builtin.unsafeString_ #[108, 3] 9 #[.pointer (some ⟨g, 0, none⟩), .int .i64 bs.length]).run Tryz.prog w.drew = .ok (.string ⟨bs.toArray⟩) (w.drew.freeze ⟨g, 0, none⟩ bs.length) := by
    refine Lib.run_unsafeString_row w.drew 108 3 9 5 Tryz.underlying108 (by kernel_rfl) g cur.size (by have hg' : w.drew.heap[g]? = some (.cells cur 5 (0, 0)) := hg; simp [World.shape?, hg']) bs h0 (by omega) (by unfold maxLen at hcm; omega) ?_
    intro j x hx
    exact hown.cells (g := g) rfl j (.int .u8 x.toNat) (by simp [Lib.byteCells, hx])
  go_enter Tryz.func32, Tryz.ntmps32
  go_wp2
  go_region
  all_goals (go_wp2; go_ret; exact ⟨rfl, Lib.below_freeze (Below.drew (Below.refl bp w)) (p := ⟨g, 0, none⟩) (by simp; omega) _⟩)

end Go.Proofs.YtjpmghgmmeemkaaGreatDoor

namespace Go.Proofs.YtjpmghgmmeemkaaGreatDoor
open Go.RowKit

set_option maxHeartbeats 2000000 in
set_option maxRecDepth 100000 in
theorem Print_both (iB fB : ByteArray → Bool) (s : ByteArray) (n a : Int) (l r : Sx) (he : (Sx.nd (.both s n a l r)).Each (NumsAt iB fB)) (v : Value) (w : World) (hgl : Gl w) (hl : Lies w w.heap.size (Sx.nd (.both s n a l r)) v)
    (hok : ((Sx.nd (.both s n a l r)).look iB fB 1 0 0).2 = none) (out : List UInt8) (hout : Sx.bare (.both s n a l r) ([], false) = (out, false)) (h0 : out ≠ []) :
    Calls Tryz.prog 15 #[v] w fun e w' => e = .returned (.tuple #[.string ⟨out.toArray⟩, .nilIface]) ∧ Below w.heap.size w w' := by
  have hl2 := hl
  unfold Sx.nd Lies at hl2
  obtain ⟨A, cap, rfl, _⟩ := hl2
  have hbel : Below w.heap.size w (w.alloc (.cells #[.int .i64 51, .string s, .int .i64 n, .int .i64 a, .slice A [l.nd, r.nd].length cap] 24)) := (Below.refl _ _).alloc (Nat.le_refl _) _
  have hR := Right_any iB fB _ he _ _ (hgl.up hbel) (hl.up hbel)
  rw [hok] at hR
  have HR := Lib.hid hR
  have HL := Lib.hid hl
  have HB := Lib.hid hbel
  have HO := Lib.hid hout
  have HN := Lib.hid h0
  clear hR hl hgl he hok hout h0 hbel
  simp only [List.length_cons, List.length_nil, Nat.zero_add, Nat.reduceAdd] at HR HL HB ⊢
  go_enter Tryz.func15, Tryz.ntmps15
  go_wp2_with (first
    | (go_at_call 14; refine HR.out.mono ?_; clear HR
       rintro e w1 ⟨hb1, hres⟩
       obtain rfl : e = .returned .nilIface := by
         rcases hres with ⟨_, h⟩ | ⟨x, b, h, _⟩
         · exact h
         · cases h
       have hrow : w1.heap[w.heap.size]? = some (.cells #[.int .i64 51, .string s, .int .i64 n, .int .i64 a, .slice A 2 cap] 24) := (hb1.block _ (by simp)).trans (heap_alloc_new _ _)
       have hrow2 : ∀ O, (w1.alloc O).heap[w.heap.size]? = some (.cells #[.int .i64 51, .string s, .int .i64 n, .int .i64 a, .slice A 2 cap] 24) := fun O => (heap_alloc_old _ _ (Array.getElem?_eq_some_iff.1 hrow).1).trans hrow
       have d0 : ∀ O, (w1.alloc O).cell? ⟨w.heap.size, 0, none⟩ = some (.int .i64 51) := fun O => cell_of_row _ _ 0 _ _ _ (hrow2 O)
       have d1 : ∀ O, (w1.alloc O).cell? ⟨w.heap.size, 1, none⟩ = some (.string s) := fun O => cell_of_row _ _ 1 _ _ _ (hrow2 O)
       have d2 : ∀ O, (w1.alloc O).cell? ⟨w.heap.size, 2, none⟩ = some (.int .i64 n) := fun O => cell_of_row _ _ 2 _ _ _ (hrow2 O)
       have d3 : ∀ O, (w1.alloc O).cell? ⟨w.heap.size, 3, none⟩ = some (.int .i64 a) := fun O => cell_of_row _ _ 3 _ _ _ (hrow2 O)
       have d4 : ∀ O, (w1.alloc O).cell? ⟨w.heap.size, 4, none⟩ = some (.slice A 2 cap) := fun O => cell_of_row _ _ 4 _ _ _ (hrow2 O)
       have hb2 : Below w.heap.size w (w1.alloc (.cells #[.pointer none, .slice none 0 0, .bool false] 70)) := (HB.out.trans (hb1.mono (by simp))).alloc (by have := hb1.size; simp at this; omega) _
       have hpr : PrAt w1.heap.size [] false (w1.alloc (.cells #[.pointer none, .slice none 0 0, .bool false] 70)) := .inl ⟨.slice none 0 0, heap_alloc_new _ _, World.ownsRow_nil _ _ _ _⟩
       have hw := whole_both s n a l r _ [] false w1.heap.size _ hpr (by simp) ((HL.out.below hb2).more (by have := hb1.size; simp at this; omega))
       rw [HO.out] at hw
       have HW := Lib.hid hw
       have HB2 := Lib.hid hb2
       have hsz : w.heap.size < w1.heap.size := by have := hb1.size; simp at this; omega
       clear hw hpr hb2 hrow hrow2 hb1 hres)
    | (go_at_call 31; refine HW.out.mono ?_; clear HW
       rintro e w2 ⟨rfl, h1, h2, h3⟩
       have c2 := h1.long
       have HS := Lib.hid (String_p _ _ _ _ h1 HN.out)
       have HP := Lib.hid h3
       clear h1 h2 h3 d0 d1 d2 d3 d4)
    | (go_at_call 32; refine HS.out.mono ?_; clear HS
       rintro e w3 ⟨rfl, hb3⟩
       have hbf : Below w.heap.size w w3 := (HB2.out.trans (HP.out.below.mono (by omega))).trans (hb3.mono (by omega))
       clear hb3))
  go_ret2
  exact ⟨rfl, hbf⟩

end Go.Proofs.YtjpmghgmmeemkaaGreatDoor
