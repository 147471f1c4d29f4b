/- guiselaw2.word, both. -/
import Derived.Test.YtjpmghgmmeemkaaGreatDoorExPlain
import Derived.Test.YtjpmghgmmeemkaaGreatDoorTold
import Derived.Test.YtjpmghgmmeemkaaGreatDoorSame2
namespace Go.Proofs.YtjpmghgmmeemkaaGreatDoor
open Go.RowKit

set_option maxRecDepth 100000 in
theorem word_any (s : ByteArray) (w : World) (hs : s.size ≤ 140737488351232) : Calls Tryz.prog 23 #[.string s] w fun e w' =>
    e = .returned (.agg #[.int .i64 14, .string s, .int .i64 0, .int .i64 0, .slice none 0 0]) ∧ Below w.heap.size w w' ∧ Lies w' w'.heap.size (.mk 14 s 0 0 []) (.agg #[.int .i64 14, .string s, .int .i64 0, .int .i64 0, .slice none 0 0]) := by
  have hl : ∀ W : World, Lies W W.heap.size (.mk 14 s 0 0 []) (.agg #[.int .i64 14, .string s, .int .i64 0, .int .i64 0, .slice none 0 0]) := fun W => by
    unfold Lies
    exact ⟨none, 0, rfl, by unfold okI; omega, by unfold okI; omega, by unfold okI; omega, hs, by simp, by omega, .inl rfl⟩
  have HL := Lib.hid hl
  clear hl
  go_enter Tryz.func23, Tryz.ntmps23
  go_wp2
  exact bodyPost_ret (results_cell_row rfl _ _ w.heap.size 24 _ _ _ rfl (heap_alloc_new w _) Tryz.underlying24 rfl (by kernel_rfl)) rfl ⟨rfl, (Below.refl _ _).alloc (Nat.le_refl _) _, HL.out _⟩

set_option maxRecDepth 100000 in
set_option maxHeartbeats 1000000 in
theorem both_any (op : ByteArray) (k1 : Int) (s1 : ByteArray) (n1 a1 : Int) (A1 : Option Addr) (l1 c1 : Nat) (k2 : Int) (s2 : ByteArray) (n2 a2 : Int) (A2 : Option Addr) (l2 c2 : Nat) (t1 t2 : Nd) (w : World) (hs : op.size ≤ 140737488351232)
    (h1 : Lies w w.heap.size t1 (.agg #[.int .i64 k1, .string s1, .int .i64 n1, .int .i64 a1, .slice A1 l1 c1])) (h2 : Lies w w.heap.size t2 (.agg #[.int .i64 k2, .string s2, .int .i64 n2, .int .i64 a2, .slice A2 l2 c2])) :
    Calls Tryz.prog 22 #[.string op, .agg #[.int .i64 k1, .string s1, .int .i64 n1, .int .i64 a1, .slice A1 l1 c1], .agg #[.int .i64 k2, .string s2, .int .i64 n2, .int .i64 a2, .slice A2 l2 c2]] w fun e w' =>
      ∃ b, e = .returned (.agg #[.int .i64 51, .string op, .int .i64 0, .int .i64 0, .slice (some ⟨b, 0, none⟩) 2 2]) ∧ Below w.heap.size w w' ∧ Lies w' w'.heap.size (.mk 51 op 0 0 [t1, t2]) (.agg #[.int .i64 51, .string op, .int .i64 0, .int .i64 0, .slice (some ⟨b, 0, none⟩) 2 2]) := by
  have H1 := Lib.hid h1
  have H2 := Lib.hid h2
  clear h1 h2
  go_enter Tryz.func22, Tryz.ntmps22
  go_wp2
  have hb : Below w.heap.size w ((((w.alloc (.cells #[.int .i64 k1, .string s1, .int .i64 n1, .int .i64 a1, .slice A1 l1 c1] 24)).alloc (.cells #[.int .i64 k2, .string s2, .int .i64 n2, .int .i64 a2, .slice A2 l2 c2] 24)).alloc (.cells #[.int .i64 51, .string op, .int .i64 0, .int .i64 0, .slice (some ⟨w.heap.size + 1 + 1 + 1, 0, none⟩) 2 2] 24)).alloc (.cells #[.int .i64 k1, .string s1, .int .i64 n1, .int .i64 a1, .slice A1 l1 c1, .int .i64 k2, .string s2, .int .i64 n2, .int .i64 a2, .slice A2 l2 c2] 24)) :=
    ((((Below.refl _ _).alloc (Nat.le_refl _) _).alloc (by simp) _).alloc (by simp; omega) _).alloc (by simp; omega) _
  have hrow : ((((w.alloc (.cells #[.int .i64 k1, .string s1, .int .i64 n1, .int .i64 a1, .slice A1 l1 c1] 24)).alloc (.cells #[.int .i64 k2, .string s2, .int .i64 n2, .int .i64 a2, .slice A2 l2 c2] 24)).alloc (.cells #[.int .i64 51, .string op, .int .i64 0, .int .i64 0, .slice (some ⟨w.heap.size + 1 + 1 + 1, 0, none⟩) 2 2] 24)).alloc (.cells #[.int .i64 k1, .string s1, .int .i64 n1, .int .i64 a1, .slice A1 l1 c1, .int .i64 k2, .string s2, .int .i64 n2, .int .i64 a2, .slice A2 l2 c2] 24)).heap[w.heap.size + 1 + 1]? = some (.cells #[.int .i64 51, .string op, .int .i64 0, .int .i64 0, .slice (some ⟨w.heap.size + 1 + 1 + 1, 0, none⟩) 2 2] 24) := by
    rw [heap_alloc_old _ _ (by simp)]
    have h := heap_alloc_new ((w.alloc (.cells #[.int .i64 k1, .string s1, .int .i64 n1, .int .i64 a1, .slice A1 l1 c1] 24)).alloc (.cells #[.int .i64 k2, .string s2, .int .i64 n2, .int .i64 a2, .slice A2 l2 c2] 24)) (.cells #[.int .i64 51, .string op, .int .i64 0, .int .i64 0, .slice (some ⟨w.heap.size + 1 + 1 + 1, 0, none⟩) 2 2] 24)
    simp only [World.size_alloc] at h
    exact h
  have hkid := heap_alloc_new (((w.alloc (.cells #[.int .i64 k1, .string s1, .int .i64 n1, .int .i64 a1, .slice A1 l1 c1] 24)).alloc (.cells #[.int .i64 k2, .string s2, .int .i64 n2, .int .i64 a2, .slice A2 l2 c2] 24)).alloc (.cells #[.int .i64 51, .string op, .int .i64 0, .int .i64 0, .slice (some ⟨w.heap.size + 1 + 1 + 1, 0, none⟩) 2 2] 24)) (.cells #[.int .i64 k1, .string s1, .int .i64 n1, .int .i64 a1, .slice A1 l1 c1, .int .i64 k2, .string s2, .int .i64 n2, .int .i64 a2, .slice A2 l2 c2] 24)
  simp only [World.size_alloc] at hkid
  have g1 := H1.out.up hb
  have g2 := H2.out.up hb
  have hsz : ((((w.alloc (.cells #[.int .i64 k1, .string s1, .int .i64 n1, .int .i64 a1, .slice A1 l1 c1] 24)).alloc (.cells #[.int .i64 k2, .string s2, .int .i64 n2, .int .i64 a2, .slice A2 l2 c2] 24)).alloc (.cells #[.int .i64 51, .string op, .int .i64 0, .int .i64 0, .slice (some ⟨w.heap.size + 1 + 1 + 1, 0, none⟩) 2 2] 24)).alloc (.cells #[.int .i64 k1, .string s1, .int .i64 n1, .int .i64 a1, .slice A1 l1 c1, .int .i64 k2, .string s2, .int .i64 n2, .int .i64 a2, .slice A2 l2 c2] 24)).heap.size = w.heap.size + 4 := by simp
  generalize ((((w.alloc (.cells #[.int .i64 k1, .string s1, .int .i64 n1, .int .i64 a1, .slice A1 l1 c1] 24)).alloc (.cells #[.int .i64 k2, .string s2, .int .i64 n2, .int .i64 a2, .slice A2 l2 c2] 24)).alloc (.cells #[.int .i64 51, .string op, .int .i64 0, .int .i64 0, .slice (some ⟨w.heap.size + 1 + 1 + 1, 0, none⟩) 2 2] 24)).alloc (.cells #[.int .i64 k1, .string s1, .int .i64 n1, .int .i64 a1, .slice A1 l1 c1, .int .i64 k2, .string s2, .int .i64 n2, .int .i64 a2, .slice A2 l2 c2] 24)) = W at hb hrow hkid g1 g2 hsz ⊢
  refine bodyPost_ret (results_cell_row rfl _ _ (w.heap.size + 1 + 1) 24 _ _ _ rfl hrow Tryz.underlying24 rfl (by kernel_rfl)) rfl ⟨_, rfl, hb, ?_⟩
  have e : ∀ j, W.cell? ⟨w.heap.size + 1 + 1 + 1, j, none⟩ = (#[Value.int .i64 k1, .string s1, .int .i64 n1, .int .i64 a1, .slice A1 l1 c1, .int .i64 k2, .string s2, .int .i64 n2, .int .i64 a2, .slice A2 l2 c2])[j]? := fun j => cell_of_row W _ j _ _ _ hkid
  unfold Lies
  refine ⟨_, 2, rfl, by unfold okI; omega, by unfold okI; omega, by unfold okI; omega, hs, by simp, by omega, .inr ⟨w.heap.size + 1 + 1 + 1, 0, rfl, by omega, ?_⟩⟩
  unfold LiesL
  refine ⟨⟨_, _, _, _, _, e 0, e 1, e 2, e 3, e 4, g1⟩, ?_⟩
  unfold LiesL
  refine ⟨⟨_, _, _, _, _, e 5, e 6, e 7, e 8, e 9, g2⟩, ?_⟩
  unfold LiesL
  trivial

end Go.Proofs.YtjpmghgmmeemkaaGreatDoor
