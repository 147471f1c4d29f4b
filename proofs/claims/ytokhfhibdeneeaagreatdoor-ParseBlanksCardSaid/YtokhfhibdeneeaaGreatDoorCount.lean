/- tree.count, tree.same, guiseref2.counted, guiseref2.alike, and Count, Same of both packages. -/
import Derived.Test.YtokhfhibdeneeaaGreatDoorProg
import Derived.WalkKit
import Derived.WalkSpells
import Derived.WalkLawsBesides
import Derived.Deep.RegionHeld3
import Derived.Deep.DrawnRows
import Derived.Deep.QuietTactic
import Derived.BigQuiet
import Derived.Test.YtokhfhibdeneeaaGreatDoorMNd
namespace Go.Proofs.YtokhfhibdeneeaaGreatDoor
open Go.RowKit

set_option maxRecDepth 100000 in
set_option maxHeartbeats 400000 in
theorem count_any : ∀ (t : Nd) (v : Value) (left : Int) (w : World), Lies w w.heap.size t v → 0 ≤ left → left ≤ 1000000 →
    Calls Tryz.prog 64 #[v, .int .i64 left] w fun e w' => e = .returned (.int .i64 (t.count left)) ∧ Below w.heap.size w w' := by
  refine Nd.induct (fun k s n a ks ih => ?_)
  intro v left w hl h0 h1
  unfold Lies at hl
  obtain ⟨A, cap, rfl, hk, hn, ha, hs, hlc, hcap, hl⟩ := hl
  clear hk hn ha hs
  have IH := Lib.hid ih
  clear ih
  have HL := Lib.hid hl
  clear hl
  go_enter Tryz.func64, Tryz.ntmps64
  go_wp2
  go_loopw [5, 11] (fun many i wr => ∃ (j : Nat) (m : Int), j ≤ ks.length ∧ i = .int .i64 j ∧ many = .int .i64 m ∧ 1 ≤ m ∧ m ≤ left + 1 ∧ countL (ks.drop j) left m = countL ks left 1 ∧ Below w.heap.size w wr) (fun _ i _ => ks.length - (intOf i).toNat)
  case atStart => exact ⟨0, 1, by omega, rfl, rfl, by omega, by omega, by simp, (Below.refl _ _).alloc (Nat.le_refl _) _⟩
  case round =>
    obtain ⟨j, m, hj, rfl, rfl, hm1, hm2, hc, hb⟩ := hrel
    have HC := Lib.hid hc
    clear hc
    by_cases hlt : j < ks.length
    · rcases HL.out with h | ⟨b, o, rfl, hbl, hLL⟩
      · subst h; simp at hlt
      obtain ⟨k', s', n', a', A', cap', ks', ht, d0, d1, d2, d3, d4, hLt⟩ := LiesL.get j hlt (LiesL.below hb hbl hLL)
      have HLt := Lib.hid hLt
      have HT := Lib.hid ht
      have HLL := Lib.hid hLL
      clear hLt ht hLL
      have hd : countL (ks.drop j) left m = if left < m then m else countL (ks.drop (j + 1)) left (m + (Nd.mk k' s' n' a' ks').count (left - m)) := by
        rw [drop_cons HT.out]; rfl
      by_cases hml : left < m
      · have hfin : m = (Nd.mk k s n a ks).count left := by
          unfold Nd.count; rw [← HC.out, hd, if_pos hml]; omega
        have HF := Lib.hid hfin
        clear hfin hd
        go_wp2_with fail
        go_ret
        exact ⟨ret_int HF.out, hb.alloc hb.size _⟩
      · have hbd := Nd.count_bd (.mk k' s' n' a' ks') (left - m) (by omega)
        have hd' : countL (ks.drop (j + 1)) left (m + (Nd.mk k' s' n' a' ks').count (left - m)) = countL ks left 1 := by rw [← HC.out, hd, if_neg hml]
        have HD := Lib.hid hd'
        clear hd hd'
        go_wp2_with fail
        refine (IH.out _ (List.mem_of_getElem? HT.out) _ _ _ ((HLt.out.more hb.size).below ((Below.refl _ _).alloc (Nat.le_refl _) _) |>.more (by simp)) (by omega) (by omega)).mono ?_
        rintro e w' ⟨rfl, hb'⟩
        obtain ⟨q, hq⟩ : ∃ q, (Nd.mk k' s' n' a' ks').count (left - m) = q := ⟨_, rfl⟩
        rw [hq] at hbd HD ⊢
        clear hq
        go_wp2_with fail
        go_roundw
        case rel => exact ⟨j + 1, m + q, by omega, by go_num, rfl, by omega, by omega, HD.out, (hb.alloc hb.size _).trans (hb'.mono (by have := hb.size; simp; omega))⟩
        case measure => simp [intOf]; omega
    · have hj' : j = ks.length := by omega
      have hfin : min m (left + 1) = (Nd.mk k s n a ks).count left := by
        unfold Nd.count; rw [← HC.out, hj', List.drop_length]; rfl
      have HF := Lib.hid hfin
      clear hfin hj'
      go_wp2_with fail
      go_ret
      exact ⟨ret_int (by rw [← HF.out]; omega), hb⟩

theorem of_drew {B : Nat} {a w : World} (h : Below B a.drew w) : Below B a w := ((Below.refl B a).drew).trans h

end Go.Proofs.YtokhfhibdeneeaaGreatDoor
