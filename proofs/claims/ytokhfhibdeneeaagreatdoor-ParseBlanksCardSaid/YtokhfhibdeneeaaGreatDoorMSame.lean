/- tree.same, guiseref2.alike. Count, Same of both packages. -/
import Derived.Test.YtokhfhibdeneeaaGreatDoorCount
namespace Go.Proofs.YtokhfhibdeneeaaGreatDoor
open Go.RowKit
attribute [local go_sem ↓] Go.wp_at_zero Go.wp_at_succ

set_option maxRecDepth 100000 in
set_option maxHeartbeats 800000 in
theorem same_any : ∀ (t : Nd) (u : Nd) (v v' : Value) (w : World), Lies w w.heap.size t v → Lies w w.heap.size u v' →
    Calls Tryz.prog 31 #[v, v'] w fun e w' => e = .returned (.bool (t.same u)) ∧ Below w.heap.size w w' := by
  refine Nd.induct (fun k s n a ks ih => ?_)
  rintro ⟨k', s', n', a', ks'⟩ v v' w hl hl'
  unfold Lies at hl hl'
  obtain ⟨A, cap, rfl, hk, hn, ha, hs, hlc, hcap, hl⟩ := hl
  obtain ⟨A', cap', rfl, hk', hn', ha', hs', hlc', hcap', hl'⟩ := hl'
  clear hk hn ha hs hk' hn' ha' hs'
  have IH := Lib.hid ih
  clear ih
  have HL := Lib.hid hl
  have HL' := Lib.hid hl'
  clear hl hl'
  have fin0 : ∀ X : World, X = (w.alloc (.cells #[.int .i64 k, .string s, .int .i64 n, .int .i64 a, .slice A ks.length cap] 25)).alloc (.cells #[.int .i64 k', .string s', .int .i64 n', .int .i64 a', .slice A' ks'.length cap'] 25) → Below w.heap.size w X := by
    rintro X rfl
    exact ((Below.refl _ _).alloc (Nat.le_refl _) _).alloc (by simp) _
  have FIN := Lib.hid fin0
  clear fin0
  by_cases e1 : ¬ k = k'
  · have HF : Hid ((Nd.mk k s n a ks).same (.mk k' s' n' a' ks') = false) := by simp [Hid, Nd.same, e1]
    have e1' : (k == k') = false := by simp [e1]
    have e1'' : (k != k') = true := by simp [e1]
    clear e1
    go_enter Tryz.func31, Tryz.ntmps31
    go_wp2_with fail
    go_ret
    exact ⟨ret_bool HF.out.symm, FIN.out _ rfl⟩
  have e1 : k = k' := Decidable.not_not.1 e1
  subst e1
  by_cases e2 : ¬ s.toList = s'.toList
  · have HF : Hid ((Nd.mk k s n a ks).same (.mk k s' n' a' ks') = false) := by simp [Hid, Nd.same, e2]
    have e2' : (s.toList == s'.toList) = false := by simp [e2]
    clear e2
    go_enter Tryz.func31, Tryz.ntmps31
    go_wp2_with fail
    go_ret
    exact ⟨ret_bool HF.out.symm, FIN.out _ rfl⟩
  have e2 : s = s' := by
    have := Decidable.not_not.1 e2
    exact toList_inj this
  subst e2
  by_cases e3 : ¬ n = n'
  · have HF : Hid ((Nd.mk k s n a ks).same (.mk k s n' a' ks') = false) := by simp [Hid, Nd.same, e3]
    have e3' : (n == n') = false := by simp [e3]
    have e3'' : (n != n') = true := by simp [e3]
    clear e3
    go_enter Tryz.func31, Tryz.ntmps31
    go_wp2_with fail
    go_ret
    exact ⟨ret_bool HF.out.symm, FIN.out _ rfl⟩
  have e3 : n = n' := Decidable.not_not.1 e3
  subst e3
  by_cases e4 : ¬ ks.length = ks'.length
  · have HF : Hid ((Nd.mk k s n a ks).same (.mk k s n a' ks') = false) := by simp [Hid, Nd.same, e4]
    have e4' : ((ks.length : Int) == (ks'.length : Int)) = false := by simp; omega
    have e4'' : ((ks.length : Int) != (ks'.length : Int)) = true := by simp; omega
    clear e4
    go_enter Tryz.func31, Tryz.ntmps31
    go_wp2_with fail
    go_ret
    exact ⟨ret_bool HF.out.symm, FIN.out _ rfl⟩
  have e4 : ks.length = ks'.length := Decidable.not_not.1 e4
  have HS : Hid ((Nd.mk k s n a ks).same (.mk k s n a' ks') = sameL ks ks') := by simp [Hid, Nd.same, e4]
  have E4 := Lib.hid e4
  have e4' : ((ks.length : Int) == (ks'.length : Int)) = true := by simp; omega
  have e4'' : ((ks.length : Int) != (ks'.length : Int)) = false := by simp; omega
  clear e4
  go_enter Tryz.func31, Tryz.ntmps31
  go_wp2_with fail
  go_loopw [37] (fun i wr => ∃ j : Nat, j ≤ ks.length ∧ i = .int .i64 j ∧ sameL (ks.drop j) (ks'.drop j) = sameL ks ks' ∧ Below w.heap.size w wr ∧ wr.cell? ⟨w.heap.size, 4, none⟩ = some (.slice A ks.length cap) ∧ wr.cell? ⟨w.heap.size + 1, 4, none⟩ = some (.slice A' ks'.length cap') ∧ w.heap.size + 1 < wr.heap.size) (fun i _ => ks.length - (intOf i).toNat)
  case atStart => exact ⟨0, by omega, rfl, by simp, FIN.out _ rfl, by simp, by simp, by simp⟩
  case round =>
    obtain ⟨j, hj, rfl, hc, hb, hbox, hbox', hsz⟩ := hrel
    have HC := Lib.hid hc
    clear hc
    by_cases hlt : j < ks.length
    · have hlt' : j < ks'.length := by rw [← E4.out]; exact hlt
      rcases HL.out with h | ⟨b, o, rfl, hbl, hLL⟩
      · subst h; simp at hlt
      rcases HL'.out with h | ⟨b', o', rfl, hbl', hLL'⟩
      · subst h; simp at hlt'
      obtain ⟨xk, xs, xn, xa, xA, xc, xks, ht, d0, d1, d2, d3, d4, hLt⟩ := LiesL.get j hlt (LiesL.below hb hbl hLL)
      obtain ⟨yk, ys, yn, ya, yA, yc, yks, ht', f0, f1, f2, f3, f4, hLt'⟩ := LiesL.get j hlt' (LiesL.below hb hbl' hLL')
      have hd : sameL (ks.drop j) (ks'.drop j) = ((Nd.mk xk xs xn xa xks).same (.mk yk ys yn ya yks) && sameL (ks.drop (j + 1)) (ks'.drop (j + 1))) := by
        rw [drop_cons ht, drop_cons ht']; rfl
      have HX := Lib.hid (hLt.more hb.size)
      have HY := Lib.hid (hLt'.more hb.size)
      have HT := Lib.hid ht
      have HD := Lib.hid hd
      have HLL := Lib.hid hLL
      have HLL' := Lib.hid hLL'
      clear hLt hLt' ht ht' hLL hLL' hd
      have i0 : (0 : Int) ≤ (j : Int) := by omega
      have i1 : (j : Int) < (ks.length : Int) := by omega
      have i2 : (j : Int) < (ks'.length : Int) := by omega
      have hwb : w.heap.size < wr.heap.size := by omega
      have hbb : b < wr.heap.size := by omega
      have hbb' : b' < wr.heap.size := by omega
      go_wp2_with fail
      go_region_held3 (fun w' => w'.cell? ⟨w.heap.size, 4, none⟩ = some (.slice (some ⟨b, o, none⟩) ks.length cap) ∧ w'.cell? ⟨w.heap.size + 1, 4, none⟩ = some (.slice (some ⟨b', o', none⟩) ks'.length cap') ∧
        w'.cell? ⟨b, o + j * 5, none⟩ = some (.int .i64 xk) ∧ w'.cell? ⟨b, o + j * 5 + 1, none⟩ = some (.string xs) ∧ w'.cell? ⟨b, o + j * 5 + 2, none⟩ = some (.int .i64 xn) ∧ w'.cell? ⟨b, o + j * 5 + 3, none⟩ = some (.int .i64 xa) ∧ w'.cell? ⟨b, o + j * 5 + 4, none⟩ = some (.slice xA xks.length xc) ∧
        w'.cell? ⟨b', o' + j * 5, none⟩ = some (.int .i64 yk) ∧ w'.cell? ⟨b', o' + j * 5 + 1, none⟩ = some (.string ys) ∧ w'.cell? ⟨b', o' + j * 5 + 2, none⟩ = some (.int .i64 yn) ∧ w'.cell? ⟨b', o' + j * 5 + 3, none⟩ = some (.int .i64 ya) ∧ w'.cell? ⟨b', o' + j * 5 + 4, none⟩ = some (.slice yA yks.length yc))
        (first | (go_keep; done) | (refine ⟨?_, ?_, ?_, ?_, ?_, ?_, ?_, ?_, ?_, ?_, ?_, ?_⟩ <;> exact (hc3 _ _ (by omega)).trans (by assumption)))
        ((go_at_call 31; refine (IH.out _ (List.mem_of_getElem? HT.out) (.mk yk ys yn ya yks) _ _ _ (by exact HX.out.below (Below.drew (Below.refl _ _))) (by exact HY.out.below (Below.drew (Below.refl _ _)))).mono ?_; rintro e w2 ⟨rfl, hb2⟩; have hc3 : ∀ b o, b < wr.heap.size → w2.cell? ⟨b, o, none⟩ = wr.cell? ⟨b, o, none⟩ := fun b o h => hb2.cell (p := ⟨b, o, none⟩) h))
      have hcb : w2.cell? ⟨w.heap.size, 4, none⟩ = some (.slice (some ⟨b, o, none⟩) ks.length cap) := (hc3 _ _ (by omega)).trans hbox
      have hcb' : w2.cell? ⟨w.heap.size + 1, 4, none⟩ = some (.slice (some ⟨b', o', none⟩) ks'.length cap') := (hc3 _ _ (by omega)).trans hbox'
      have hb3 : Below w.heap.size w w2 := hb.trans ((of_drew hb2).mono hb.size)
      have hsz3 : w.heap.size + 1 < w2.heap.size := Nat.lt_of_lt_of_le hsz (of_drew hb2).size
      clear hc3 hb2 d0 d1 d2 d3 d4 f0 f1 f2 f3 f4 hbox hbox' HX HY
      obtain ⟨q, hq⟩ : ∃ q, (Nd.mk xk xs xn xa xks).same (.mk yk ys yn ya yks) = q := ⟨_, rfl⟩
      rw [hq] at HD ⊢
      clear hq
      cases q
      · go_wp2_with fail
        go_ret
        exact ⟨ret_bool (by rw [HS.out, ← HC.out, HD.out]; rfl), hb3⟩
      · go_wp2_with fail
        go_roundw
        case rel => exact ⟨j + 1, by omega, by go_num, by rw [← HC.out, HD.out]; rfl, hb3, hcb, hcb', hsz3⟩
        case measure => simp [intOf]; omega
    · have hj' : j = ks.length := by omega
      have hfin : sameL ks ks' = true := by rw [← HC.out, hj', List.drop_length]; rfl
      have HF := Lib.hid hfin
      clear hfin hj'
      go_wp2_with fail
      go_ret
      exact ⟨ret_bool (by rw [HS.out, HF.out]), hb⟩
end Go.Proofs.YtokhfhibdeneeaaGreatDoor

namespace Go.Proofs.YtokhfhibdeneeaaGreatDoor
open Go.RowKit
attribute [local go_sem ↓] Go.wp_at_zero Go.wp_at_succ

set_option maxRecDepth 100000 in
set_option maxHeartbeats 400000 in
theorem Count_any (t : Nd) (v : Value) (w : World) (h : Lies w w.heap.size t v) :
    Calls Tryz.prog 30 #[v] w fun e w' => e = .returned (.int .i64 (t.count 1000000)) ∧ Below w.heap.size w w' := by
  have HX := Lib.hid h
  obtain ⟨k, s, n, a, ks⟩ := t
  unfold Lies at h
  obtain ⟨A, cap, rfl, -⟩ := h
  go_enter Tryz.func30, Tryz.ntmps30
  go_wp2_with fail
  refine (count_any _ _ _ _ (HX.out.up ((Below.refl _ _).alloc (Nat.le_refl _) _)) (by omega) (by omega)).mono ?_
  rintro e w' ⟨rfl, hb⟩
  go_wp2_with fail
  go_ret
  exact ⟨rfl, ((Below.refl _ _).alloc (Nat.le_refl _) _).trans (hb.mono (by simp))⟩

/-- Behind a callee that leaves all that was there. -/
theorem below_step {w W W2 : World} (hb : Below w.heap.size w W) (h2 : Below W.heap.size W W2) : Below w.heap.size w W2 := hb.trans (h2.mono hb.size)

set_option maxRecDepth 100000 in
set_option maxHeartbeats 1600000 in
theorem Same_any (t u : Nd) (v v' : Value) (w : World) (h : Lies w w.heap.size t v) (h' : Lies w w.heap.size u v') :
    Calls Tryz.prog 16 #[v, v'] w fun e w' => e = .returned (.bool (t.Same u)) ∧ Below w.heap.size w w' := by
  have HX := Lib.hid h
  have HY := Lib.hid h'
  obtain ⟨k, s, n, a, ks⟩ := t
  obtain ⟨k', s', n', a', ks'⟩ := u
  unfold Lies at h h'
  obtain ⟨A, cap, rfl, -⟩ := h
  obtain ⟨A', cap', rfl, -⟩ := h'
  go_enter Tryz.func16, Tryz.ntmps16
  go_wp2_with fail
  obtain ⟨w1, hw1⟩ : ∃ w1, (w.alloc (.cells #[.int .i64 k, .string s, .int .i64 n, .int .i64 a, .slice A ks.length cap] 25)).alloc (.cells #[.int .i64 k', .string s', .int .i64 n', .int .i64 a', .slice A' ks'.length cap'] 25) = w1 := ⟨_, rfl⟩
  have hb1 : Below w.heap.size w w1 := by rw [← hw1]; exact ((Below.refl _ _).alloc (Nat.le_refl _) _).alloc (by simp) _
  have hs1 : w.heap.size + 1 < w1.heap.size := by rw [← hw1]; simp
  have p0 : w1.cell? ⟨w.heap.size, 0, none⟩ = some (.int .i64 k) := by rw [← hw1]; simp
  have p1 : w1.cell? ⟨w.heap.size, 1, none⟩ = some (.string s) := by rw [← hw1]; simp
  have p2 : w1.cell? ⟨w.heap.size, 2, none⟩ = some (.int .i64 n) := by rw [← hw1]; simp
  have p3 : w1.cell? ⟨w.heap.size, 3, none⟩ = some (.int .i64 a) := by rw [← hw1]; simp
  have p4 : w1.cell? ⟨w.heap.size, 4, none⟩ = some (.slice A ks.length cap) := by rw [← hw1]; simp
  have q0 : w1.cell? ⟨w.heap.size + 1, 0, none⟩ = some (.int .i64 k') := by rw [← hw1]; simp
  have q1 : w1.cell? ⟨w.heap.size + 1, 1, none⟩ = some (.string s') := by rw [← hw1]; simp
  have q2 : w1.cell? ⟨w.heap.size + 1, 2, none⟩ = some (.int .i64 n') := by rw [← hw1]; simp
  have q3 : w1.cell? ⟨w.heap.size + 1, 3, none⟩ = some (.int .i64 a') := by rw [← hw1]; simp
  have q4 : w1.cell? ⟨w.heap.size + 1, 4, none⟩ = some (.slice A' ks'.length cap') := by rw [← hw1]; simp
  rw [hw1]
  clear hw1
  have K : ∀ W, Below w1.heap.size w1 W → Below w1.heap.size w1 W ∧ W.cell? ⟨w.heap.size, 0, none⟩ = some (.int .i64 k) ∧ W.cell? ⟨w.heap.size, 1, none⟩ = some (.string s) ∧ W.cell? ⟨w.heap.size, 2, none⟩ = some (.int .i64 n) ∧ W.cell? ⟨w.heap.size, 3, none⟩ = some (.int .i64 a) ∧ W.cell? ⟨w.heap.size, 4, none⟩ = some (.slice A ks.length cap) ∧
      W.cell? ⟨w.heap.size + 1, 0, none⟩ = some (.int .i64 k') ∧ W.cell? ⟨w.heap.size + 1, 1, none⟩ = some (.string s') ∧ W.cell? ⟨w.heap.size + 1, 2, none⟩ = some (.int .i64 n') ∧ W.cell? ⟨w.heap.size + 1, 3, none⟩ = some (.int .i64 a') ∧ W.cell? ⟨w.heap.size + 1, 4, none⟩ = some (.slice A' ks'.length cap') := fun W hW => by
    have hc : ∀ b o, b < w1.heap.size → W.cell? ⟨b, o, none⟩ = w1.cell? ⟨b, o, none⟩ := fun b o h => hW.cell (p := ⟨b, o, none⟩) h
    refine ⟨hW, ?_, ?_, ?_, ?_, ?_, ?_, ?_, ?_, ?_, ?_⟩ <;> exact (hc _ _ (by omega)).trans (by assumption)
  have K' := Lib.hid K
  clear K
  go_region_held3 (fun W => Below w1.heap.size w1 W ∧ W.cell? ⟨w.heap.size, 0, none⟩ = some (.int .i64 k) ∧ W.cell? ⟨w.heap.size, 1, none⟩ = some (.string s) ∧ W.cell? ⟨w.heap.size, 2, none⟩ = some (.int .i64 n) ∧ W.cell? ⟨w.heap.size, 3, none⟩ = some (.int .i64 a) ∧ W.cell? ⟨w.heap.size, 4, none⟩ = some (.slice A ks.length cap) ∧
      W.cell? ⟨w.heap.size + 1, 0, none⟩ = some (.int .i64 k') ∧ W.cell? ⟨w.heap.size + 1, 1, none⟩ = some (.string s') ∧ W.cell? ⟨w.heap.size + 1, 2, none⟩ = some (.int .i64 n') ∧ W.cell? ⟨w.heap.size + 1, 3, none⟩ = some (.int .i64 a') ∧ W.cell? ⟨w.heap.size + 1, 4, none⟩ = some (.slice A' ks'.length cap'))
    (first
      | exact K'.out _ ((Below.refl _ _).drew)
      | exact K'.out _ hB2)
    (first
      | (go_at_call 30; (with_reducible refine (Count_any (.mk k s n a ks) _ _ ?_).mono ?_); (refine (HX.out.up hb1).up ?_); (apply And.left; assumption); rintro e w2 ⟨rfl, hb2⟩; have hB2 : Below w1.heap.size w1 w2 := (by (refine below_step ?_ hb2); apply And.left; assumption))
      | (go_at_call 30; (with_reducible refine (Count_any (.mk k' s' n' a' ks') _ _ ?_).mono ?_); (refine (HY.out.up hb1).up ?_); (apply And.left; assumption); rintro e w2 ⟨rfl, hb2⟩; have hB2 : Below w1.heap.size w1 w2 := (by (refine below_step ?_ hb2); apply And.left; assumption)))
  have hB : Below w1.heap.size w1 w2 := hB2
  obtain ⟨-, r0, r1, r2, r3, r4, r5, r6, r7, r8, r9⟩ := K'.out _ hB
  have hL : Below w.heap.size w w2 := hb1.trans (hB.mono hb1.size)
  have HX2 := Lib.hid (HX.out.up hL)
  have HY2 := Lib.hid (HY.out.up hL)
  clear hB hb2 p0 p1 p2 p3 p4 q0 q1 q2 q3 q4 K' HX HY
  have hS : (Nd.mk k s n a ks).Same (.mk k' s' n' a' ks') = (decide ((Nd.mk k s n a ks).count 1000000 ≤ 1000000) && (Nd.mk k s n a ks).count 1000000 == (Nd.mk k' s' n' a' ks').count 1000000 && (Nd.mk k s n a ks).same (.mk k' s' n' a' ks')) := rfl
  have HS := Lib.hid hS
  clear hS
  obtain ⟨x, hx⟩ : ∃ x, (Nd.mk k s n a ks).count 1000000 = x := ⟨_, rfl⟩
  obtain ⟨y, hy⟩ : ∃ y, (Nd.mk k' s' n' a' ks').count 1000000 = y := ⟨_, rfl⟩
  rw [hx, hy] at HS
  rw [hx, hy]
  clear hx hy
  by_cases h1 : x ≤ 1000000
  · by_cases h2 : x = y
    · have h2' : (x == y) = true := by simp [h2]
      have h1' : decide (x ≤ 1000000) = true := by simp [h1]
      have HF : Hid ((Nd.mk k s n a ks).Same (.mk k' s' n' a' ks') = (Nd.mk k s n a ks).same (.mk k' s' n' a' ks')) := by rw [Hid, HS.out, h2', h1']; simp
      clear h2 h1'
      go_wp2_with fail
      refine (same_any _ _ _ _ _ HX2.out HY2.out).mono ?_
      rintro e w3 ⟨rfl, hb3⟩
      obtain ⟨q, hq⟩ : ∃ q, (Nd.mk k s n a ks).same (.mk k' s' n' a' ks') = q := ⟨_, rfl⟩
      rw [hq] at HF ⊢
      clear hq
      go_wp2_with fail
      go_ret
      exact ⟨ret_bool HF.out.symm, below_step hL hb3⟩
    · have h2' : (x == y) = false := by simp [h2]
      have HF : Hid ((Nd.mk k s n a ks).Same (.mk k' s' n' a' ks') = false) := by rw [Hid, HS.out, h2']; simp
      clear h2
      go_wp2_with fail
      go_ret
      exact ⟨ret_bool HF.out.symm, hL⟩
  · have HF : Hid ((Nd.mk k s n a ks).Same (.mk k' s' n' a' ks') = false) := by rw [Hid, HS.out]; simp [h1]
    go_wp2_with fail
    go_ret
    exact ⟨ret_bool HF.out.symm, hL⟩

end Go.Proofs.YtokhfhibdeneeaaGreatDoor
