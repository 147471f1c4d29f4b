/- tree.same, guiseref2.alike. -/
import Derived.Test.YtjpmghgmmeemkaaGreatDoorCount
namespace Go.Proofs.YtjpmghgmmeemkaaGreatDoor
open Go.RowKit
attribute [local go_sem ↓] Go.wp_at_zero Go.wp_at_succ

set_option maxRecDepth 100000 in
set_option maxHeartbeats 800000 in
theorem same_any : ∀ (t : Nd) (u : Nd) (v v' : Value) (w : World), Lies w w.heap.size t v → Lies w w.heap.size u v' →
    Calls Tryz.prog 25 #[v, v'] w fun e w' => e = .returned (.bool (t.same u)) ∧ Below w.heap.size w w' := by
  refine Nd.induct (fun k s n a ks ih => ?_)
  rintro ⟨k', s', n', a', ks'⟩ v v' w hl hl'
  unfold Lies at hl hl'
  obtain ⟨A, cap, rfl, hk, hn, ha, hs, hlc, hcap, hl⟩ := hl
  obtain ⟨A', cap', rfl, hk', hn', ha', hs', hlc', hcap', hl'⟩ := hl'
  clear hk hn ha hs hk' hn' ha' hs'
  have IH := Lib.hid ih
  clear ih
  have HL := Lib.hid hl
  have HL' := Lib.hid hl'
  clear hl hl'
  have fin0 : ∀ X : World, X = (w.alloc (.cells #[.int .i64 k, .string s, .int .i64 n, .int .i64 a, .slice A ks.length cap] 24)).alloc (.cells #[.int .i64 k', .string s', .int .i64 n', .int .i64 a', .slice A' ks'.length cap'] 24) → Below w.heap.size w X := by
    rintro X rfl
    exact ((Below.refl _ _).alloc (Nat.le_refl _) _).alloc (by simp) _
  have FIN := Lib.hid fin0
  clear fin0
  by_cases e1 : ¬ k = k'
  · have HF : Hid ((Nd.mk k s n a ks).same (.mk k' s' n' a' ks') = false) := by simp [Hid, Nd.same, e1]
    have e1' : (k == k') = false := by simp [e1]
    have e1'' : (k != k') = true := by simp [e1]
    clear e1
    go_enter Tryz.func25, Tryz.ntmps25
    go_wp2_with fail
    go_ret
    exact ⟨ret_bool HF.out.symm, FIN.out _ rfl⟩
  have e1 : k = k' := Decidable.not_not.1 e1
  subst e1
  by_cases e2 : ¬ s.toList = s'.toList
  · have HF : Hid ((Nd.mk k s n a ks).same (.mk k s' n' a' ks') = false) := by simp [Hid, Nd.same, e2]
    have e2' : (s.toList == s'.toList) = false := by simp [e2]
    clear e2
    go_enter Tryz.func25, Tryz.ntmps25
    go_wp2_with fail
    go_ret
    exact ⟨ret_bool HF.out.symm, FIN.out _ rfl⟩
  have e2 : s = s' := by
    have := Decidable.not_not.1 e2
    exact toList_inj this
  subst e2
  by_cases e3 : ¬ n = n'
  · have HF : Hid ((Nd.mk k s n a ks).same (.mk k s n' a' ks') = false) := by simp [Hid, Nd.same, e3]
    have e3' : (n == n') = false := by simp [e3]
    have e3'' : (n != n') = true := by simp [e3]
    clear e3
    go_enter Tryz.func25, Tryz.ntmps25
    go_wp2_with fail
    go_ret
    exact ⟨ret_bool HF.out.symm, FIN.out _ rfl⟩
  have e3 : n = n' := Decidable.not_not.1 e3
  subst e3
  by_cases e4 : ¬ ks.length = ks'.length
  · have HF : Hid ((Nd.mk k s n a ks).same (.mk k s n a' ks') = false) := by simp [Hid, Nd.same, e4]
    have e4' : ((ks.length : Int) == (ks'.length : Int)) = false := by simp; omega
    have e4'' : ((ks.length : Int) != (ks'.length : Int)) = true := by simp; omega
    clear e4
    go_enter Tryz.func25, Tryz.ntmps25
    go_wp2_with fail
    go_ret
    exact ⟨ret_bool HF.out.symm, FIN.out _ rfl⟩
  have e4 : ks.length = ks'.length := Decidable.not_not.1 e4
  have HS : Hid ((Nd.mk k s n a ks).same (.mk k s n a' ks') = sameL ks ks') := by simp [Hid, Nd.same, e4]
  have E4 := Lib.hid e4
  have e4' : ((ks.length : Int) == (ks'.length : Int)) = true := by simp; omega
  have e4'' : ((ks.length : Int) != (ks'.length : Int)) = false := by simp; omega
  clear e4
  go_enter Tryz.func25, Tryz.ntmps25
  go_wp2_with fail
  go_loopw [37] (fun i wr => ∃ j : Nat, j ≤ ks.length ∧ i = .int .i64 j ∧ sameL (ks.drop j) (ks'.drop j) = sameL ks ks' ∧ Below w.heap.size w wr ∧ wr.cell? ⟨w.heap.size, 4, none⟩ = some (.slice A ks.length cap) ∧ wr.cell? ⟨w.heap.size + 1, 4, none⟩ = some (.slice A' ks'.length cap') ∧ w.heap.size + 1 < wr.heap.size) (fun i _ => ks.length - (intOf i).toNat)
  case atStart => exact ⟨0, by omega, rfl, by simp, FIN.out _ rfl, by simp, by simp, by simp⟩
  case round =>
    obtain ⟨j, hj, rfl, hc, hb, hbox, hbox', hsz⟩ := hrel
    have HC := Lib.hid hc
    clear hc
    by_cases hlt : j < ks.length
    · have hlt' : j < ks'.length := by rw [← E4.out]; exact hlt
      rcases HL.out with h | ⟨b, o, rfl, hbl, hLL⟩
      · subst h; simp at hlt
      rcases HL'.out with h | ⟨b', o', rfl, hbl', hLL'⟩
      · subst h; simp at hlt'
      obtain ⟨xk, xs, xn, xa, xA, xc, xks, ht, d0, d1, d2, d3, d4, hLt⟩ := LiesL.get j hlt (LiesL.below hb hbl hLL)
      obtain ⟨yk, ys, yn, ya, yA, yc, yks, ht', f0, f1, f2, f3, f4, hLt'⟩ := LiesL.get j hlt' (LiesL.below hb hbl' hLL')
      have hd : sameL (ks.drop j) (ks'.drop j) = ((Nd.mk xk xs xn xa xks).same (.mk yk ys yn ya yks) && sameL (ks.drop (j + 1)) (ks'.drop (j + 1))) := by
        rw [drop_cons ht, drop_cons ht']; rfl
      have HX := Lib.hid (hLt.more hb.size)
      have HY := Lib.hid (hLt'.more hb.size)
      have HT := Lib.hid ht
      have HD := Lib.hid hd
      have HLL := Lib.hid hLL
      have HLL' := Lib.hid hLL'
      clear hLt hLt' ht ht' hLL hLL' hd
      have i0 : (0 : Int) ≤ (j : Int) := by omega
      have i1 : (j : Int) < (ks.length : Int) := by omega
      have i2 : (j : Int) < (ks'.length : Int) := by omega
      have hwb : w.heap.size < wr.heap.size := by omega
      have hbb : b < wr.heap.size := by omega
      have hbb' : b' < wr.heap.size := by omega
      go_wp2_with fail
      go_region_held3 (fun w' => w'.cell? ⟨w.heap.size, 4, none⟩ = some (.slice (some ⟨b, o, none⟩) ks.length cap) ∧ w'.cell? ⟨w.heap.size + 1, 4, none⟩ = some (.slice (some ⟨b', o', none⟩) ks'.length cap') ∧
        w'.cell? ⟨b, o + j * 5, none⟩ = some (.int .i64 xk) ∧ w'.cell? ⟨b, o + j * 5 + 1, none⟩ = some (.string xs) ∧ w'.cell? ⟨b, o + j * 5 + 2, none⟩ = some (.int .i64 xn) ∧ w'.cell? ⟨b, o + j * 5 + 3, none⟩ = some (.int .i64 xa) ∧ w'.cell? ⟨b, o + j * 5 + 4, none⟩ = some (.slice xA xks.length xc) ∧
        w'.cell? ⟨b', o' + j * 5, none⟩ = some (.int .i64 yk) ∧ w'.cell? ⟨b', o' + j * 5 + 1, none⟩ = some (.string ys) ∧ w'.cell? ⟨b', o' + j * 5 + 2, none⟩ = some (.int .i64 yn) ∧ w'.cell? ⟨b', o' + j * 5 + 3, none⟩ = some (.int .i64 ya) ∧ w'.cell? ⟨b', o' + j * 5 + 4, none⟩ = some (.slice yA yks.length yc))
        (first | (go_keep; done) | (refine ⟨?_, ?_, ?_, ?_, ?_, ?_, ?_, ?_, ?_, ?_, ?_, ?_⟩ <;> exact (hc3 _ _ (by omega)).trans (by assumption)))
        ((go_at_call 25; refine (IH.out _ (List.mem_of_getElem? HT.out) (.mk yk ys yn ya yks) _ _ _ (by exact HX.out.below (Below.drew (Below.refl _ _))) (by exact HY.out.below (Below.drew (Below.refl _ _)))).mono ?_; rintro e w2 ⟨rfl, hb2⟩; have hc3 : ∀ b o, b < wr.heap.size → w2.cell? ⟨b, o, none⟩ = wr.cell? ⟨b, o, none⟩ := fun b o h => hb2.cell (p := ⟨b, o, none⟩) h))
      have hcb : w2.cell? ⟨w.heap.size, 4, none⟩ = some (.slice (some ⟨b, o, none⟩) ks.length cap) := (hc3 _ _ (by omega)).trans hbox
      have hcb' : w2.cell? ⟨w.heap.size + 1, 4, none⟩ = some (.slice (some ⟨b', o', none⟩) ks'.length cap') := (hc3 _ _ (by omega)).trans hbox'
      have hb3 : Below w.heap.size w w2 := hb.trans ((of_drew hb2).mono hb.size)
      have hsz3 : w.heap.size + 1 < w2.heap.size := Nat.lt_of_lt_of_le hsz (of_drew hb2).size
      clear hc3 hb2 d0 d1 d2 d3 d4 f0 f1 f2 f3 f4 hbox hbox' HX HY
      obtain ⟨q, hq⟩ : ∃ q, (Nd.mk xk xs xn xa xks).same (.mk yk ys yn ya yks) = q := ⟨_, rfl⟩
      rw [hq] at HD ⊢
      clear hq
      cases q
      · go_wp2_with fail
        go_ret
        exact ⟨ret_bool (by rw [HS.out, ← HC.out, HD.out]; rfl), hb3⟩
      · go_wp2_with fail
        go_roundw
        case rel => exact ⟨j + 1, by omega, by go_num, by rw [← HC.out, HD.out]; rfl, hb3, hcb, hcb', hsz3⟩
        case measure => simp [intOf]; omega
    · have hj' : j = ks.length := by omega
      have hfin : sameL ks ks' = true := by rw [← HC.out, hj', List.drop_length]; rfl
      have HF := Lib.hid hfin
      clear hfin hj'
      go_wp2_with fail
      go_ret
      exact ⟨ret_bool (by rw [HS.out, HF.out]), hb⟩
set_option maxRecDepth 100000 in
set_option maxHeartbeats 800000 in
theorem alike_any : ∀ (t : Nd) (u : Nd) (v v' : Value) (w : World), Lies w w.heap.size t v → Lies w w.heap.size u v' →
    Calls Tryz.prog 24 #[v, v'] w fun e w' => e = .returned (.bool (t.same u)) ∧ Below w.heap.size w w' := by
  refine Nd.induct (fun k s n a ks ih => ?_)
  rintro ⟨k', s', n', a', ks'⟩ v v' w hl hl'
  unfold Lies at hl hl'
  obtain ⟨A, cap, rfl, hk, hn, ha, hs, hlc, hcap, hl⟩ := hl
  obtain ⟨A', cap', rfl, hk', hn', ha', hs', hlc', hcap', hl'⟩ := hl'
  clear hk hn ha hs hk' hn' ha' hs'
  have IH := Lib.hid ih
  clear ih
  have HL := Lib.hid hl
  have HL' := Lib.hid hl'
  clear hl hl'
  have fin0 : ∀ X : World, X = (w.alloc (.cells #[.int .i64 k, .string s, .int .i64 n, .int .i64 a, .slice A ks.length cap] 24)).alloc (.cells #[.int .i64 k', .string s', .int .i64 n', .int .i64 a', .slice A' ks'.length cap'] 24) → Below w.heap.size w X := by
    rintro X rfl
    exact ((Below.refl _ _).alloc (Nat.le_refl _) _).alloc (by simp) _
  have FIN := Lib.hid fin0
  clear fin0
  by_cases e1 : ¬ k = k'
  · have HF : Hid ((Nd.mk k s n a ks).same (.mk k' s' n' a' ks') = false) := by simp [Hid, Nd.same, e1]
    have e1' : (k == k') = false := by simp [e1]
    have e1'' : (k != k') = true := by simp [e1]
    clear e1
    go_enter Tryz.func24, Tryz.ntmps24
    go_wp2_with fail
    go_ret
    exact ⟨ret_bool HF.out.symm, FIN.out _ rfl⟩
  have e1 : k = k' := Decidable.not_not.1 e1
  subst e1
  by_cases e2 : ¬ s.toList = s'.toList
  · have HF : Hid ((Nd.mk k s n a ks).same (.mk k s' n' a' ks') = false) := by simp [Hid, Nd.same, e2]
    have e2' : (s.toList == s'.toList) = false := by simp [e2]
    clear e2
    go_enter Tryz.func24, Tryz.ntmps24
    go_wp2_with fail
    go_ret
    exact ⟨ret_bool HF.out.symm, FIN.out _ rfl⟩
  have e2 : s = s' := by
    have := Decidable.not_not.1 e2
    exact toList_inj this
  subst e2
  by_cases e3 : ¬ n = n'
  · have HF : Hid ((Nd.mk k s n a ks).same (.mk k s n' a' ks') = false) := by simp [Hid, Nd.same, e3]
    have e3' : (n == n') = false := by simp [e3]
    have e3'' : (n != n') = true := by simp [e3]
    clear e3
    go_enter Tryz.func24, Tryz.ntmps24
    go_wp2_with fail
    go_ret
    exact ⟨ret_bool HF.out.symm, FIN.out _ rfl⟩
  have e3 : n = n' := Decidable.not_not.1 e3
  subst e3
  by_cases e4 : ¬ ks.length = ks'.length
  · have HF : Hid ((Nd.mk k s n a ks).same (.mk k s n a' ks') = false) := by simp [Hid, Nd.same, e4]
    have e4' : ((ks.length : Int) == (ks'.length : Int)) = false := by simp; omega
    have e4'' : ((ks.length : Int) != (ks'.length : Int)) = true := by simp; omega
    clear e4
    go_enter Tryz.func24, Tryz.ntmps24
    go_wp2_with fail
    go_ret
    exact ⟨ret_bool HF.out.symm, FIN.out _ rfl⟩
  have e4 : ks.length = ks'.length := Decidable.not_not.1 e4
  have HS : Hid ((Nd.mk k s n a ks).same (.mk k s n a' ks') = sameL ks ks') := by simp [Hid, Nd.same, e4]
  have E4 := Lib.hid e4
  have e4' : ((ks.length : Int) == (ks'.length : Int)) = true := by simp; omega
  have e4'' : ((ks.length : Int) != (ks'.length : Int)) = false := by simp; omega
  clear e4
  go_enter Tryz.func24, Tryz.ntmps24
  go_wp2_with fail
  go_loopw [5] (fun i wr => ∃ j : Nat, j ≤ ks.length ∧ i = .int .i64 j ∧ sameL (ks.drop j) (ks'.drop j) = sameL ks ks' ∧ Below w.heap.size w wr ∧ wr.cell? ⟨w.heap.size, 4, none⟩ = some (.slice A ks.length cap) ∧ wr.cell? ⟨w.heap.size + 1, 4, none⟩ = some (.slice A' ks'.length cap') ∧ w.heap.size + 1 < wr.heap.size) (fun i _ => ks.length - (intOf i).toNat)
  case atStart => exact ⟨0, by omega, rfl, by simp, FIN.out _ rfl, by simp, by simp, by simp⟩
  case round =>
    obtain ⟨j, hj, rfl, hc, hb, hbox, hbox', hsz⟩ := hrel
    have HC := Lib.hid hc
    clear hc
    by_cases hlt : j < ks.length
    · have hlt' : j < ks'.length := by rw [← E4.out]; exact hlt
      rcases HL.out with h | ⟨b, o, rfl, hbl, hLL⟩
      · subst h; simp at hlt
      rcases HL'.out with h | ⟨b', o', rfl, hbl', hLL'⟩
      · subst h; simp at hlt'
      obtain ⟨xk, xs, xn, xa, xA, xc, xks, ht, d0, d1, d2, d3, d4, hLt⟩ := LiesL.get j hlt (LiesL.below hb hbl hLL)
      obtain ⟨yk, ys, yn, ya, yA, yc, yks, ht', f0, f1, f2, f3, f4, hLt'⟩ := LiesL.get j hlt' (LiesL.below hb hbl' hLL')
      have hd : sameL (ks.drop j) (ks'.drop j) = ((Nd.mk xk xs xn xa xks).same (.mk yk ys yn ya yks) && sameL (ks.drop (j + 1)) (ks'.drop (j + 1))) := by
        rw [drop_cons ht, drop_cons ht']; rfl
      have HX := Lib.hid (hLt.more hb.size)
      have HY := Lib.hid (hLt'.more hb.size)
      have HT := Lib.hid ht
      have HD := Lib.hid hd
      have HLL := Lib.hid hLL
      have HLL' := Lib.hid hLL'
      clear hLt hLt' ht ht' hLL hLL' hd
      have i0 : (0 : Int) ≤ (j : Int) := by omega
      have i1 : (j : Int) < (ks.length : Int) := by omega
      have i2 : (j : Int) < (ks'.length : Int) := by omega
      have hwb : w.heap.size < wr.heap.size := by omega
      have hbb : b < wr.heap.size := by omega
      have hbb' : b' < wr.heap.size := by omega
      go_wp2_with fail
      go_region_held3 (fun w' => w'.cell? ⟨w.heap.size, 4, none⟩ = some (.slice (some ⟨b, o, none⟩) ks.length cap) ∧ w'.cell? ⟨w.heap.size + 1, 4, none⟩ = some (.slice (some ⟨b', o', none⟩) ks'.length cap') ∧
        w'.cell? ⟨b, o + j * 5, none⟩ = some (.int .i64 xk) ∧ w'.cell? ⟨b, o + j * 5 + 1, none⟩ = some (.string xs) ∧ w'.cell? ⟨b, o + j * 5 + 2, none⟩ = some (.int .i64 xn) ∧ w'.cell? ⟨b, o + j * 5 + 3, none⟩ = some (.int .i64 xa) ∧ w'.cell? ⟨b, o + j * 5 + 4, none⟩ = some (.slice xA xks.length xc) ∧
        w'.cell? ⟨b', o' + j * 5, none⟩ = some (.int .i64 yk) ∧ w'.cell? ⟨b', o' + j * 5 + 1, none⟩ = some (.string ys) ∧ w'.cell? ⟨b', o' + j * 5 + 2, none⟩ = some (.int .i64 yn) ∧ w'.cell? ⟨b', o' + j * 5 + 3, none⟩ = some (.int .i64 ya) ∧ w'.cell? ⟨b', o' + j * 5 + 4, none⟩ = some (.slice yA yks.length yc))
        (first | (go_keep; done) | (refine ⟨?_, ?_, ?_, ?_, ?_, ?_, ?_, ?_, ?_, ?_, ?_, ?_⟩ <;> exact (hc3 _ _ (by omega)).trans (by assumption)))
        ((go_at_call 24; refine (IH.out _ (List.mem_of_getElem? HT.out) (.mk yk ys yn ya yks) _ _ _ (by exact HX.out.below (Below.drew (Below.refl _ _))) (by exact HY.out.below (Below.drew (Below.refl _ _)))).mono ?_; rintro e w2 ⟨rfl, hb2⟩; have hc3 : ∀ b o, b < wr.heap.size → w2.cell? ⟨b, o, none⟩ = wr.cell? ⟨b, o, none⟩ := fun b o h => hb2.cell (p := ⟨b, o, none⟩) h))
      have hcb : w2.cell? ⟨w.heap.size, 4, none⟩ = some (.slice (some ⟨b, o, none⟩) ks.length cap) := (hc3 _ _ (by omega)).trans hbox
      have hcb' : w2.cell? ⟨w.heap.size + 1, 4, none⟩ = some (.slice (some ⟨b', o', none⟩) ks'.length cap') := (hc3 _ _ (by omega)).trans hbox'
      have hb3 : Below w.heap.size w w2 := hb.trans ((of_drew hb2).mono hb.size)
      have hsz3 : w.heap.size + 1 < w2.heap.size := Nat.lt_of_lt_of_le hsz (of_drew hb2).size
      clear hc3 hb2 d0 d1 d2 d3 d4 f0 f1 f2 f3 f4 hbox hbox' HX HY
      obtain ⟨q, hq⟩ : ∃ q, (Nd.mk xk xs xn xa xks).same (.mk yk ys yn ya yks) = q := ⟨_, rfl⟩
      rw [hq] at HD ⊢
      clear hq
      cases q
      · go_wp2_with fail
        go_ret
        exact ⟨ret_bool (by rw [HS.out, ← HC.out, HD.out]; rfl), hb3⟩
      · go_wp2_with fail
        go_roundw
        case rel => exact ⟨j + 1, by omega, by go_num, by rw [← HC.out, HD.out]; rfl, hb3, hcb, hcb', hsz3⟩
        case measure => simp [intOf]; omega
    · have hj' : j = ks.length := by omega
      have hfin : sameL ks ks' = true := by rw [← HC.out, hj', List.drop_length]; rfl
      have HF := Lib.hid hfin
      clear hfin hj'
      go_wp2_with fail
      go_ret
      exact ⟨ret_bool (by rw [HS.out, HF.out]), hb⟩
end Go.Proofs.YtjpmghgmmeemkaaGreatDoor
