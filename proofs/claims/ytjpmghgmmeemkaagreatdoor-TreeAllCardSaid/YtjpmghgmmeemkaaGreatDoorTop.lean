/- tree.Count and tree.Same where the (second) tree's own Text may be longer than an argument's. -/
import Derived.Test.YtjpmghgmmeemkaaGreatDoorSame2
namespace Go.Proofs.YtjpmghgmmeemkaaGreatDoor
open Go.RowKit
attribute [local go_sem ↓] Go.wp_at_zero Go.wp_at_succ

/-- As Lies, of its own Text nothing is said. -/
def LiesT (w : World) (B : Nat) : Nd → Value → Prop
  | .mk k s n a ks, v => ∃ (A : Option Addr) (cap : Nat), v = .agg #[.int .i64 k, .string s, .int .i64 n, .int .i64 a, .slice A ks.length cap] ∧
      okI k ∧ okI n ∧ okI a ∧ ks.length ≤ cap ∧ cap ≤ 9223372036854775807 ∧
      (ks = [] ∨ ∃ b o, A = some ⟨b, o, none⟩ ∧ b < B ∧ LiesL w B ks b o)
theorem LiesT.of {w : World} {B : Nat} : ∀ {t : Nd} {v : Value}, Lies w B t v → LiesT w B t v
  | .mk k s n a ks, v, h => by
    unfold Lies at h
    unfold LiesT
    obtain ⟨A, cap, h1, h2, h3, h4, _, h6, h7, h8⟩ := h
    exact ⟨A, cap, h1, h2, h3, h4, h6, h7, h8⟩
theorem LiesT.up {w W : World} : ∀ {t : Nd} {v : Value}, LiesT w w.heap.size t v → Below w.heap.size w W → LiesT W W.heap.size t v
  | .mk k s n a ks, v, h, hb => by
    unfold LiesT at h ⊢
    obtain ⟨A, cap, h1, h2, h3, h4, h6, h7, h8⟩ := h
    refine ⟨A, cap, h1, h2, h3, h4, h6, h7, ?_⟩
    rcases h8 with h8 | ⟨b, o, hA, hlt, hl⟩
    · exact .inl h8
    · exact .inr ⟨b, o, hA, Nat.lt_of_lt_of_le hlt hb.size, hl.up hlt hb⟩

set_option maxRecDepth 100000 in
set_option maxHeartbeats 400000 in
theorem count_top : ∀ (t : Nd) (v : Value) (left : Int) (w : World), LiesT w w.heap.size t v → 0 ≤ left → left ≤ 1000000 →
    Calls Tryz.prog 26 #[v, .int .i64 left] w fun e w' => e = .returned (.int .i64 (t.count left)) ∧ Below w.heap.size w w' := by
  rintro ⟨k, s, n, a, ks⟩ v left w hl h0 h1
  have ih : ∀ x ∈ ks, ∀ (v : Value) (left : Int) (w : World), Lies w w.heap.size x v → 0 ≤ left → left ≤ 1000000 → Calls Tryz.prog 26 #[v, .int .i64 left] w fun e w' => e = .returned (.int .i64 (x.count left)) ∧ Below w.heap.size w w' := fun x _ => count_any x
  unfold LiesT at hl
  obtain ⟨A, cap, rfl, hk, hn, ha, hlc, hcap, hl⟩ := hl
  clear hk hn ha
  have IH := Lib.hid ih
  clear ih
  have HL := Lib.hid hl
  clear hl
  go_enter Tryz.func26, Tryz.ntmps26
  go_wp2
  go_loopw [5, 11] (fun many i wr => ∃ (j : Nat) (m : Int), j ≤ ks.length ∧ i = .int .i64 j ∧ many = .int .i64 m ∧ 1 ≤ m ∧ m ≤ left + 1 ∧ countL (ks.drop j) left m = countL ks left 1 ∧ Below w.heap.size w wr) (fun _ i _ => ks.length - (intOf i).toNat)
  case atStart => exact ⟨0, 1, by omega, rfl, rfl, by omega, by omega, by simp, (Below.refl _ _).alloc (Nat.le_refl _) _⟩
  case round =>
    obtain ⟨j, m, hj, rfl, rfl, hm1, hm2, hc, hb⟩ := hrel
    have HC := Lib.hid hc
    clear hc
    by_cases hlt : j < ks.length
    · rcases HL.out with h | ⟨b, o, rfl, hbl, hLL⟩
      · subst h; simp at hlt
      obtain ⟨k', s', n', a', A', cap', ks', ht, d0, d1, d2, d3, d4, hLt⟩ := LiesL.get j hlt (LiesL.below hb hbl hLL)
      have HLt := Lib.hid hLt
      have HT := Lib.hid ht
      have HLL := Lib.hid hLL
      clear hLt ht hLL
      have hd : countL (ks.drop j) left m = if left < m then m else countL (ks.drop (j + 1)) left (m + (Nd.mk k' s' n' a' ks').count (left - m)) := by
        rw [drop_cons HT.out]; rfl
      by_cases hml : left < m
      · have hfin : m = (Nd.mk k s n a ks).count left := by
          unfold Nd.count; rw [← HC.out, hd, if_pos hml]; omega
        have HF := Lib.hid hfin
        clear hfin hd
        go_wp2_with fail
        go_ret
        exact ⟨ret_int HF.out, hb.alloc hb.size _⟩
      · have hbd := Nd.count_bd (.mk k' s' n' a' ks') (left - m) (by omega)
        have hd' : countL (ks.drop (j + 1)) left (m + (Nd.mk k' s' n' a' ks').count (left - m)) = countL ks left 1 := by rw [← HC.out, hd, if_neg hml]
        have HD := Lib.hid hd'
        clear hd hd'
        go_wp2_with fail
        refine (IH.out _ (List.mem_of_getElem? HT.out) _ _ _ ((HLt.out.more hb.size).below ((Below.refl _ _).alloc (Nat.le_refl _) _) |>.more (by simp)) (by omega) (by omega)).mono ?_
        rintro e w' ⟨rfl, hb'⟩
        obtain ⟨q, hq⟩ : ∃ q, (Nd.mk k' s' n' a' ks').count (left - m) = q := ⟨_, rfl⟩
        rw [hq] at hbd HD ⊢
        clear hq
        go_wp2_with fail
        go_roundw
        case rel => exact ⟨j + 1, m + q, by omega, by go_num, rfl, by omega, by omega, HD.out, (hb.alloc hb.size _).trans (hb'.mono (by have := hb.size; simp; omega))⟩
        case measure => simp [intOf]; omega
    · have hj' : j = ks.length := by omega
      have hfin : min m (left + 1) = (Nd.mk k s n a ks).count left := by
        unfold Nd.count; rw [← HC.out, hj', List.drop_length]; rfl
      have HF := Lib.hid hfin
      clear hfin hj'
      go_wp2_with fail
      go_ret
      exact ⟨ret_int (by rw [← HF.out]; omega), hb⟩

set_option maxRecDepth 100000 in
set_option maxHeartbeats 800000 in
theorem same_top : ∀ (t : Nd) (u : Nd) (v v' : Value) (w : World), Lies w w.heap.size t v → LiesT w w.heap.size u v' →
    Calls Tryz.prog 25 #[v, v'] w fun e w' => e = .returned (.bool (t.same u)) ∧ Below w.heap.size w w' := by
  rintro ⟨k, s, n, a, ks⟩ ⟨k', s', n', a', ks'⟩ v v' w hl hl'
  have ih : ∀ x ∈ ks, ∀ (u : Nd) (v v' : Value) (w : World), Lies w w.heap.size x v → Lies w w.heap.size u v' → Calls Tryz.prog 25 #[v, v'] w fun e w' => e = .returned (.bool (x.same u)) ∧ Below w.heap.size w w' := fun x _ => same_any x
  unfold Lies at hl
  unfold LiesT at hl'
  obtain ⟨A, cap, rfl, hk, hn, ha, hs, hlc, hcap, hl⟩ := hl
  obtain ⟨A', cap', rfl, hk', hn', ha', hlc', hcap', hl'⟩ := hl'
  clear hk hn ha hs hk' hn' ha'
  have IH := Lib.hid ih
  clear ih
  have HL := Lib.hid hl
  have HL' := Lib.hid hl'
  clear hl hl'
  have fin0 : ∀ X : World, X = (w.alloc (.cells #[.int .i64 k, .string s, .int .i64 n, .int .i64 a, .slice A ks.length cap] 24)).alloc (.cells #[.int .i64 k', .string s', .int .i64 n', .int .i64 a', .slice A' ks'.length cap'] 24) → Below w.heap.size w X := by
    rintro X rfl
    exact ((Below.refl _ _).alloc (Nat.le_refl _) _).alloc (by simp) _
  have FIN := Lib.hid fin0
  clear fin0
  by_cases e1 : ¬ k = k'
  · have HF : Hid ((Nd.mk k s n a ks).same (.mk k' s' n' a' ks') = false) := by simp [Hid, Nd.same, e1]
    have e1' : (k == k') = false := by simp [e1]
    have e1'' : (k != k') = true := by simp [e1]
    clear e1
    go_enter Tryz.func25, Tryz.ntmps25
    go_wp2_with fail
    go_ret
    exact ⟨ret_bool HF.out.symm, FIN.out _ rfl⟩
  have e1 : k = k' := Decidable.not_not.1 e1
  subst e1
  by_cases e2 : ¬ s.toList = s'.toList
  · have HF : Hid ((Nd.mk k s n a ks).same (.mk k s' n' a' ks') = false) := by simp [Hid, Nd.same, e2]
    have e2' : (s.toList == s'.toList) = false := by simp [e2]
    clear e2
    go_enter Tryz.func25, Tryz.ntmps25
    go_wp2_with fail
    go_ret
    exact ⟨ret_bool HF.out.symm, FIN.out _ rfl⟩
  have e2 : s = s' := by
    have := Decidable.not_not.1 e2
    exact toList_inj this
  subst e2
  by_cases e3 : ¬ n = n'
  · have HF : Hid ((Nd.mk k s n a ks).same (.mk k s n' a' ks') = false) := by simp [Hid, Nd.same, e3]
    have e3' : (n == n') = false := by simp [e3]
    have e3'' : (n != n') = true := by simp [e3]
    clear e3
    go_enter Tryz.func25, Tryz.ntmps25
    go_wp2_with fail
    go_ret
    exact ⟨ret_bool HF.out.symm, FIN.out _ rfl⟩
  have e3 : n = n' := Decidable.not_not.1 e3
  subst e3
  by_cases e4 : ¬ ks.length = ks'.length
  · have HF : Hid ((Nd.mk k s n a ks).same (.mk k s n a' ks') = false) := by simp [Hid, Nd.same, e4]
    have e4' : ((ks.length : Int) == (ks'.length : Int)) = false := by simp; omega
    have e4'' : ((ks.length : Int) != (ks'.length : Int)) = true := by simp; omega
    clear e4
    go_enter Tryz.func25, Tryz.ntmps25
    go_wp2_with fail
    go_ret
    exact ⟨ret_bool HF.out.symm, FIN.out _ rfl⟩
  have e4 : ks.length = ks'.length := Decidable.not_not.1 e4
  have HS : Hid ((Nd.mk k s n a ks).same (.mk k s n a' ks') = sameL ks ks') := by simp [Hid, Nd.same, e4]
  have E4 := Lib.hid e4
  have e4' : ((ks.length : Int) == (ks'.length : Int)) = true := by simp; omega
  have e4'' : ((ks.length : Int) != (ks'.length : Int)) = false := by simp; omega
  clear e4
  go_enter Tryz.func25, Tryz.ntmps25
  go_wp2_with fail
  go_loopw [37] (fun i wr => ∃ j : Nat, j ≤ ks.length ∧ i = .int .i64 j ∧ sameL (ks.drop j) (ks'.drop j) = sameL ks ks' ∧ Below w.heap.size w wr ∧ wr.cell? ⟨w.heap.size, 4, none⟩ = some (.slice A ks.length cap) ∧ wr.cell? ⟨w.heap.size + 1, 4, none⟩ = some (.slice A' ks'.length cap') ∧ w.heap.size + 1 < wr.heap.size) (fun i _ => ks.length - (intOf i).toNat)
  case atStart => exact ⟨0, by omega, rfl, by simp, FIN.out _ rfl, by simp, by simp, by simp⟩
  case round =>
    obtain ⟨j, hj, rfl, hc, hb, hbox, hbox', hsz⟩ := hrel
    have HC := Lib.hid hc
    clear hc
    by_cases hlt : j < ks.length
    · have hlt' : j < ks'.length := by rw [← E4.out]; exact hlt
      rcases HL.out with h | ⟨b, o, rfl, hbl, hLL⟩
      · subst h; simp at hlt
      rcases HL'.out with h | ⟨b', o', rfl, hbl', hLL'⟩
      · subst h; simp at hlt'
      obtain ⟨xk, xs, xn, xa, xA, xc, xks, ht, d0, d1, d2, d3, d4, hLt⟩ := LiesL.get j hlt (LiesL.below hb hbl hLL)
      obtain ⟨yk, ys, yn, ya, yA, yc, yks, ht', f0, f1, f2, f3, f4, hLt'⟩ := LiesL.get j hlt' (LiesL.below hb hbl' hLL')
      have hd : sameL (ks.drop j) (ks'.drop j) = ((Nd.mk xk xs xn xa xks).same (.mk yk ys yn ya yks) && sameL (ks.drop (j + 1)) (ks'.drop (j + 1))) := by
        rw [drop_cons ht, drop_cons ht']; rfl
      have HX := Lib.hid (hLt.more hb.size)
      have HY := Lib.hid (hLt'.more hb.size)
      have HT := Lib.hid ht
      have HD := Lib.hid hd
      have HLL := Lib.hid hLL
      have HLL' := Lib.hid hLL'
      clear hLt hLt' ht ht' hLL hLL' hd
      have i0 : (0 : Int) ≤ (j : Int) := by omega
      have i1 : (j : Int) < (ks.length : Int) := by omega
      have i2 : (j : Int) < (ks'.length : Int) := by omega
      have hwb : w.heap.size < wr.heap.size := by omega
      have hbb : b < wr.heap.size := by omega
      have hbb' : b' < wr.heap.size := by omega
      go_wp2_with fail
      go_region_held3 (fun w' => w'.cell? ⟨w.heap.size, 4, none⟩ = some (.slice (some ⟨b, o, none⟩) ks.length cap) ∧ w'.cell? ⟨w.heap.size + 1, 4, none⟩ = some (.slice (some ⟨b', o', none⟩) ks'.length cap') ∧
        w'.cell? ⟨b, o + j * 5, none⟩ = some (.int .i64 xk) ∧ w'.cell? ⟨b, o + j * 5 + 1, none⟩ = some (.string xs) ∧ w'.cell? ⟨b, o + j * 5 + 2, none⟩ = some (.int .i64 xn) ∧ w'.cell? ⟨b, o + j * 5 + 3, none⟩ = some (.int .i64 xa) ∧ w'.cell? ⟨b, o + j * 5 + 4, none⟩ = some (.slice xA xks.length xc) ∧
        w'.cell? ⟨b', o' + j * 5, none⟩ = some (.int .i64 yk) ∧ w'.cell? ⟨b', o' + j * 5 + 1, none⟩ = some (.string ys) ∧ w'.cell? ⟨b', o' + j * 5 + 2, none⟩ = some (.int .i64 yn) ∧ w'.cell? ⟨b', o' + j * 5 + 3, none⟩ = some (.int .i64 ya) ∧ w'.cell? ⟨b', o' + j * 5 + 4, none⟩ = some (.slice yA yks.length yc))
        (first | (go_keep; done) | (refine ⟨?_, ?_, ?_, ?_, ?_, ?_, ?_, ?_, ?_, ?_, ?_, ?_⟩ <;> exact (hc3 _ _ (by omega)).trans (by assumption)))
        ((go_at_call 25; refine (IH.out _ (List.mem_of_getElem? HT.out) (.mk yk ys yn ya yks) _ _ _ (by exact HX.out.below (Below.drew (Below.refl _ _))) (by exact HY.out.below (Below.drew (Below.refl _ _)))).mono ?_; rintro e w2 ⟨rfl, hb2⟩; have hc3 : ∀ b o, b < wr.heap.size → w2.cell? ⟨b, o, none⟩ = wr.cell? ⟨b, o, none⟩ := fun b o h => hb2.cell (p := ⟨b, o, none⟩) h))
      have hcb : w2.cell? ⟨w.heap.size, 4, none⟩ = some (.slice (some ⟨b, o, none⟩) ks.length cap) := (hc3 _ _ (by omega)).trans hbox
      have hcb' : w2.cell? ⟨w.heap.size + 1, 4, none⟩ = some (.slice (some ⟨b', o', none⟩) ks'.length cap') := (hc3 _ _ (by omega)).trans hbox'
      have hb3 : Below w.heap.size w w2 := hb.trans ((of_drew hb2).mono hb.size)
      have hsz3 : w.heap.size + 1 < w2.heap.size := Nat.lt_of_lt_of_le hsz (of_drew hb2).size
      clear hc3 hb2 d0 d1 d2 d3 d4 f0 f1 f2 f3 f4 hbox hbox' HX HY
      obtain ⟨q, hq⟩ : ∃ q, (Nd.mk xk xs xn xa xks).same (.mk yk ys yn ya yks) = q := ⟨_, rfl⟩
      rw [hq] at HD ⊢
      clear hq
      cases q
      · go_wp2_with fail
        go_ret
        exact ⟨ret_bool (by rw [HS.out, ← HC.out, HD.out]; rfl), hb3⟩
      · go_wp2_with fail
        go_roundw
        case rel => exact ⟨j + 1, by omega, by go_num, by rw [← HC.out, HD.out]; rfl, hb3, hcb, hcb', hsz3⟩
        case measure => simp [intOf]; omega
    · have hj' : j = ks.length := by omega
      have hfin : sameL ks ks' = true := by rw [← HC.out, hj', List.drop_length]; rfl
      have HF := Lib.hid hfin
      clear hfin hj'
      go_wp2_with fail
      go_ret
      exact ⟨ret_bool (by rw [HS.out, HF.out]), hb⟩

set_option maxRecDepth 100000 in
set_option maxHeartbeats 400000 in
theorem Count_top (t : Nd) (v : Value) (w : World) (h : LiesT w w.heap.size t v) :
    Calls Tryz.prog 10 #[v] w fun e w' => e = .returned (.int .i64 (t.count 1000000)) ∧ Below w.heap.size w w' := by
  have HX := Lib.hid h
  obtain ⟨k, s, n, a, ks⟩ := t
  unfold LiesT at h
  obtain ⟨A, cap, rfl, -⟩ := h
  go_enter Tryz.func10, Tryz.ntmps10
  go_wp2_with fail
  refine (count_top _ _ _ _ (HX.out.up ((Below.refl _ _).alloc (Nat.le_refl _) _)) (by omega) (by omega)).mono ?_
  rintro e w' ⟨rfl, hb⟩
  go_wp2_with fail
  go_ret
  exact ⟨rfl, ((Below.refl _ _).alloc (Nat.le_refl _) _).trans (hb.mono (by simp))⟩

set_option maxRecDepth 100000 in
set_option maxHeartbeats 1600000 in
theorem Same_top (t u : Nd) (v v' : Value) (w : World) (h : Lies w w.heap.size t v) (h' : LiesT w w.heap.size u v') :
    Calls Tryz.prog 9 #[v, v'] w fun e w' => e = .returned (.bool (t.Same u)) ∧ Below w.heap.size w w' := by
  have HX := Lib.hid h
  have HY := Lib.hid h'
  obtain ⟨k, s, n, a, ks⟩ := t
  obtain ⟨k', s', n', a', ks'⟩ := u
  unfold Lies at h
  unfold LiesT at h'
  obtain ⟨A, cap, rfl, -⟩ := h
  obtain ⟨A', cap', rfl, -⟩ := h'
  go_enter Tryz.func9, Tryz.ntmps9
  go_wp2_with fail
  obtain ⟨w1, hw1⟩ : ∃ w1, (w.alloc (.cells #[.int .i64 k, .string s, .int .i64 n, .int .i64 a, .slice A ks.length cap] 24)).alloc (.cells #[.int .i64 k', .string s', .int .i64 n', .int .i64 a', .slice A' ks'.length cap'] 24) = w1 := ⟨_, rfl⟩
  have hb1 : Below w.heap.size w w1 := by rw [← hw1]; exact ((Below.refl _ _).alloc (Nat.le_refl _) _).alloc (by simp) _
  have hs1 : w.heap.size + 1 < w1.heap.size := by rw [← hw1]; simp
  have p0 : w1.cell? ⟨w.heap.size, 0, none⟩ = some (.int .i64 k) := by rw [← hw1]; simp
  have p1 : w1.cell? ⟨w.heap.size, 1, none⟩ = some (.string s) := by rw [← hw1]; simp
  have p2 : w1.cell? ⟨w.heap.size, 2, none⟩ = some (.int .i64 n) := by rw [← hw1]; simp
  have p3 : w1.cell? ⟨w.heap.size, 3, none⟩ = some (.int .i64 a) := by rw [← hw1]; simp
  have p4 : w1.cell? ⟨w.heap.size, 4, none⟩ = some (.slice A ks.length cap) := by rw [← hw1]; simp
  have q0 : w1.cell? ⟨w.heap.size + 1, 0, none⟩ = some (.int .i64 k') := by rw [← hw1]; simp
  have q1 : w1.cell? ⟨w.heap.size + 1, 1, none⟩ = some (.string s') := by rw [← hw1]; simp
  have q2 : w1.cell? ⟨w.heap.size + 1, 2, none⟩ = some (.int .i64 n') := by rw [← hw1]; simp
  have q3 : w1.cell? ⟨w.heap.size + 1, 3, none⟩ = some (.int .i64 a') := by rw [← hw1]; simp
  have q4 : w1.cell? ⟨w.heap.size + 1, 4, none⟩ = some (.slice A' ks'.length cap') := by rw [← hw1]; simp
  rw [hw1]
  clear hw1
  have K : ∀ W, Below w1.heap.size w1 W → Below w1.heap.size w1 W ∧ W.cell? ⟨w.heap.size, 0, none⟩ = some (.int .i64 k) ∧ W.cell? ⟨w.heap.size, 1, none⟩ = some (.string s) ∧ W.cell? ⟨w.heap.size, 2, none⟩ = some (.int .i64 n) ∧ W.cell? ⟨w.heap.size, 3, none⟩ = some (.int .i64 a) ∧ W.cell? ⟨w.heap.size, 4, none⟩ = some (.slice A ks.length cap) ∧
      W.cell? ⟨w.heap.size + 1, 0, none⟩ = some (.int .i64 k') ∧ W.cell? ⟨w.heap.size + 1, 1, none⟩ = some (.string s') ∧ W.cell? ⟨w.heap.size + 1, 2, none⟩ = some (.int .i64 n') ∧ W.cell? ⟨w.heap.size + 1, 3, none⟩ = some (.int .i64 a') ∧ W.cell? ⟨w.heap.size + 1, 4, none⟩ = some (.slice A' ks'.length cap') := fun W hW => by
    have hc : ∀ b o, b < w1.heap.size → W.cell? ⟨b, o, none⟩ = w1.cell? ⟨b, o, none⟩ := fun b o h => hW.cell (p := ⟨b, o, none⟩) h
    refine ⟨hW, ?_, ?_, ?_, ?_, ?_, ?_, ?_, ?_, ?_, ?_⟩ <;> exact (hc _ _ (by omega)).trans (by assumption)
  have K' := Lib.hid K
  clear K
  go_region_held3 (fun W => Below w1.heap.size w1 W ∧ W.cell? ⟨w.heap.size, 0, none⟩ = some (.int .i64 k) ∧ W.cell? ⟨w.heap.size, 1, none⟩ = some (.string s) ∧ W.cell? ⟨w.heap.size, 2, none⟩ = some (.int .i64 n) ∧ W.cell? ⟨w.heap.size, 3, none⟩ = some (.int .i64 a) ∧ W.cell? ⟨w.heap.size, 4, none⟩ = some (.slice A ks.length cap) ∧
      W.cell? ⟨w.heap.size + 1, 0, none⟩ = some (.int .i64 k') ∧ W.cell? ⟨w.heap.size + 1, 1, none⟩ = some (.string s') ∧ W.cell? ⟨w.heap.size + 1, 2, none⟩ = some (.int .i64 n') ∧ W.cell? ⟨w.heap.size + 1, 3, none⟩ = some (.int .i64 a') ∧ W.cell? ⟨w.heap.size + 1, 4, none⟩ = some (.slice A' ks'.length cap'))
    (first
      | exact K'.out _ ((Below.refl _ _).drew)
      | exact K'.out _ hB2)
    (first
      | (go_at_call 10; (with_reducible refine (Count_any (.mk k s n a ks) _ _ ?_).mono ?_); (refine (HX.out.up hb1).up ?_); (apply And.left; assumption); rintro e w2 ⟨rfl, hb2⟩; have hB2 : Below w1.heap.size w1 w2 := (by (refine below_step ?_ hb2); apply And.left; assumption))
      | (go_at_call 10; (with_reducible refine (Count_top (.mk k' s' n' a' ks') _ _ ?_).mono ?_); (refine (HY.out.up hb1).up ?_); (apply And.left; assumption); rintro e w2 ⟨rfl, hb2⟩; have hB2 : Below w1.heap.size w1 w2 := (by (refine below_step ?_ hb2); apply And.left; assumption)))
  have hB : Below w1.heap.size w1 w2 := hB2
  obtain ⟨-, r0, r1, r2, r3, r4, r5, r6, r7, r8, r9⟩ := K'.out _ hB
  have hL : Below w.heap.size w w2 := hb1.trans (hB.mono hb1.size)
  have HX2 := Lib.hid (HX.out.up hL)
  have HY2 := Lib.hid (HY.out.up hL)
  clear hB hb2 p0 p1 p2 p3 p4 q0 q1 q2 q3 q4 K' HX HY
  have hS : (Nd.mk k s n a ks).Same (.mk k' s' n' a' ks') = (decide ((Nd.mk k s n a ks).count 1000000 ≤ 1000000) && (Nd.mk k s n a ks).count 1000000 == (Nd.mk k' s' n' a' ks').count 1000000 && (Nd.mk k s n a ks).same (.mk k' s' n' a' ks')) := rfl
  have HS := Lib.hid hS
  clear hS
  obtain ⟨x, hx⟩ : ∃ x, (Nd.mk k s n a ks).count 1000000 = x := ⟨_, rfl⟩
  obtain ⟨y, hy⟩ : ∃ y, (Nd.mk k' s' n' a' ks').count 1000000 = y := ⟨_, rfl⟩
  rw [hx, hy] at HS
  rw [hx, hy]
  clear hx hy
  by_cases h1 : x ≤ 1000000
  · by_cases h2 : x = y
    · have h2' : (x == y) = true := by simp [h2]
      have h1' : decide (x ≤ 1000000) = true := by simp [h1]
      have HF : Hid ((Nd.mk k s n a ks).Same (.mk k' s' n' a' ks') = (Nd.mk k s n a ks).same (.mk k' s' n' a' ks')) := by rw [Hid, HS.out, h2', h1']; simp
      clear h2 h1'
      go_wp2_with fail
      refine (same_top _ _ _ _ _ HX2.out HY2.out).mono ?_
      rintro e w3 ⟨rfl, hb3⟩
      obtain ⟨q, hq⟩ : ∃ q, (Nd.mk k s n a ks).same (.mk k' s' n' a' ks') = q := ⟨_, rfl⟩
      rw [hq] at HF ⊢
      clear hq
      go_wp2_with fail
      go_ret
      exact ⟨ret_bool HF.out.symm, below_step hL hb3⟩
    · have h2' : (x == y) = false := by simp [h2]
      have HF : Hid ((Nd.mk k s n a ks).Same (.mk k' s' n' a' ks') = false) := by rw [Hid, HS.out, h2']; simp
      clear h2
      go_wp2_with fail
      go_ret
      exact ⟨ret_bool HF.out.symm, hL⟩
  · have HF : Hid ((Nd.mk k s n a ks).Same (.mk k' s' n' a' ks') = false) := by rw [Hid, HS.out]; simp [h1]
    go_wp2_with fail
    go_ret
    exact ⟨ret_bool HF.out.symm, hL⟩

end Go.Proofs.YtjpmghgmmeemkaaGreatDoor
