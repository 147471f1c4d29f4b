/- The printer: a case. The printer: the cases of a switch. -/
import Derived.Test.YtjpmghgmmeemkaaGreatDoorPrE
namespace Go.Proofs.YtjpmghgmmeemkaaGreatDoor
open Go.RowKit

/-- Expressions with commas. -/
noncomputable def rowE : Bool → List Nd → Int → WX → WX
  | _, [], _, x => x
  | first, c :: r, inn, x => rowE false r inn (exprF c false inn false (if first then x else putL x [⟨#[44, 32]⟩]))

set_option maxHeartbeats 4000000 in
set_option maxRecDepth 100000 in
theorem oneCase_default {k : Int} {s : ByteArray} {n : Int} {y0 y1 : Nd} {ys : List Nd} (h0 : y0.kind = 16) (hc1 : ∀ y ∈ y1.kids, CanS y) (t : Nd) (htc : t.strip = .mk k s n 0 (y0 :: y1 :: ys)) (v : Value) (inn : Int) (x : WX) (bp : Nat) (w : World) (hi : okI inn) (h : PrAt bp x.1 x.2 w) (hlen : x.1.length ≤ 60000) (hl : Lies w bp t v) :
    Calls Tryz.prog 53 #[.pointer (some ⟨bp, 0, none⟩), v, .int .i64 inn] w (WrPost bp (linesF y1.kids (wrap64 (inn + 1)) (putL (tabs inn.toNat x) [⟨#[100, 101, 102, 97, 117, 108, 116, 58, 10]⟩])) w) := by
  have HTC := Lib.hid htc
  have HL := Lib.hid hl
  obtain ⟨k', s', n', a, ks⟩ := t
  obtain ⟨rfl, rfl, rfl, hks⟩ := strip_mk htc
  obtain ⟨⟨k0, s0, n0, a0, ks0⟩, tr0, rfl, hy0, hks⟩ := stripL_cons hks
  have HY0 := Lib.hid hy0
  clear hy0
  obtain ⟨⟨k1, s1, n1, a1, ks1⟩, tr1, rfl, hy1, hks⟩ := stripL_cons hks
  have HY1 := Lib.hid hy1
  clear hy1
  have HKS := Lib.hid hks
  unfold Lies at hl
  obtain ⟨A, cap, rfl, _, _, _, hsz, hcl, hcc, hkl⟩ := hl
  obtain ⟨b, o, rfl, hbl, hkl⟩ := kids_some hkl
  obtain ⟨A0, cap0, hKC0, hL0⟩ := LiesL.kid0 rfl hkl
  have KC0 := Lib.hid hKC0
  have HL0 := Lib.hid hL0
  have hsz0 := hL0.size
  clear hKC0 hL0
  obtain ⟨A1, cap1, hKC1, hL1⟩ := LiesL.kidm 1 5 rfl rfl hkl
  have KC1 := Lib.hid hKC1
  have HL1 := Lib.hid hL1
  have hsz1 := hL1.size
  clear hKC1 hL1
  have HKL := Lib.hid hkl
  have hs := PSt.init h hlen #[.int .i64 k, .string s, .int .i64 n, .int .i64 a, .slice (some ⟨b, o, none⟩) (.mk k0 s0 n0 a0 ks0 :: .mk k1 s1 n1 a1 ks1 :: tr1 : List Nd).length cap]
  simp only [List.length_cons] at hcl hs ⊢
  have c0 := hs.at_ (List.mem_cons_self ..) 0 rfl
  have c1 := hs.at_ (List.mem_cons_self ..) 1 rfl
  have c2 := hs.at_ (List.mem_cons_self ..) 2 rfl
  have c3 := hs.at_ (List.mem_cons_self ..) 3 rfl
  have c4 := hs.at_ (List.mem_cons_self ..) 4 rfl
  have d00 := hs.kid hbl KC0.out.1
  have d01 := hs.kid hbl KC0.out.2.1
  have d02 := hs.kid hbl KC0.out.2.2.1
  have d03 := hs.kid hbl KC0.out.2.2.2.1
  have d04 := hs.kid hbl KC0.out.2.2.2.2
  have d10 := hs.kid hbl KC1.out.1
  have d11 := hs.kid hbl KC1.out.2.1
  have d12 := hs.kid hbl KC1.out.2.2.1
  have d13 := hs.kid hbl KC1.out.2.2.2.1
  have d14 := hs.kid hbl KC1.out.2.2.2.2
  have HS := Lib.hid hs
  clear h hs htc hks hkl
  have b0 : (0 : Int) < (tr1.length : Int) + 1 + 1 := by omega
  have b1 : (1 : Int) < (tr1.length : Int) + 1 + 1 := by omega
  have hk0 : k0 = 16 := by have h := h0; rw [← HY0.out, strip_kind] at h; exact h
  subst hk0
  clear h0
  go_enter Tryz.func53, Tryz.ntmps53
  go_wp2_with (first
      | (go_at_call 76; refine (HS.out.call (line_any inn _ bp _ HS.out.pr HS.out.len hi)).mono ?_; clear HS; rintro e w1 ⟨rfl, hh⟩
         have c0 := hh.at_ (List.mem_cons_self ..) 0 rfl
         have c1 := hh.at_ (List.mem_cons_self ..) 1 rfl
         have c2 := hh.at_ (List.mem_cons_self ..) 2 rfl
         have c3 := hh.at_ (List.mem_cons_self ..) 3 rfl
         have c4 := hh.at_ (List.mem_cons_self ..) 4 rfl
         have d00 := hh.kid hbl KC0.out.1
         have d01 := hh.kid hbl KC0.out.2.1
         have d02 := hh.kid hbl KC0.out.2.2.1
         have d03 := hh.kid hbl KC0.out.2.2.2.1
         have d04 := hh.kid hbl KC0.out.2.2.2.2
         have d10 := hh.kid hbl KC1.out.1
         have d11 := hh.kid hbl KC1.out.2.1
         have d12 := hh.kid hbl KC1.out.2.2.1
         have d13 := hh.kid hbl KC1.out.2.2.2.1
         have d14 := hh.kid hbl KC1.out.2.2.2.2
         have HS1 := Lib.hid hh
         clear hh)
      | (go_at_call 49; refine (HS1.out.put1 ⟨#[100, 101, 102, 97, 117, 108, 116, 58, 10]⟩ (by decide)).mono ?_; clear HS1; rintro e w2 ⟨rfl, hh⟩
         have c0 := hh.at_ (List.mem_cons_self ..) 0 rfl
         have c1 := hh.at_ (List.mem_cons_self ..) 1 rfl
         have c2 := hh.at_ (List.mem_cons_self ..) 2 rfl
         have c3 := hh.at_ (List.mem_cons_self ..) 3 rfl
         have c4 := hh.at_ (List.mem_cons_self ..) 4 rfl
         have d00 := hh.kid hbl KC0.out.1
         have d01 := hh.kid hbl KC0.out.2.1
         have d02 := hh.kid hbl KC0.out.2.2.1
         have d03 := hh.kid hbl KC0.out.2.2.2.1
         have d04 := hh.kid hbl KC0.out.2.2.2.2
         have d10 := hh.kid hbl KC1.out.1
         have d11 := hh.kid hbl KC1.out.2.1
         have d12 := hh.kid hbl KC1.out.2.2.1
         have d13 := hh.kid hbl KC1.out.2.2.2.1
         have d14 := hh.kid hbl KC1.out.2.2.2.2
         have HS2 := Lib.hid hh
         clear hh)
      | (go_at_call 77; refine (HS2.out.call (lines_any _ (by rw [HY1.out]; exact hc1) _ (wrap64 (inn + 1)) _ bp _ (okI_wrap _) HS2.out.pr HS2.out.len (HS2.out.lies HL1.out))).mono ?_; rintro e w3 ⟨rfl, hf⟩))
  go_end0
  rw [HY1.out] at hf
  exact hf.fin

set_option maxHeartbeats 4000000 in
set_option maxRecDepth 100000 in
theorem oneCase_some {k : Int} {s : ByteArray} {n : Int} {y0 y1 : Nd} {ys : List Nd} (hn0 : y0.kind ≠ 16) (h0 : ∀ y ∈ y0.kids, CanB y) (hc1 : ∀ y ∈ y1.kids, CanS y) (t : Nd) (htc : t.strip = .mk k s n 0 (y0 :: y1 :: ys)) (v : Value) (inn : Int) (x : WX) (bp : Nat) (w : World) (hi : okI inn) (h : PrAt bp x.1 x.2 w) (hlen : x.1.length ≤ 60000) (hl : Lies w bp t v) :
    Calls Tryz.prog 53 #[.pointer (some ⟨bp, 0, none⟩), v, .int .i64 inn] w (WrPost bp (linesF y1.kids (wrap64 (inn + 1)) (putL (rowE true y0.kids inn (putL (tabs inn.toNat x) [⟨#[99, 97, 115, 101, 32]⟩])) [⟨#[58, 10]⟩])) w) := by
  have HTC := Lib.hid htc
  have HL := Lib.hid hl
  obtain ⟨k', s', n', a, ks⟩ := t
  obtain ⟨rfl, rfl, rfl, hks⟩ := strip_mk htc
  obtain ⟨⟨k0, s0, n0, a0, ks0⟩, tr0, rfl, hy0, hks⟩ := stripL_cons hks
  have HY0 := Lib.hid hy0
  clear hy0
  obtain ⟨⟨k1, s1, n1, a1, ks1⟩, tr1, rfl, hy1, hks⟩ := stripL_cons hks
  have HY1 := Lib.hid hy1
  clear hy1
  have HKS := Lib.hid hks
  unfold Lies at hl
  obtain ⟨A, cap, rfl, _, _, _, hsz, hcl, hcc, hkl⟩ := hl
  obtain ⟨b, o, rfl, hbl, hkl⟩ := kids_some hkl
  obtain ⟨A0, cap0, hKC0, hL0⟩ := LiesL.kid0 rfl hkl
  have KC0 := Lib.hid hKC0
  have HL0 := Lib.hid hL0
  have hsz0 := hL0.size
  clear hKC0 hL0
  obtain ⟨A1, cap1, hKC1, hL1⟩ := LiesL.kidm 1 5 rfl rfl hkl
  have KC1 := Lib.hid hKC1
  have HL1 := Lib.hid hL1
  have hsz1 := hL1.size
  clear hKC1 hL1
  have HKL := Lib.hid hkl
  have hs := PSt.init h hlen #[.int .i64 k, .string s, .int .i64 n, .int .i64 a, .slice (some ⟨b, o, none⟩) (.mk k0 s0 n0 a0 ks0 :: .mk k1 s1 n1 a1 ks1 :: tr1 : List Nd).length cap]
  simp only [List.length_cons] at hcl hs ⊢
  have c0 := hs.at_ (List.mem_cons_self ..) 0 rfl
  have c1 := hs.at_ (List.mem_cons_self ..) 1 rfl
  have c2 := hs.at_ (List.mem_cons_self ..) 2 rfl
  have c3 := hs.at_ (List.mem_cons_self ..) 3 rfl
  have c4 := hs.at_ (List.mem_cons_self ..) 4 rfl
  have d00 := hs.kid hbl KC0.out.1
  have d01 := hs.kid hbl KC0.out.2.1
  have d02 := hs.kid hbl KC0.out.2.2.1
  have d03 := hs.kid hbl KC0.out.2.2.2.1
  have d04 := hs.kid hbl KC0.out.2.2.2.2
  have d10 := hs.kid hbl KC1.out.1
  have d11 := hs.kid hbl KC1.out.2.1
  have d12 := hs.kid hbl KC1.out.2.2.1
  have d13 := hs.kid hbl KC1.out.2.2.2.1
  have d14 := hs.kid hbl KC1.out.2.2.2.2
  have HS := Lib.hid hs
  clear h hs htc hks hkl
  have b0 : (0 : Int) < (tr1.length : Int) + 1 + 1 := by omega
  have b1 : (1 : Int) < (tr1.length : Int) + 1 + 1 := by omega
  have hl0 := HL0.out
  unfold Lies at hl0
  obtain ⟨A0', cap0', hv0, _, _, _, _, hcl0, hcc0, hkl0⟩ := hl0
  obtain ⟨rfl, rfl⟩ : A0 = A0' ∧ cap0 = cap0' := by simpa using hv0
  have HKK := Lib.hid hkl0
  clear hkl0 hv0
  have hc0' : ∀ y ∈ stripL ks0, CanB y := by have h := h0; rw [← HY0.out] at h; exact h
  have HC := Lib.hid hc0'
  clear hc0' h0
  have hk0 : (k0 == 16) = false := by have h := hn0; rw [← HY0.out, strip_kind] at h; exact beq_eq_false_iff_ne.2 h
  clear hn0
  obtain ⟨R, hR⟩ : ∃ R, rowE true y0.kids inn (putL (tabs inn.toNat x) [⟨#[99, 97, 115, 101, 32]⟩]) = R := ⟨_, rfl⟩
  rw [hR]
  rw [← HY0.out] at hR
  have HR := Lib.hid (show rowE true (stripL ks0) inn _ = R from hR)
  clear hR
  go_enter Tryz.func53, Tryz.ntmps53
  go_wp2_with (first
      | (go_at_call 76; refine (HS.out.call (line_any inn _ bp _ HS.out.pr HS.out.len hi)).mono ?_; clear HS; rintro e w1 ⟨rfl, hh⟩
         have c0 := hh.at_ (List.mem_cons_self ..) 0 rfl
         have c1 := hh.at_ (List.mem_cons_self ..) 1 rfl
         have c2 := hh.at_ (List.mem_cons_self ..) 2 rfl
         have c3 := hh.at_ (List.mem_cons_self ..) 3 rfl
         have c4 := hh.at_ (List.mem_cons_self ..) 4 rfl
         have d00 := hh.kid hbl KC0.out.1
         have d01 := hh.kid hbl KC0.out.2.1
         have d02 := hh.kid hbl KC0.out.2.2.1
         have d03 := hh.kid hbl KC0.out.2.2.2.1
         have d04 := hh.kid hbl KC0.out.2.2.2.2
         have d10 := hh.kid hbl KC1.out.1
         have d11 := hh.kid hbl KC1.out.2.1
         have d12 := hh.kid hbl KC1.out.2.2.1
         have d13 := hh.kid hbl KC1.out.2.2.2.1
         have d14 := hh.kid hbl KC1.out.2.2.2.2
         have HS1 := Lib.hid hh
         clear hh)
      | (go_at_call 49; refine (HS1.out.put1 ⟨#[99, 97, 115, 101, 32]⟩ (by decide)).mono ?_; clear HS1; rintro e w2 ⟨rfl, hh⟩
         have c0 := hh.at_ (List.mem_cons_self ..) 0 rfl
         have c1 := hh.at_ (List.mem_cons_self ..) 1 rfl
         have c2 := hh.at_ (List.mem_cons_self ..) 2 rfl
         have c3 := hh.at_ (List.mem_cons_self ..) 3 rfl
         have c4 := hh.at_ (List.mem_cons_self ..) 4 rfl
         have d00 := hh.kid hbl KC0.out.1
         have d01 := hh.kid hbl KC0.out.2.1
         have d02 := hh.kid hbl KC0.out.2.2.1
         have d03 := hh.kid hbl KC0.out.2.2.2.1
         have d04 := hh.kid hbl KC0.out.2.2.2.2
         have d10 := hh.kid hbl KC1.out.1
         have d11 := hh.kid hbl KC1.out.2.1
         have d12 := hh.kid hbl KC1.out.2.2.1
         have d13 := hh.kid hbl KC1.out.2.2.2.1
         have d14 := hh.kid hbl KC1.out.2.2.2.2
         have HSC := Lib.hid hh
         clear hh))
  go_loopw [29] (fun i wr => ∃ (j : Nat) (y : WX), i = .int .i64 j ∧ j ≤ ks0.length ∧ Hid (PSt bp w [(w.heap.size, #[.int .i64 k, .string s, .int .i64 n, .int .i64 a, .slice (some ⟨b, o, none⟩) (tr1.length + 1 + 1) cap])] y wr) ∧ Hid (rowE (decide (j = 0)) ((stripL ks0).drop j) inn y = R)) (fun i _ => ks0.length - (intOf i).toNat)
  case atStart => exact ⟨0, _, rfl, by omega, HSC, HR⟩
  case round =>
    obtain ⟨j, y, rfl, hj, hs, hr⟩ := hrel
    by_cases hlt : j < ks0.length
    · obtain ⟨b', o', rfl, hbl', hkl'⟩ : ∃ b o, A0 = some ⟨b, o, none⟩ ∧ b < bp ∧ LiesL w bp ks0 b o := by
        rcases HKK.out with h | h
        · subst h; simp at hlt
        · exact h
      obtain ⟨k', s', n', a', A2, cap2, ks', ht, f0, f1, f2, f3, f4, hLt⟩ := LiesL.get j hlt hkl'
      have hg : (stripL ks0)[j]? = some (Nd.strip (.mk k' s' n' a' ks')) := by rw [stripL_get, ht]; rfl
      have hco := HC.out _ (List.mem_of_getElem? hg)
      have hd : (stripL ks0).drop j = Nd.strip (.mk k' s' n' a' ks') :: (stripL ks0).drop (j + 1) := drop_cons hg
      rw [hd] at hr
      have HCO := Lib.hid hco
      have HPS := Lib.hid (hs.out.push #[.int .i64 k', .string s', .int .i64 n', .int .i64 a', .slice A2 ks'.length cap2])
      have HLT := Lib.hid hLt
      have dd0 := hs.out.kid hbl' f0
      have dd1 := hs.out.kid hbl' f1
      have dd2 := hs.out.kid hbl' f2
      have dd3 := hs.out.kid hbl' f3
      have dd4 := hs.out.kid hbl' f4
      clear ht hLt hd hkl' hg hco f0 f1 f2 f3 f4
      by_cases hj0 : j = 0
      · have hr' : rowE false ((stripL ks0).drop (j + 1)) inn (exprF (Nd.strip (.mk k' s' n' a' ks')) false inn false y) = R := by
          have h := hr.out
          rw [decide_eq_true hj0] at h
          exact h
        have HR' := Lib.hid hr'
        have hj1 : (j : Int) ≤ 0 := by omega
        clear hr' hj0
        go_wp2_with (go_at_call 72; refine (HPS.out.call (expr_any HCO.out _ rfl _ false inn false _ bp _ hi HPS.out.pr HPS.out.len (HPS.out.lies HLT.out))).mono ?_; rintro e w1 ⟨rfl, h1⟩)
        go_roundw
        case rel => exact ⟨j + 1, _, by go_num, by omega, Lib.hid ⟨h1.pr, h1.len, h1.pf, fun r hr => h1.rows r (List.mem_cons_of_mem _ hr)⟩, HR'⟩
        case measure => simp [intOf]; omega
      · have hr' : rowE false ((stripL ks0).drop (j + 1)) inn (exprF (Nd.strip (.mk k' s' n' a' ks')) false inn false (putL y [⟨#[44, 32]⟩])) = R := by
          have h := hr.out
          rw [decide_eq_false hj0] at h
          exact h
        have HR' := Lib.hid hr'
        have hj1 : (0 : Int) < j := by omega
        clear hr' hj0
        go_wp2_with (first
          | (go_at_call 49; refine (HPS.out.put1 ⟨#[44, 32]⟩ (by decide)).mono ?_; rintro e w1 ⟨rfl, h1⟩
             have e0 := h1.at_ (List.mem_cons_self ..) 0 rfl
             have e1 := h1.at_ (List.mem_cons_self ..) 1 rfl
             have e2 := h1.at_ (List.mem_cons_self ..) 2 rfl
             have e3 := h1.at_ (List.mem_cons_self ..) 3 rfl
             have e4 := h1.at_ (List.mem_cons_self ..) 4 rfl
             have HS1 := Lib.hid h1
             clear h1 HPS)
          | (go_at_call 72; refine (HS1.out.call (expr_any HCO.out _ rfl _ false inn false _ bp _ hi HS1.out.pr HS1.out.len (HS1.out.lies HLT.out))).mono ?_; rintro e w2 ⟨rfl, h2⟩))
        go_roundw
        case rel => exact ⟨j + 1, _, by go_num, by omega, Lib.hid ⟨h2.pr, h2.len, h2.pf, fun r hr => h2.rows r (List.mem_cons_of_mem _ hr)⟩, HR'⟩
        case measure => simp [intOf]; omega
    · obtain rfl : j = ks0.length := by omega
      have hr' : y = R := by
        have h := hr.out
        rw [List.drop_of_length_le (by rw [stripL_length]; omega)] at h
        cases hb : decide (ks0.length = 0) <;> (rw [hb] at h; exact h)
      subst hr'
      clear HSC
      have hh := hs.out
      have c0 := hh.at_ (List.mem_cons_self ..) 0 rfl
      have c1 := hh.at_ (List.mem_cons_self ..) 1 rfl
      have c2 := hh.at_ (List.mem_cons_self ..) 2 rfl
      have c3 := hh.at_ (List.mem_cons_self ..) 3 rfl
      have c4 := hh.at_ (List.mem_cons_self ..) 4 rfl
      have d00 := hh.kid hbl KC0.out.1
      have d01 := hh.kid hbl KC0.out.2.1
      have d02 := hh.kid hbl KC0.out.2.2.1
      have d03 := hh.kid hbl KC0.out.2.2.2.1
      have d04 := hh.kid hbl KC0.out.2.2.2.2
      have d10 := hh.kid hbl KC1.out.1
      have d11 := hh.kid hbl KC1.out.2.1
      have d12 := hh.kid hbl KC1.out.2.2.1
      have d13 := hh.kid hbl KC1.out.2.2.2.1
      have d14 := hh.kid hbl KC1.out.2.2.2.2
      have HSD := Lib.hid hh
      clear hh
      go_wp2_with (first
      | (go_at_call 49; refine (HSD.out.put1 ⟨#[58, 10]⟩ (by decide)).mono ?_; clear HSD; rintro e w1 ⟨rfl, hh⟩
         have c0 := hh.at_ (List.mem_cons_self ..) 0 rfl
         have c1 := hh.at_ (List.mem_cons_self ..) 1 rfl
         have c2 := hh.at_ (List.mem_cons_self ..) 2 rfl
         have c3 := hh.at_ (List.mem_cons_self ..) 3 rfl
         have c4 := hh.at_ (List.mem_cons_self ..) 4 rfl
         have d00 := hh.kid hbl KC0.out.1
         have d01 := hh.kid hbl KC0.out.2.1
         have d02 := hh.kid hbl KC0.out.2.2.1
         have d03 := hh.kid hbl KC0.out.2.2.2.1
         have d04 := hh.kid hbl KC0.out.2.2.2.2
         have d10 := hh.kid hbl KC1.out.1
         have d11 := hh.kid hbl KC1.out.2.1
         have d12 := hh.kid hbl KC1.out.2.2.1
         have d13 := hh.kid hbl KC1.out.2.2.2.1
         have d14 := hh.kid hbl KC1.out.2.2.2.2
         have HS1 := Lib.hid hh
         clear hh)
      | (go_at_call 77; refine (HS1.out.call (lines_any _ (by rw [HY1.out]; exact hc1) _ (wrap64 (inn + 1)) _ bp _ (okI_wrap _) HS1.out.pr HS1.out.len (HS1.out.lies HL1.out))).mono ?_; rintro e w2 ⟨rfl, hf⟩))
      go_end0
      rw [HY1.out] at hf
      exact hf.fin
end Go.Proofs.YtjpmghgmmeemkaaGreatDoor

namespace Go.Proofs.YtjpmghgmmeemkaaGreatDoor
open Go.RowKit

/-- What oneCase writes of a tree up to its places. -/
def CaseIs (c : Nd) (f : Int → WX → WX) : Prop := ∀ (t : Nd), t.strip = c → ∀ (v : Value) (inn : Int) (x : WX) (bp : Nat) (w : World), okI inn → PrAt bp x.1 x.2 w → x.1.length ≤ 60000 → Lies w bp t v →
  Calls Tryz.prog 53 #[.pointer (some ⟨bp, 0, none⟩), v, .int .i64 inn] w (WrPost bp (f inn x) w)
open Classical in
noncomputable def caseF (c : Nd) : Int → WX → WX := if h : ∃ f, CaseIs c f then h.choose else fun _ x => x
def CanC (c : Nd) : Prop := CaseIs c (caseF c)
theorem CanC.of {c : Nd} {f : Int → WX → WX} (h : CaseIs c f) : CanC c := by
  have h' : ∃ f, CaseIs c f := ⟨f, h⟩
  unfold CanC caseF
  rw [dif_pos h']
  exact h'.choose_spec
noncomputable def casesL : List Nd → Int → WX → WX
  | [], _, x => x
  | c :: r, inn, x => casesL r inn (caseF c inn x)

set_option maxHeartbeats 2000000 in
set_option maxRecDepth 100000 in
theorem cases_any (ts : List Nd) (hc : ∀ y ∈ stripL ts, CanC y) (A : Option Addr) (cap : Nat) (inn : Int) (x : WX) (bp : Nat) (w : World) (hi : okI inn) (h : PrAt bp x.1 x.2 w) (hlen : x.1.length ≤ 60000) (hcap : ts.length ≤ cap) (hcap2 : cap ≤ 9223372036854775807)
    (hk : ts = [] ∨ ∃ b o, A = some ⟨b, o, none⟩ ∧ b < bp ∧ LiesL w bp ts b o) :
    Calls Tryz.prog 93 #[.pointer (some ⟨bp, 0, none⟩), .slice A ts.length cap, .int .i64 inn] w (WrPost bp (putL (tabs inn.toNat (casesL (stripL ts) inn (putL x [⟨#[123, 10]⟩]))) [⟨#[125]⟩]) w) := by
  have HS := Lib.hid (PSt.start h hlen)
  have HK := Lib.hid hk
  have HC := Lib.hid hc
  obtain ⟨R, HR⟩ : ∃ R, Hid (casesL (stripL ts) inn (putL x [⟨#[123, 10]⟩]) = R) := ⟨_, rfl⟩
  rw [HR.out]
  clear h hlen hk hc
  go_enter Tryz.func93, Tryz.ntmps93
  go_wp2_with (go_at_call 49; refine (HS.out.put1 ⟨#[123, 10]⟩ (by decide)).mono ?_; clear HS; rintro e w1 ⟨rfl, hh⟩; have HSA := Lib.hid hh; clear hh)
  go_loopw [13] (fun i wr => ∃ (j : Nat) (y : WX), i = .int .i64 j ∧ j ≤ ts.length ∧ Hid (PSt bp w [] y wr) ∧ Hid (casesL ((stripL ts).drop j) inn y = R)) (fun i _ => ts.length - (intOf i).toNat)
  case atStart => exact ⟨0, _, rfl, by omega, HSA, HR⟩
  case round =>
    obtain ⟨j, y, rfl, hj, hs, hr⟩ := hrel
    by_cases hlt : j < ts.length
    · obtain ⟨b, o, rfl, hbl, hkl⟩ : ∃ b o, A = some ⟨b, o, none⟩ ∧ b < bp ∧ LiesL w bp ts b o := by
        rcases HK.out with h | h
        · subst h; simp at hlt
        · exact h
      obtain ⟨k', s', n', a', A2, cap2, ks', ht, f0, f1, f2, f3, f4, hLt⟩ := LiesL.get j hlt hkl
      have hg : (stripL ts)[j]? = some (Nd.strip (.mk k' s' n' a' ks')) := by rw [stripL_get, ht]; rfl
      have hco := HC.out _ (List.mem_of_getElem? hg)
      have hd : (stripL ts).drop j = Nd.strip (.mk k' s' n' a' ks') :: (stripL ts).drop (j + 1) := drop_cons hg
      rw [hd] at hr
      have HCO := Lib.hid hco
      have HPS := Lib.hid (hs.out.push #[.int .i64 k', .string s', .int .i64 n', .int .i64 a', .slice A2 ks'.length cap2])
      have HLT := Lib.hid hLt
      have d0 := hs.out.kid hbl f0
      have d1 := hs.out.kid hbl f1
      have d2 := hs.out.kid hbl f2
      have d3 := hs.out.kid hbl f3
      have d4 := hs.out.kid hbl f4
      clear ht hLt hd hkl hg hco f0 f1 f2 f3 f4
      have HR' := Lib.hid (show casesL ((stripL ts).drop (j + 1)) inn (caseF (Nd.strip (.mk k' s' n' a' ks')) inn y) = R from hr.out)
      go_wp2_with (go_at_call 53; refine (HPS.out.call (HCO.out _ rfl _ inn _ bp _ hi HPS.out.pr HPS.out.len (HPS.out.lies HLT.out))).mono ?_; rintro e w2 ⟨rfl, h1⟩)
      go_roundw
      case rel => exact ⟨j + 1, _, by go_num, by omega, Lib.hid ⟨h1.pr, h1.len, h1.pf, fun r hr => by simp at hr⟩, HR'⟩
      case measure => simp [intOf]; omega
    · obtain rfl : j = ts.length := by omega
      have hr' : y = R := by
        have h := hr.out
        rw [List.drop_of_length_le (by rw [stripL_length]; omega)] at h
        exact h
      subst hr'
      go_wp2_with (first
        | (go_at_call 76; refine (hs.out.call (line_any inn _ bp _ hs.out.pr hs.out.len hi)).mono ?_; rintro e w2 ⟨rfl, h1⟩; have HS1 := Lib.hid h1; clear h1)
        | (go_at_call 49; refine (HS1.out.put1 ⟨#[125]⟩ (by decide)).mono ?_; rintro e w3 ⟨rfl, h3⟩))
      go_end0
      exact h3.fin
end Go.Proofs.YtjpmghgmmeemkaaGreatDoor
