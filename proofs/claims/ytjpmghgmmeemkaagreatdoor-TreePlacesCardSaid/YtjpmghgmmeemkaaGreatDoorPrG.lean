/- The printer: bare, two operands. -/
import Derived.Deep.RegionHeld3
import Derived.Deep.DeepCutAuto
import Derived.Test.YtjpmghgmmeemkaaGreatDoorPrF
namespace Go.Proofs.YtjpmghgmmeemkaaGreatDoor
open Go.RowKit

set_option maxHeartbeats 4000000 in
set_option maxRecDepth 100000 in
theorem bare_w_binary {s : ByteArray} {n : Int} {y0 y1 : Nd} {ys : List Nd} (h0 : CanB y0) (h1 : CanB y1) (t : Nd) (htc : t.strip = .mk 51 s n 0 (y0 :: y1 :: ys)) (v : Value) (inn : Int) (head : Bool) (x : WX) (bp : Nat) (w : World) (hi : okI inn) (h : PrAt bp x.1 x.2 w) (hlen : x.1.length ≤ 60000) (hl : Lies w bp t v) :
    Calls Tryz.prog 57 #[.pointer (some ⟨bp, 0, none⟩), v, .int .i64 inn, .bool head] w (WrPost bp (exprF y1 (decide (levelB y1.kind y1.text ≤ levelB 51 s)) inn head (putL (exprF y0 (decide (levelB y0.kind y0.text < levelB 51 s)) inn head x) [⟨#[32]⟩, s, ⟨#[32]⟩])) w) := by
  have HTC := Lib.hid htc
  have HL := Lib.hid hl
  obtain ⟨k', s', n', a, ks⟩ := t
  obtain ⟨rfl, rfl, rfl, hks⟩ := strip_mk htc
  obtain ⟨⟨k0, s0, n0, a0, ks0⟩, tr0, rfl, hy0, hks⟩ := stripL_cons hks
  have HY0 := Lib.hid hy0
  clear hy0
  obtain ⟨⟨k1, s1, n1, a1, ks1⟩, tr1, rfl, hy1, hks⟩ := stripL_cons hks
  have HY1 := Lib.hid hy1
  clear hy1
  have HKS := Lib.hid hks
  unfold Lies at hl
  obtain ⟨A, cap, rfl, _, _, _, hsz, hcl, hcc, hkl⟩ := hl
  obtain ⟨b, o, rfl, hbl, hkl⟩ := kids_some hkl
  obtain ⟨A0, cap0, hKC0, hL0⟩ := LiesL.kid0 rfl hkl
  have KC0 := Lib.hid hKC0
  have HL0 := Lib.hid hL0
  have hsz0 := hL0.size
  clear hKC0 hL0
  obtain ⟨A1, cap1, hKC1, hL1⟩ := LiesL.kidm 1 5 rfl rfl hkl
  have KC1 := Lib.hid hKC1
  have HL1 := Lib.hid hL1
  have hsz1 := hL1.size
  clear hKC1 hL1
  have HKL := Lib.hid hkl
  have hs := PSt.init h hlen #[.int .i64 51, .string s, .int .i64 n, .int .i64 a, .slice (some ⟨b, o, none⟩) (.mk k0 s0 n0 a0 ks0 :: .mk k1 s1 n1 a1 ks1 :: tr1 : List Nd).length cap]
  simp only [List.length_cons] at hcl hs ⊢
  have c0 := hs.at_ (List.mem_cons_self ..) 0 rfl
  have c1 := hs.at_ (List.mem_cons_self ..) 1 rfl
  have c2 := hs.at_ (List.mem_cons_self ..) 2 rfl
  have c3 := hs.at_ (List.mem_cons_self ..) 3 rfl
  have c4 := hs.at_ (List.mem_cons_self ..) 4 rfl
  have d00 := hs.kid hbl KC0.out.1
  have d01 := hs.kid hbl KC0.out.2.1
  have d02 := hs.kid hbl KC0.out.2.2.1
  have d03 := hs.kid hbl KC0.out.2.2.2.1
  have d04 := hs.kid hbl KC0.out.2.2.2.2
  have d10 := hs.kid hbl KC1.out.1
  have d11 := hs.kid hbl KC1.out.2.1
  have d12 := hs.kid hbl KC1.out.2.2.1
  have d13 := hs.kid hbl KC1.out.2.2.2.1
  have d14 := hs.kid hbl KC1.out.2.2.2.2
  have HS := Lib.hid hs
  clear h hs htc hks hkl
  have b0 : (0 : Int) < (tr1.length : Int) + 1 + 1 := by omega
  have b1 : (1 : Int) < (tr1.length : Int) + 1 + 1 := by omega
  obtain ⟨lv0, HLV0⟩ : ∃ lv, Hid (levelB k0 s0 = lv) := ⟨_, rfl⟩
  have hlc := fun W => level_any k0 s0 n0 a0 A0 ks0.length cap0 W
  rw [HLV0.out] at hlc
  have HLC0 := Lib.hid hlc
  clear hlc
  have hel : levelB y0.kind y0.text = lv0 := by rw [← HY0.out, strip_kind, strip_text]; exact HLV0.out
  rw [hel]
  clear hel
  obtain ⟨lv1, HLV1⟩ : ∃ lv, Hid (levelB k1 s1 = lv) := ⟨_, rfl⟩
  have hlc := fun W => level_any k1 s1 n1 a1 A1 ks1.length cap1 W
  rw [HLV1.out] at hlc
  have HLC1 := Lib.hid hlc
  clear hlc
  have hel : levelB y1.kind y1.text = lv1 := by rw [← HY1.out, strip_kind, strip_text]; exact HLV1.out
  rw [hel]
  clear hel
  obtain ⟨lv, HLV⟩ : ∃ lv, Hid (levelB 51 s = lv) := ⟨_, rfl⟩
  rw [HLV.out]
  have hlc := fun W => level_any 51 s n a (some ⟨b, o, none⟩) (tr1.length + 1 + 1) cap W
  rw [HLV.out] at hlc
  have HLC := Lib.hid hlc
  clear hlc
  obtain ⟨z, HZ⟩ : ∃ z, Hid (exprF y0 (decide (lv0 < lv)) inn head x = z) := ⟨_, rfl⟩
  rw [HZ.out]
  go_enter Tryz.func57, Tryz.ntmps57
  go_upto_region 39 with (go_at_call 84; refine (HLC.out _).mono ?_; rintro e wl ⟨rfl, rfl⟩; have hh := HS.out.alloc (.cells #[.int .i64 51, .string s, .int .i64 n, .int .i64 a, .slice (some ⟨b, o, none⟩) (tr1.length + 1 + 1) cap] 24 (0, 0)); clear HS; have c0 := hh.at_ (List.mem_cons_self ..) 0 rfl; have c1 := hh.at_ (List.mem_cons_self ..) 1 rfl; have c2 := hh.at_ (List.mem_cons_self ..) 2 rfl; have c3 := hh.at_ (List.mem_cons_self ..) 3 rfl; have c4 := hh.at_ (List.mem_cons_self ..) 4 rfl; have d00 := hh.kid hbl KC0.out.1; have d01 := hh.kid hbl KC0.out.2.1; have d02 := hh.kid hbl KC0.out.2.2.1; have d03 := hh.kid hbl KC0.out.2.2.2.1; have d04 := hh.kid hbl KC0.out.2.2.2.2; have d10 := hh.kid hbl KC1.out.1; have d11 := hh.kid hbl KC1.out.2.1; have d12 := hh.kid hbl KC1.out.2.2.1; have d13 := hh.kid hbl KC1.out.2.2.2.1; have d14 := hh.kid hbl KC1.out.2.2.2.2; have HSL := Lib.hid hh; clear hh)
  go_cut [9] (fun s9 wx => s9 = .int .i64 lv ∧ PSt bp w [(w.heap.size, #[.int .i64 51, .string s, .int .i64 n, .int .i64 a, .slice (some ⟨b, o, none⟩) (tr1.length + 1 + 1) cap])] z wx)
  case first =>
    have K : ∀ y W, PSt bp w [(w.heap.size, #[.int .i64 51, .string s, .int .i64 n, .int .i64 a, .slice (some ⟨b, o, none⟩) (tr1.length + 1 + 1) cap])] y W → (∃ y, PSt bp w [(w.heap.size, #[.int .i64 51, .string s, .int .i64 n, .int .i64 a, .slice (some ⟨b, o, none⟩) (tr1.length + 1 + 1) cap])] y W) ∧ W.cell? ⟨w.heap.size, 0, none⟩ = some (.int .i64 51) ∧ W.cell? ⟨w.heap.size, 1, none⟩ = some (.string s) ∧ W.cell? ⟨w.heap.size, 2, none⟩ = some (.int .i64 n) ∧ W.cell? ⟨w.heap.size, 3, none⟩ = some (.int .i64 a) ∧ W.cell? ⟨w.heap.size, 4, none⟩ = some (.slice (some ⟨b, o, none⟩) (tr1.length + 1 + 1) cap) ∧ W.cell? ⟨b, o, none⟩ = some (.int .i64 k0) ∧ W.cell? ⟨b, o + 1, none⟩ = some (.string s0) ∧ W.cell? ⟨b, o + 2, none⟩ = some (.int .i64 n0) ∧ W.cell? ⟨b, o + 3, none⟩ = some (.int .i64 a0) ∧ W.cell? ⟨b, o + 4, none⟩ = some (.slice A0 ks0.length cap0) ∧ W.cell? ⟨b, o + 5, none⟩ = some (.int .i64 k1) ∧ W.cell? ⟨b, o + 5 + 1, none⟩ = some (.string s1) ∧ W.cell? ⟨b, o + 5 + 2, none⟩ = some (.int .i64 n1) ∧ W.cell? ⟨b, o + 5 + 3, none⟩ = some (.int .i64 a1) ∧ W.cell? ⟨b, o + 5 + 4, none⟩ = some (.slice A1 ks1.length cap1) := fun y W hW => ⟨⟨_, hW⟩, hW.at_ (List.mem_cons_self ..) 0 rfl, hW.at_ (List.mem_cons_self ..) 1 rfl, hW.at_ (List.mem_cons_self ..) 2 rfl, hW.at_ (List.mem_cons_self ..) 3 rfl, hW.at_ (List.mem_cons_self ..) 4 rfl, hW.kid hbl KC0.out.1, hW.kid hbl KC0.out.2.1, hW.kid hbl KC0.out.2.2.1, hW.kid hbl KC0.out.2.2.2.1, hW.kid hbl KC0.out.2.2.2.2, hW.kid hbl KC1.out.1, hW.kid hbl KC1.out.2.1, hW.kid hbl KC1.out.2.2.1, hW.kid hbl KC1.out.2.2.2.1, hW.kid hbl KC1.out.2.2.2.2⟩
    have K' := Lib.hid K
    clear K
    go_region_held3 (fun W => (∃ y, PSt bp w [(w.heap.size, #[.int .i64 51, .string s, .int .i64 n, .int .i64 a, .slice (some ⟨b, o, none⟩) (tr1.length + 1 + 1) cap])] y W) ∧ W.cell? ⟨w.heap.size, 0, none⟩ = some (.int .i64 51) ∧ W.cell? ⟨w.heap.size, 1, none⟩ = some (.string s) ∧ W.cell? ⟨w.heap.size, 2, none⟩ = some (.int .i64 n) ∧ W.cell? ⟨w.heap.size, 3, none⟩ = some (.int .i64 a) ∧ W.cell? ⟨w.heap.size, 4, none⟩ = some (.slice (some ⟨b, o, none⟩) (tr1.length + 1 + 1) cap) ∧ W.cell? ⟨b, o, none⟩ = some (.int .i64 k0) ∧ W.cell? ⟨b, o + 1, none⟩ = some (.string s0) ∧ W.cell? ⟨b, o + 2, none⟩ = some (.int .i64 n0) ∧ W.cell? ⟨b, o + 3, none⟩ = some (.int .i64 a0) ∧ W.cell? ⟨b, o + 4, none⟩ = some (.slice A0 ks0.length cap0) ∧ W.cell? ⟨b, o + 5, none⟩ = some (.int .i64 k1) ∧ W.cell? ⟨b, o + 5 + 1, none⟩ = some (.string s1) ∧ W.cell? ⟨b, o + 5 + 2, none⟩ = some (.int .i64 n1) ∧ W.cell? ⟨b, o + 5 + 3, none⟩ = some (.int .i64 a1) ∧ W.cell? ⟨b, o + 5 + 4, none⟩ = some (.slice A1 ks1.length cap1))
      (first
        | exact K'.out _ _ HSL.out.drew
        | exact K'.out _ _ hp1
        | exact K'.out _ _ hf)
      (first
        | (go_at_call 84; refine (HLC0.out _).mono ?_; rintro e wl ⟨rfl, rfl⟩; have hp1 := HSL.out.drew.alloc (.cells #[.int .i64 k0, .string s0, .int .i64 n0, .int .i64 a0, .slice A0 ks0.length cap0] 24 (0, 0)))
        | (go_at_call 72; refine (hp1.call (expr_any h0 _ HY0.out _ _ inn head _ bp _ hi hp1.pr hp1.len (hp1.lies HL0.out))).mono ?_; rintro e w9 ⟨rfl, hf⟩))
    go_wp2_with fail
    go_meet
    rw [HZ.out] at hf
    exact ⟨rfl, hf⟩
  case rest =>
    obtain ⟨rfl, hh⟩ := hcut
    clear HSL
    have c0 := hh.at_ (List.mem_cons_self ..) 0 rfl
    have c1 := hh.at_ (List.mem_cons_self ..) 1 rfl
    have c2 := hh.at_ (List.mem_cons_self ..) 2 rfl
    have c3 := hh.at_ (List.mem_cons_self ..) 3 rfl
    have c4 := hh.at_ (List.mem_cons_self ..) 4 rfl
    have d00 := hh.kid hbl KC0.out.1
    have d01 := hh.kid hbl KC0.out.2.1
    have d02 := hh.kid hbl KC0.out.2.2.1
    have d03 := hh.kid hbl KC0.out.2.2.2.1
    have d04 := hh.kid hbl KC0.out.2.2.2.2
    have d10 := hh.kid hbl KC1.out.1
    have d11 := hh.kid hbl KC1.out.2.1
    have d12 := hh.kid hbl KC1.out.2.2.1
    have d13 := hh.kid hbl KC1.out.2.2.2.1
    have d14 := hh.kid hbl KC1.out.2.2.2.2
    have HSC := Lib.hid hh
    clear hh
    go_upto_region 41 with (first
      | (go_at_call 49; refine (HSC.out.put3 ⟨#[32]⟩ s ⟨#[32]⟩ (by decide) hsz (by decide)).mono ?_; clear HSC; rintro e w1 ⟨rfl, hh⟩
         have c0 := hh.at_ (List.mem_cons_self ..) 0 rfl
         have c1 := hh.at_ (List.mem_cons_self ..) 1 rfl
         have c2 := hh.at_ (List.mem_cons_self ..) 2 rfl
         have c3 := hh.at_ (List.mem_cons_self ..) 3 rfl
         have c4 := hh.at_ (List.mem_cons_self ..) 4 rfl
         have d00 := hh.kid hbl KC0.out.1
         have d01 := hh.kid hbl KC0.out.2.1
         have d02 := hh.kid hbl KC0.out.2.2.1
         have d03 := hh.kid hbl KC0.out.2.2.2.1
         have d04 := hh.kid hbl KC0.out.2.2.2.2
         have d10 := hh.kid hbl KC1.out.1
         have d11 := hh.kid hbl KC1.out.2.1
         have d12 := hh.kid hbl KC1.out.2.2.1
         have d13 := hh.kid hbl KC1.out.2.2.2.1
         have d14 := hh.kid hbl KC1.out.2.2.2.2
         have HSB := Lib.hid hh
         clear hh))
    have K : ∀ y W, PSt bp w [(w.heap.size, #[.int .i64 51, .string s, .int .i64 n, .int .i64 a, .slice (some ⟨b, o, none⟩) (tr1.length + 1 + 1) cap])] y W → (∃ y, PSt bp w [(w.heap.size, #[.int .i64 51, .string s, .int .i64 n, .int .i64 a, .slice (some ⟨b, o, none⟩) (tr1.length + 1 + 1) cap])] y W) ∧ W.cell? ⟨w.heap.size, 0, none⟩ = some (.int .i64 51) ∧ W.cell? ⟨w.heap.size, 1, none⟩ = some (.string s) ∧ W.cell? ⟨w.heap.size, 2, none⟩ = some (.int .i64 n) ∧ W.cell? ⟨w.heap.size, 3, none⟩ = some (.int .i64 a) ∧ W.cell? ⟨w.heap.size, 4, none⟩ = some (.slice (some ⟨b, o, none⟩) (tr1.length + 1 + 1) cap) ∧ W.cell? ⟨b, o, none⟩ = some (.int .i64 k0) ∧ W.cell? ⟨b, o + 1, none⟩ = some (.string s0) ∧ W.cell? ⟨b, o + 2, none⟩ = some (.int .i64 n0) ∧ W.cell? ⟨b, o + 3, none⟩ = some (.int .i64 a0) ∧ W.cell? ⟨b, o + 4, none⟩ = some (.slice A0 ks0.length cap0) ∧ W.cell? ⟨b, o + 5, none⟩ = some (.int .i64 k1) ∧ W.cell? ⟨b, o + 5 + 1, none⟩ = some (.string s1) ∧ W.cell? ⟨b, o + 5 + 2, none⟩ = some (.int .i64 n1) ∧ W.cell? ⟨b, o + 5 + 3, none⟩ = some (.int .i64 a1) ∧ W.cell? ⟨b, o + 5 + 4, none⟩ = some (.slice A1 ks1.length cap1) := fun y W hW => ⟨⟨_, hW⟩, hW.at_ (List.mem_cons_self ..) 0 rfl, hW.at_ (List.mem_cons_self ..) 1 rfl, hW.at_ (List.mem_cons_self ..) 2 rfl, hW.at_ (List.mem_cons_self ..) 3 rfl, hW.at_ (List.mem_cons_self ..) 4 rfl, hW.kid hbl KC0.out.1, hW.kid hbl KC0.out.2.1, hW.kid hbl KC0.out.2.2.1, hW.kid hbl KC0.out.2.2.2.1, hW.kid hbl KC0.out.2.2.2.2, hW.kid hbl KC1.out.1, hW.kid hbl KC1.out.2.1, hW.kid hbl KC1.out.2.2.1, hW.kid hbl KC1.out.2.2.2.1, hW.kid hbl KC1.out.2.2.2.2⟩
    have K' := Lib.hid K
    clear K
    go_region_held3 (fun W => (∃ y, PSt bp w [(w.heap.size, #[.int .i64 51, .string s, .int .i64 n, .int .i64 a, .slice (some ⟨b, o, none⟩) (tr1.length + 1 + 1) cap])] y W) ∧ W.cell? ⟨w.heap.size, 0, none⟩ = some (.int .i64 51) ∧ W.cell? ⟨w.heap.size, 1, none⟩ = some (.string s) ∧ W.cell? ⟨w.heap.size, 2, none⟩ = some (.int .i64 n) ∧ W.cell? ⟨w.heap.size, 3, none⟩ = some (.int .i64 a) ∧ W.cell? ⟨w.heap.size, 4, none⟩ = some (.slice (some ⟨b, o, none⟩) (tr1.length + 1 + 1) cap) ∧ W.cell? ⟨b, o, none⟩ = some (.int .i64 k0) ∧ W.cell? ⟨b, o + 1, none⟩ = some (.string s0) ∧ W.cell? ⟨b, o + 2, none⟩ = some (.int .i64 n0) ∧ W.cell? ⟨b, o + 3, none⟩ = some (.int .i64 a0) ∧ W.cell? ⟨b, o + 4, none⟩ = some (.slice A0 ks0.length cap0) ∧ W.cell? ⟨b, o + 5, none⟩ = some (.int .i64 k1) ∧ W.cell? ⟨b, o + 5 + 1, none⟩ = some (.string s1) ∧ W.cell? ⟨b, o + 5 + 2, none⟩ = some (.int .i64 n1) ∧ W.cell? ⟨b, o + 5 + 3, none⟩ = some (.int .i64 a1) ∧ W.cell? ⟨b, o + 5 + 4, none⟩ = some (.slice A1 ks1.length cap1))
      (first
        | exact K'.out _ _ HSB.out.drew
        | exact K'.out _ _ hp2
        | exact K'.out _ _ hg)
      (first
        | (go_at_call 84; refine (HLC1.out _).mono ?_; rintro e wl ⟨rfl, rfl⟩; have hp2 := HSB.out.drew.alloc (.cells #[.int .i64 k1, .string s1, .int .i64 n1, .int .i64 a1, .slice A1 ks1.length cap1] 24 (0, 0)))
        | (go_at_call 72; refine (hp2.call (expr_any h1 _ HY1.out _ _ inn head _ bp _ hi hp2.pr hp2.len (hp2.lies HL1.out))).mono ?_; rintro e w9 ⟨rfl, hg⟩))
    go_wp2_with fail
    go_end0
    exact hg.fin
end Go.Proofs.YtjpmghgmmeemkaaGreatDoor
