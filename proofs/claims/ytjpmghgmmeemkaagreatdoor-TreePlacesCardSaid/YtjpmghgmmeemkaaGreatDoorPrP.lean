/- The printer: stmt. -/
import Derived.Deep.RegionHeld3
import Derived.Test.YtjpmghgmmeemkaaGreatDoorPrN
namespace Go.Proofs.YtjpmghgmmeemkaaGreatDoor
open Go.RowKit

def wordW (s t : ByteArray) (x : WX) : WX := if t.toList = [] then putL x [s] else putL (putL x [s]) [⟨#[32]⟩, t]
theorem word_w (s t : ByteArray) (x : WX) (bp : Nat) (w : World) (h : PrAt bp x.1 x.2 w) (hl : x.1.length ≤ 60000) (hs : s.size ≤ 140737488351232) (ht : t.size ≤ 140737488351232) :
    Calls Tryz.prog 81 #[.pointer (some ⟨bp, 0, none⟩), .string s, .string t] w (WrPost bp (wordW s t x) w) := prWord_any s t x bp w h hl hs ht

set_option maxHeartbeats 4000000 in
set_option maxRecDepth 100000 in
theorem stmt_block {s : ByteArray} {n : Int} {ys : List Nd} (hc : ∀ y ∈ (Nd.mk 17 s n 0 ys).kids, CanS y) (t : Nd) (htc : t.strip = .mk 17 s n 0 (ys)) (v : Value) (inn : Int) (x : WX) (bp : Nat) (w : World) (hi : okI inn) (h : PrAt bp x.1 x.2 w) (hlen : x.1.length ≤ 60000) (hl : Lies w bp t v) :
    Calls Tryz.prog 55 #[.pointer (some ⟨bp, 0, none⟩), v, .int .i64 inn] w (WrPost bp (blockF (.mk 17 s n 0 ys) inn x) w) := by
  have HTC := Lib.hid htc
  have HL := Lib.hid hl
  obtain ⟨k', s', n', a, ks⟩ := t
  obtain ⟨rfl, rfl, rfl, hks⟩ := strip_mk htc
  have HKS := Lib.hid hks
  unfold Lies at hl
  obtain ⟨A, cap, rfl, _, _, _, hsz, hcl, hcc, hkl⟩ := hl
  have HKL := Lib.hid hkl
  have hs := PSt.init h hlen #[.int .i64 17, .string s, .int .i64 n, .int .i64 a, .slice A ks.length cap]
  have c0 := hs.at_ (List.mem_cons_self ..) 0 rfl
  have c1 := hs.at_ (List.mem_cons_self ..) 1 rfl
  have c2 := hs.at_ (List.mem_cons_self ..) 2 rfl
  have c3 := hs.at_ (List.mem_cons_self ..) 3 rfl
  have c4 := hs.at_ (List.mem_cons_self ..) 4 rfl
  have HS := Lib.hid hs
  clear h hs htc hks hkl
  go_enter Tryz.func55, Tryz.ntmps55
  go_wp2_with (go_at_call 79; refine (HS.out.call (block_any hc _ HTC.out _ inn _ bp _ hi HS.out.pr HS.out.len (HS.out.lies HL.out))).mono ?_; rintro e w1 ⟨rfl, hf⟩)
  go_end0
  exact hf.fin

set_option maxHeartbeats 4000000 in
set_option maxRecDepth 100000 in
theorem stmt_define {s : ByteArray} {n : Int} {y0 : Nd} {ys : List Nd} (h0 : CanB y0) (t : Nd) (htc : t.strip = .mk 18 s n 0 (y0 :: ys)) (v : Value) (inn : Int) (x : WX) (bp : Nat) (w : World) (hi : okI inn) (h : PrAt bp x.1 x.2 w) (hlen : x.1.length ≤ 60000) (hl : Lies w bp t v) :
    Calls Tryz.prog 55 #[.pointer (some ⟨bp, 0, none⟩), v, .int .i64 inn] w (WrPost bp (exprF y0 false inn false (putL x [s, ⟨#[32, 58, 61, 32]⟩])) w) := by
  have HTC := Lib.hid htc
  have HL := Lib.hid hl
  obtain ⟨k', s', n', a, ks⟩ := t
  obtain ⟨rfl, rfl, rfl, hks⟩ := strip_mk htc
  obtain ⟨⟨k0, s0, n0, a0, ks0⟩, tr0, rfl, hy0, hks⟩ := stripL_cons hks
  have HY0 := Lib.hid hy0
  clear hy0
  have HKS := Lib.hid hks
  unfold Lies at hl
  obtain ⟨A, cap, rfl, _, _, _, hsz, hcl, hcc, hkl⟩ := hl
  obtain ⟨b, o, rfl, hbl, hkl⟩ := kids_some hkl
  obtain ⟨A0, cap0, hKC0, hL0⟩ := LiesL.kid0 rfl hkl
  have KC0 := Lib.hid hKC0
  have HL0 := Lib.hid hL0
  have hsz0 := hL0.size
  clear hKC0 hL0
  have HKL := Lib.hid hkl
  have hs := PSt.init h hlen #[.int .i64 18, .string s, .int .i64 n, .int .i64 a, .slice (some ⟨b, o, none⟩) (.mk k0 s0 n0 a0 ks0 :: tr0 : List Nd).length cap]
  simp only [List.length_cons] at hcl hs ⊢
  have c0 := hs.at_ (List.mem_cons_self ..) 0 rfl
  have c1 := hs.at_ (List.mem_cons_self ..) 1 rfl
  have c2 := hs.at_ (List.mem_cons_self ..) 2 rfl
  have c3 := hs.at_ (List.mem_cons_self ..) 3 rfl
  have c4 := hs.at_ (List.mem_cons_self ..) 4 rfl
  have d00 := hs.kid hbl KC0.out.1
  have d01 := hs.kid hbl KC0.out.2.1
  have d02 := hs.kid hbl KC0.out.2.2.1
  have d03 := hs.kid hbl KC0.out.2.2.2.1
  have d04 := hs.kid hbl KC0.out.2.2.2.2
  have HS := Lib.hid hs
  clear h hs htc hks hkl
  have b0 : (0 : Int) < (tr0.length : Int) + 1 := by omega
  go_enter Tryz.func55, Tryz.ntmps55
  go_wp2_with (first
      | (go_at_call 49; refine (HS.out.put2 s ⟨#[32, 58, 61, 32]⟩ hsz (by decide)).mono ?_; clear HS; rintro e w1 ⟨rfl, hh⟩
         have c0 := hh.at_ (List.mem_cons_self ..) 0 rfl
         have c1 := hh.at_ (List.mem_cons_self ..) 1 rfl
         have c2 := hh.at_ (List.mem_cons_self ..) 2 rfl
         have c3 := hh.at_ (List.mem_cons_self ..) 3 rfl
         have c4 := hh.at_ (List.mem_cons_self ..) 4 rfl
         have d00 := hh.kid hbl KC0.out.1
         have d01 := hh.kid hbl KC0.out.2.1
         have d02 := hh.kid hbl KC0.out.2.2.1
         have d03 := hh.kid hbl KC0.out.2.2.2.1
         have d04 := hh.kid hbl KC0.out.2.2.2.2
         have HS1 := Lib.hid hh
         clear hh)
      | (go_at_call 72; refine (HS1.out.call (expr_any h0 _ HY0.out _ false inn false _ bp _ hi HS1.out.pr HS1.out.len (HS1.out.lies HL0.out))).mono ?_; rintro e w2 ⟨rfl, hf⟩))
  go_end0
  exact hf.fin

set_option maxHeartbeats 4000000 in
set_option maxRecDepth 100000 in
theorem stmt_two19 {s : ByteArray} {n : Int} {y0 y1 y2 : Nd} {ys : List Nd} (h2 : CanB y2) (t : Nd) (htc : t.strip = .mk 19 s n 0 (y0 :: y1 :: y2 :: ys)) (v : Value) (inn : Int) (x : WX) (bp : Nat) (w : World) (hi : okI inn) (h : PrAt bp x.1 x.2 w) (hlen : x.1.length ≤ 60000) (hl : Lies w bp t v) :
    Calls Tryz.prog 55 #[.pointer (some ⟨bp, 0, none⟩), v, .int .i64 inn] w (WrPost bp (exprF y2 false inn false (putL x [y0.text, ⟨#[44, 32]⟩, y1.text, ⟨#[32, 58, 61, 32]⟩])) w) := by
  have HTC := Lib.hid htc
  have HL := Lib.hid hl
  obtain ⟨k', s', n', a, ks⟩ := t
  obtain ⟨rfl, rfl, rfl, hks⟩ := strip_mk htc
  obtain ⟨⟨k0, s0, n0, a0, ks0⟩, tr0, rfl, hy0, hks⟩ := stripL_cons hks
  have HY0 := Lib.hid hy0
  clear hy0
  obtain ⟨⟨k1, s1, n1, a1, ks1⟩, tr1, rfl, hy1, hks⟩ := stripL_cons hks
  have HY1 := Lib.hid hy1
  clear hy1
  obtain ⟨⟨k2, s2, n2, a2, ks2⟩, tr2, rfl, hy2, hks⟩ := stripL_cons hks
  have HY2 := Lib.hid hy2
  clear hy2
  have HKS := Lib.hid hks
  unfold Lies at hl
  obtain ⟨A, cap, rfl, _, _, _, hsz, hcl, hcc, hkl⟩ := hl
  obtain ⟨b, o, rfl, hbl, hkl⟩ := kids_some hkl
  obtain ⟨A0, cap0, hKC0, hL0⟩ := LiesL.kid0 rfl hkl
  have KC0 := Lib.hid hKC0
  have HL0 := Lib.hid hL0
  have hsz0 := hL0.size
  clear hKC0 hL0
  obtain ⟨A1, cap1, hKC1, hL1⟩ := LiesL.kidm 1 5 rfl rfl hkl
  have KC1 := Lib.hid hKC1
  have HL1 := Lib.hid hL1
  have hsz1 := hL1.size
  clear hKC1 hL1
  obtain ⟨A2, cap2, hKC2, hL2⟩ := LiesL.kidm 2 10 rfl rfl hkl
  have KC2 := Lib.hid hKC2
  have HL2 := Lib.hid hL2
  have hsz2 := hL2.size
  clear hKC2 hL2
  have HKL := Lib.hid hkl
  have hs := PSt.init h hlen #[.int .i64 19, .string s, .int .i64 n, .int .i64 a, .slice (some ⟨b, o, none⟩) (.mk k0 s0 n0 a0 ks0 :: .mk k1 s1 n1 a1 ks1 :: .mk k2 s2 n2 a2 ks2 :: tr2 : List Nd).length cap]
  simp only [List.length_cons] at hcl hs ⊢
  have c0 := hs.at_ (List.mem_cons_self ..) 0 rfl
  have c1 := hs.at_ (List.mem_cons_self ..) 1 rfl
  have c2 := hs.at_ (List.mem_cons_self ..) 2 rfl
  have c3 := hs.at_ (List.mem_cons_self ..) 3 rfl
  have c4 := hs.at_ (List.mem_cons_self ..) 4 rfl
  have d00 := hs.kid hbl KC0.out.1
  have d01 := hs.kid hbl KC0.out.2.1
  have d02 := hs.kid hbl KC0.out.2.2.1
  have d03 := hs.kid hbl KC0.out.2.2.2.1
  have d04 := hs.kid hbl KC0.out.2.2.2.2
  have d10 := hs.kid hbl KC1.out.1
  have d11 := hs.kid hbl KC1.out.2.1
  have d12 := hs.kid hbl KC1.out.2.2.1
  have d13 := hs.kid hbl KC1.out.2.2.2.1
  have d14 := hs.kid hbl KC1.out.2.2.2.2
  have d20 := hs.kid hbl KC2.out.1
  have d21 := hs.kid hbl KC2.out.2.1
  have d22 := hs.kid hbl KC2.out.2.2.1
  have d23 := hs.kid hbl KC2.out.2.2.2.1
  have d24 := hs.kid hbl KC2.out.2.2.2.2
  have HS := Lib.hid hs
  clear h hs htc hks hkl
  have b0 : (0 : Int) < (tr2.length : Int) + 1 + 1 + 1 := by omega
  have b1 : (1 : Int) < (tr2.length : Int) + 1 + 1 + 1 := by omega
  have b2 : (2 : Int) < (tr2.length : Int) + 1 + 1 + 1 := by omega
  have ht0 : y0.text = s0 := by rw [← HY0.out, strip_text]; rfl
  rw [ht0]
  clear ht0
  have ht1 : y1.text = s1 := by rw [← HY1.out, strip_text]; rfl
  rw [ht1]
  clear ht1
  go_enter Tryz.func55, Tryz.ntmps55
  go_upto_region 19 with fail
  have K : ∀ y W, PSt bp w [(w.heap.size, #[.int .i64 19, .string s, .int .i64 n, .int .i64 a, .slice (some ⟨b, o, none⟩) (tr2.length + 1 + 1 + 1) cap])] y W → (∃ y, PSt bp w [(w.heap.size, #[.int .i64 19, .string s, .int .i64 n, .int .i64 a, .slice (some ⟨b, o, none⟩) (tr2.length + 1 + 1 + 1) cap])] y W) ∧ W.cell? ⟨w.heap.size, 0, none⟩ = some (.int .i64 19) ∧ W.cell? ⟨w.heap.size, 1, none⟩ = some (.string s) ∧ W.cell? ⟨w.heap.size, 2, none⟩ = some (.int .i64 n) ∧ W.cell? ⟨w.heap.size, 3, none⟩ = some (.int .i64 a) ∧ W.cell? ⟨w.heap.size, 4, none⟩ = some (.slice (some ⟨b, o, none⟩) (tr2.length + 1 + 1 + 1) cap) ∧ W.cell? ⟨b, o, none⟩ = some (.int .i64 k0) ∧ W.cell? ⟨b, o + 1, none⟩ = some (.string s0) ∧ W.cell? ⟨b, o + 2, none⟩ = some (.int .i64 n0) ∧ W.cell? ⟨b, o + 3, none⟩ = some (.int .i64 a0) ∧ W.cell? ⟨b, o + 4, none⟩ = some (.slice A0 ks0.length cap0) ∧ W.cell? ⟨b, o + 5, none⟩ = some (.int .i64 k1) ∧ W.cell? ⟨b, o + 5 + 1, none⟩ = some (.string s1) ∧ W.cell? ⟨b, o + 5 + 2, none⟩ = some (.int .i64 n1) ∧ W.cell? ⟨b, o + 5 + 3, none⟩ = some (.int .i64 a1) ∧ W.cell? ⟨b, o + 5 + 4, none⟩ = some (.slice A1 ks1.length cap1) := fun y W hW => ⟨⟨_, hW⟩, hW.at_ (List.mem_cons_self ..) 0 rfl, hW.at_ (List.mem_cons_self ..) 1 rfl, hW.at_ (List.mem_cons_self ..) 2 rfl, hW.at_ (List.mem_cons_self ..) 3 rfl, hW.at_ (List.mem_cons_self ..) 4 rfl, hW.kid hbl KC0.out.1, hW.kid hbl KC0.out.2.1, hW.kid hbl KC0.out.2.2.1, hW.kid hbl KC0.out.2.2.2.1, hW.kid hbl KC0.out.2.2.2.2, hW.kid hbl KC1.out.1, hW.kid hbl KC1.out.2.1, hW.kid hbl KC1.out.2.2.1, hW.kid hbl KC1.out.2.2.2.1, hW.kid hbl KC1.out.2.2.2.2⟩
  have K' := Lib.hid K
  clear K
  go_region_held3 (fun W => (∃ y, PSt bp w [(w.heap.size, #[.int .i64 19, .string s, .int .i64 n, .int .i64 a, .slice (some ⟨b, o, none⟩) (tr2.length + 1 + 1 + 1) cap])] y W) ∧ W.cell? ⟨w.heap.size, 0, none⟩ = some (.int .i64 19) ∧ W.cell? ⟨w.heap.size, 1, none⟩ = some (.string s) ∧ W.cell? ⟨w.heap.size, 2, none⟩ = some (.int .i64 n) ∧ W.cell? ⟨w.heap.size, 3, none⟩ = some (.int .i64 a) ∧ W.cell? ⟨w.heap.size, 4, none⟩ = some (.slice (some ⟨b, o, none⟩) (tr2.length + 1 + 1 + 1) cap) ∧ W.cell? ⟨b, o, none⟩ = some (.int .i64 k0) ∧ W.cell? ⟨b, o + 1, none⟩ = some (.string s0) ∧ W.cell? ⟨b, o + 2, none⟩ = some (.int .i64 n0) ∧ W.cell? ⟨b, o + 3, none⟩ = some (.int .i64 a0) ∧ W.cell? ⟨b, o + 4, none⟩ = some (.slice A0 ks0.length cap0) ∧ W.cell? ⟨b, o + 5, none⟩ = some (.int .i64 k1) ∧ W.cell? ⟨b, o + 5 + 1, none⟩ = some (.string s1) ∧ W.cell? ⟨b, o + 5 + 2, none⟩ = some (.int .i64 n1) ∧ W.cell? ⟨b, o + 5 + 3, none⟩ = some (.int .i64 a1) ∧ W.cell? ⟨b, o + 5 + 4, none⟩ = some (.slice A1 ks1.length cap1))
    (first
      | exact K'.out _ _ HS.out.drew
      | exact K'.out _ _ (HS.out.drew.alloc _)
      | exact K'.out _ _ hf)
    (first
      | (go_at_call 49; refine (HS.out.drew.put4 s0 ⟨#[44, 32]⟩ s1 ⟨#[32, 58, 61, 32]⟩ hsz0 (by decide) hsz1 (by decide)).mono ?_; rintro e w9 ⟨rfl, hf⟩))
  have c0 := hf.at_ (List.mem_cons_self ..) 0 rfl
  have c1 := hf.at_ (List.mem_cons_self ..) 1 rfl
  have c2 := hf.at_ (List.mem_cons_self ..) 2 rfl
  have c3 := hf.at_ (List.mem_cons_self ..) 3 rfl
  have c4 := hf.at_ (List.mem_cons_self ..) 4 rfl
  have d00 := hf.kid hbl KC0.out.1
  have d01 := hf.kid hbl KC0.out.2.1
  have d02 := hf.kid hbl KC0.out.2.2.1
  have d03 := hf.kid hbl KC0.out.2.2.2.1
  have d04 := hf.kid hbl KC0.out.2.2.2.2
  have d10 := hf.kid hbl KC1.out.1
  have d11 := hf.kid hbl KC1.out.2.1
  have d12 := hf.kid hbl KC1.out.2.2.1
  have d13 := hf.kid hbl KC1.out.2.2.2.1
  have d14 := hf.kid hbl KC1.out.2.2.2.2
  have d20 := hf.kid hbl KC2.out.1
  have d21 := hf.kid hbl KC2.out.2.1
  have d22 := hf.kid hbl KC2.out.2.2.1
  have d23 := hf.kid hbl KC2.out.2.2.2.1
  have d24 := hf.kid hbl KC2.out.2.2.2.2
  have HSB := Lib.hid hf
  clear hf
  go_wp2_with (go_at_call 72; refine (HSB.out.call (expr_any h2 _ HY2.out _ false inn false _ bp _ hi HSB.out.pr HSB.out.len (HSB.out.lies HL2.out))).mono ?_; rintro e w1 ⟨rfl, hf⟩)
  go_end0
  exact hf.fin

set_option maxHeartbeats 4000000 in
set_option maxRecDepth 100000 in
theorem stmt_two21 {s : ByteArray} {n : Int} {y0 y1 y2 : Nd} {ys : List Nd} (h2 : CanB y2) (t : Nd) (htc : t.strip = .mk 21 s n 0 (y0 :: y1 :: y2 :: ys)) (v : Value) (inn : Int) (x : WX) (bp : Nat) (w : World) (hi : okI inn) (h : PrAt bp x.1 x.2 w) (hlen : x.1.length ≤ 60000) (hl : Lies w bp t v) :
    Calls Tryz.prog 55 #[.pointer (some ⟨bp, 0, none⟩), v, .int .i64 inn] w (WrPost bp (exprF y2 false inn false (putL x [y0.text, ⟨#[44, 32]⟩, y1.text, ⟨#[32, 61, 32]⟩])) w) := by
  have HTC := Lib.hid htc
  have HL := Lib.hid hl
  obtain ⟨k', s', n', a, ks⟩ := t
  obtain ⟨rfl, rfl, rfl, hks⟩ := strip_mk htc
  obtain ⟨⟨k0, s0, n0, a0, ks0⟩, tr0, rfl, hy0, hks⟩ := stripL_cons hks
  have HY0 := Lib.hid hy0
  clear hy0
  obtain ⟨⟨k1, s1, n1, a1, ks1⟩, tr1, rfl, hy1, hks⟩ := stripL_cons hks
  have HY1 := Lib.hid hy1
  clear hy1
  obtain ⟨⟨k2, s2, n2, a2, ks2⟩, tr2, rfl, hy2, hks⟩ := stripL_cons hks
  have HY2 := Lib.hid hy2
  clear hy2
  have HKS := Lib.hid hks
  unfold Lies at hl
  obtain ⟨A, cap, rfl, _, _, _, hsz, hcl, hcc, hkl⟩ := hl
  obtain ⟨b, o, rfl, hbl, hkl⟩ := kids_some hkl
  obtain ⟨A0, cap0, hKC0, hL0⟩ := LiesL.kid0 rfl hkl
  have KC0 := Lib.hid hKC0
  have HL0 := Lib.hid hL0
  have hsz0 := hL0.size
  clear hKC0 hL0
  obtain ⟨A1, cap1, hKC1, hL1⟩ := LiesL.kidm 1 5 rfl rfl hkl
  have KC1 := Lib.hid hKC1
  have HL1 := Lib.hid hL1
  have hsz1 := hL1.size
  clear hKC1 hL1
  obtain ⟨A2, cap2, hKC2, hL2⟩ := LiesL.kidm 2 10 rfl rfl hkl
  have KC2 := Lib.hid hKC2
  have HL2 := Lib.hid hL2
  have hsz2 := hL2.size
  clear hKC2 hL2
  have HKL := Lib.hid hkl
  have hs := PSt.init h hlen #[.int .i64 21, .string s, .int .i64 n, .int .i64 a, .slice (some ⟨b, o, none⟩) (.mk k0 s0 n0 a0 ks0 :: .mk k1 s1 n1 a1 ks1 :: .mk k2 s2 n2 a2 ks2 :: tr2 : List Nd).length cap]
  simp only [List.length_cons] at hcl hs ⊢
  have c0 := hs.at_ (List.mem_cons_self ..) 0 rfl
  have c1 := hs.at_ (List.mem_cons_self ..) 1 rfl
  have c2 := hs.at_ (List.mem_cons_self ..) 2 rfl
  have c3 := hs.at_ (List.mem_cons_self ..) 3 rfl
  have c4 := hs.at_ (List.mem_cons_self ..) 4 rfl
  have d00 := hs.kid hbl KC0.out.1
  have d01 := hs.kid hbl KC0.out.2.1
  have d02 := hs.kid hbl KC0.out.2.2.1
  have d03 := hs.kid hbl KC0.out.2.2.2.1
  have d04 := hs.kid hbl KC0.out.2.2.2.2
  have d10 := hs.kid hbl KC1.out.1
  have d11 := hs.kid hbl KC1.out.2.1
  have d12 := hs.kid hbl KC1.out.2.2.1
  have d13 := hs.kid hbl KC1.out.2.2.2.1
  have d14 := hs.kid hbl KC1.out.2.2.2.2
  have d20 := hs.kid hbl KC2.out.1
  have d21 := hs.kid hbl KC2.out.2.1
  have d22 := hs.kid hbl KC2.out.2.2.1
  have d23 := hs.kid hbl KC2.out.2.2.2.1
  have d24 := hs.kid hbl KC2.out.2.2.2.2
  have HS := Lib.hid hs
  clear h hs htc hks hkl
  have b0 : (0 : Int) < (tr2.length : Int) + 1 + 1 + 1 := by omega
  have b1 : (1 : Int) < (tr2.length : Int) + 1 + 1 + 1 := by omega
  have b2 : (2 : Int) < (tr2.length : Int) + 1 + 1 + 1 := by omega
  have ht0 : y0.text = s0 := by rw [← HY0.out, strip_text]; rfl
  rw [ht0]
  clear ht0
  have ht1 : y1.text = s1 := by rw [← HY1.out, strip_text]; rfl
  rw [ht1]
  clear ht1
  go_enter Tryz.func55, Tryz.ntmps55
  go_upto_region 19 with fail
  have K : ∀ y W, PSt bp w [(w.heap.size, #[.int .i64 21, .string s, .int .i64 n, .int .i64 a, .slice (some ⟨b, o, none⟩) (tr2.length + 1 + 1 + 1) cap])] y W → (∃ y, PSt bp w [(w.heap.size, #[.int .i64 21, .string s, .int .i64 n, .int .i64 a, .slice (some ⟨b, o, none⟩) (tr2.length + 1 + 1 + 1) cap])] y W) ∧ W.cell? ⟨w.heap.size, 0, none⟩ = some (.int .i64 21) ∧ W.cell? ⟨w.heap.size, 1, none⟩ = some (.string s) ∧ W.cell? ⟨w.heap.size, 2, none⟩ = some (.int .i64 n) ∧ W.cell? ⟨w.heap.size, 3, none⟩ = some (.int .i64 a) ∧ W.cell? ⟨w.heap.size, 4, none⟩ = some (.slice (some ⟨b, o, none⟩) (tr2.length + 1 + 1 + 1) cap) ∧ W.cell? ⟨b, o, none⟩ = some (.int .i64 k0) ∧ W.cell? ⟨b, o + 1, none⟩ = some (.string s0) ∧ W.cell? ⟨b, o + 2, none⟩ = some (.int .i64 n0) ∧ W.cell? ⟨b, o + 3, none⟩ = some (.int .i64 a0) ∧ W.cell? ⟨b, o + 4, none⟩ = some (.slice A0 ks0.length cap0) ∧ W.cell? ⟨b, o + 5, none⟩ = some (.int .i64 k1) ∧ W.cell? ⟨b, o + 5 + 1, none⟩ = some (.string s1) ∧ W.cell? ⟨b, o + 5 + 2, none⟩ = some (.int .i64 n1) ∧ W.cell? ⟨b, o + 5 + 3, none⟩ = some (.int .i64 a1) ∧ W.cell? ⟨b, o + 5 + 4, none⟩ = some (.slice A1 ks1.length cap1) := fun y W hW => ⟨⟨_, hW⟩, hW.at_ (List.mem_cons_self ..) 0 rfl, hW.at_ (List.mem_cons_self ..) 1 rfl, hW.at_ (List.mem_cons_self ..) 2 rfl, hW.at_ (List.mem_cons_self ..) 3 rfl, hW.at_ (List.mem_cons_self ..) 4 rfl, hW.kid hbl KC0.out.1, hW.kid hbl KC0.out.2.1, hW.kid hbl KC0.out.2.2.1, hW.kid hbl KC0.out.2.2.2.1, hW.kid hbl KC0.out.2.2.2.2, hW.kid hbl KC1.out.1, hW.kid hbl KC1.out.2.1, hW.kid hbl KC1.out.2.2.1, hW.kid hbl KC1.out.2.2.2.1, hW.kid hbl KC1.out.2.2.2.2⟩
  have K' := Lib.hid K
  clear K
  go_region_held3 (fun W => (∃ y, PSt bp w [(w.heap.size, #[.int .i64 21, .string s, .int .i64 n, .int .i64 a, .slice (some ⟨b, o, none⟩) (tr2.length + 1 + 1 + 1) cap])] y W) ∧ W.cell? ⟨w.heap.size, 0, none⟩ = some (.int .i64 21) ∧ W.cell? ⟨w.heap.size, 1, none⟩ = some (.string s) ∧ W.cell? ⟨w.heap.size, 2, none⟩ = some (.int .i64 n) ∧ W.cell? ⟨w.heap.size, 3, none⟩ = some (.int .i64 a) ∧ W.cell? ⟨w.heap.size, 4, none⟩ = some (.slice (some ⟨b, o, none⟩) (tr2.length + 1 + 1 + 1) cap) ∧ W.cell? ⟨b, o, none⟩ = some (.int .i64 k0) ∧ W.cell? ⟨b, o + 1, none⟩ = some (.string s0) ∧ W.cell? ⟨b, o + 2, none⟩ = some (.int .i64 n0) ∧ W.cell? ⟨b, o + 3, none⟩ = some (.int .i64 a0) ∧ W.cell? ⟨b, o + 4, none⟩ = some (.slice A0 ks0.length cap0) ∧ W.cell? ⟨b, o + 5, none⟩ = some (.int .i64 k1) ∧ W.cell? ⟨b, o + 5 + 1, none⟩ = some (.string s1) ∧ W.cell? ⟨b, o + 5 + 2, none⟩ = some (.int .i64 n1) ∧ W.cell? ⟨b, o + 5 + 3, none⟩ = some (.int .i64 a1) ∧ W.cell? ⟨b, o + 5 + 4, none⟩ = some (.slice A1 ks1.length cap1))
    (first
      | exact K'.out _ _ HS.out.drew
      | exact K'.out _ _ (HS.out.drew.alloc _)
      | exact K'.out _ _ hf)
    (first
      | (go_at_call 49; refine (HS.out.drew.put4 s0 ⟨#[44, 32]⟩ s1 ⟨#[32, 61, 32]⟩ hsz0 (by decide) hsz1 (by decide)).mono ?_; rintro e w9 ⟨rfl, hf⟩))
  have c0 := hf.at_ (List.mem_cons_self ..) 0 rfl
  have c1 := hf.at_ (List.mem_cons_self ..) 1 rfl
  have c2 := hf.at_ (List.mem_cons_self ..) 2 rfl
  have c3 := hf.at_ (List.mem_cons_self ..) 3 rfl
  have c4 := hf.at_ (List.mem_cons_self ..) 4 rfl
  have d00 := hf.kid hbl KC0.out.1
  have d01 := hf.kid hbl KC0.out.2.1
  have d02 := hf.kid hbl KC0.out.2.2.1
  have d03 := hf.kid hbl KC0.out.2.2.2.1
  have d04 := hf.kid hbl KC0.out.2.2.2.2
  have d10 := hf.kid hbl KC1.out.1
  have d11 := hf.kid hbl KC1.out.2.1
  have d12 := hf.kid hbl KC1.out.2.2.1
  have d13 := hf.kid hbl KC1.out.2.2.2.1
  have d14 := hf.kid hbl KC1.out.2.2.2.2
  have d20 := hf.kid hbl KC2.out.1
  have d21 := hf.kid hbl KC2.out.2.1
  have d22 := hf.kid hbl KC2.out.2.2.1
  have d23 := hf.kid hbl KC2.out.2.2.2.1
  have d24 := hf.kid hbl KC2.out.2.2.2.2
  have HSB := Lib.hid hf
  clear hf
  go_wp2_with (go_at_call 72; refine (HSB.out.call (expr_any h2 _ HY2.out _ false inn false _ bp _ hi HSB.out.pr HSB.out.len (HSB.out.lies HL2.out))).mono ?_; rintro e w1 ⟨rfl, hf⟩)
  go_end0
  exact hf.fin

set_option maxHeartbeats 4000000 in
set_option maxRecDepth 100000 in
theorem stmt_assign {s : ByteArray} {n : Int} {y0 y1 : Nd} {ys : List Nd} (h0 : CanB y0) (h1 : CanB y1) (t : Nd) (htc : t.strip = .mk 20 s n 0 (y0 :: y1 :: ys)) (v : Value) (inn : Int) (x : WX) (bp : Nat) (w : World) (hi : okI inn) (h : PrAt bp x.1 x.2 w) (hlen : x.1.length ≤ 60000) (hl : Lies w bp t v) :
    Calls Tryz.prog 55 #[.pointer (some ⟨bp, 0, none⟩), v, .int .i64 inn] w (WrPost bp (exprF y1 false inn false (putL (exprF y0 false inn false x) [⟨#[32]⟩, s, ⟨#[32]⟩])) w) := by
  have HTC := Lib.hid htc
  have HL := Lib.hid hl
  obtain ⟨k', s', n', a, ks⟩ := t
  obtain ⟨rfl, rfl, rfl, hks⟩ := strip_mk htc
  obtain ⟨⟨k0, s0, n0, a0, ks0⟩, tr0, rfl, hy0, hks⟩ := stripL_cons hks
  have HY0 := Lib.hid hy0
  clear hy0
  obtain ⟨⟨k1, s1, n1, a1, ks1⟩, tr1, rfl, hy1, hks⟩ := stripL_cons hks
  have HY1 := Lib.hid hy1
  clear hy1
  have HKS := Lib.hid hks
  unfold Lies at hl
  obtain ⟨A, cap, rfl, _, _, _, hsz, hcl, hcc, hkl⟩ := hl
  obtain ⟨b, o, rfl, hbl, hkl⟩ := kids_some hkl
  obtain ⟨A0, cap0, hKC0, hL0⟩ := LiesL.kid0 rfl hkl
  have KC0 := Lib.hid hKC0
  have HL0 := Lib.hid hL0
  have hsz0 := hL0.size
  clear hKC0 hL0
  obtain ⟨A1, cap1, hKC1, hL1⟩ := LiesL.kidm 1 5 rfl rfl hkl
  have KC1 := Lib.hid hKC1
  have HL1 := Lib.hid hL1
  have hsz1 := hL1.size
  clear hKC1 hL1
  have HKL := Lib.hid hkl
  have hs := PSt.init h hlen #[.int .i64 20, .string s, .int .i64 n, .int .i64 a, .slice (some ⟨b, o, none⟩) (.mk k0 s0 n0 a0 ks0 :: .mk k1 s1 n1 a1 ks1 :: tr1 : List Nd).length cap]
  simp only [List.length_cons] at hcl hs ⊢
  have c0 := hs.at_ (List.mem_cons_self ..) 0 rfl
  have c1 := hs.at_ (List.mem_cons_self ..) 1 rfl
  have c2 := hs.at_ (List.mem_cons_self ..) 2 rfl
  have c3 := hs.at_ (List.mem_cons_self ..) 3 rfl
  have c4 := hs.at_ (List.mem_cons_self ..) 4 rfl
  have d00 := hs.kid hbl KC0.out.1
  have d01 := hs.kid hbl KC0.out.2.1
  have d02 := hs.kid hbl KC0.out.2.2.1
  have d03 := hs.kid hbl KC0.out.2.2.2.1
  have d04 := hs.kid hbl KC0.out.2.2.2.2
  have d10 := hs.kid hbl KC1.out.1
  have d11 := hs.kid hbl KC1.out.2.1
  have d12 := hs.kid hbl KC1.out.2.2.1
  have d13 := hs.kid hbl KC1.out.2.2.2.1
  have d14 := hs.kid hbl KC1.out.2.2.2.2
  have HS := Lib.hid hs
  clear h hs htc hks hkl
  have b0 : (0 : Int) < (tr1.length : Int) + 1 + 1 := by omega
  have b1 : (1 : Int) < (tr1.length : Int) + 1 + 1 := by omega
  go_enter Tryz.func55, Tryz.ntmps55
  go_wp2_with (first
      | (go_at_call 72; refine (HS.out.call (expr_any h0 _ HY0.out _ false inn false _ bp _ hi HS.out.pr HS.out.len (HS.out.lies HL0.out))).mono ?_; clear HS; rintro e w1 ⟨rfl, hh⟩
         have c0 := hh.at_ (List.mem_cons_self ..) 0 rfl
         have c1 := hh.at_ (List.mem_cons_self ..) 1 rfl
         have c2 := hh.at_ (List.mem_cons_self ..) 2 rfl
         have c3 := hh.at_ (List.mem_cons_self ..) 3 rfl
         have c4 := hh.at_ (List.mem_cons_self ..) 4 rfl
         have d00 := hh.kid hbl KC0.out.1
         have d01 := hh.kid hbl KC0.out.2.1
         have d02 := hh.kid hbl KC0.out.2.2.1
         have d03 := hh.kid hbl KC0.out.2.2.2.1
         have d04 := hh.kid hbl KC0.out.2.2.2.2
         have d10 := hh.kid hbl KC1.out.1
         have d11 := hh.kid hbl KC1.out.2.1
         have d12 := hh.kid hbl KC1.out.2.2.1
         have d13 := hh.kid hbl KC1.out.2.2.2.1
         have d14 := hh.kid hbl KC1.out.2.2.2.2
         have HS1 := Lib.hid hh
         clear hh)
      | (go_at_call 49; refine (HS1.out.put3 ⟨#[32]⟩ s ⟨#[32]⟩ (by decide) hsz (by decide)).mono ?_; clear HS1; rintro e w2 ⟨rfl, hh⟩
         have c0 := hh.at_ (List.mem_cons_self ..) 0 rfl
         have c1 := hh.at_ (List.mem_cons_self ..) 1 rfl
         have c2 := hh.at_ (List.mem_cons_self ..) 2 rfl
         have c3 := hh.at_ (List.mem_cons_self ..) 3 rfl
         have c4 := hh.at_ (List.mem_cons_self ..) 4 rfl
         have d00 := hh.kid hbl KC0.out.1
         have d01 := hh.kid hbl KC0.out.2.1
         have d02 := hh.kid hbl KC0.out.2.2.1
         have d03 := hh.kid hbl KC0.out.2.2.2.1
         have d04 := hh.kid hbl KC0.out.2.2.2.2
         have d10 := hh.kid hbl KC1.out.1
         have d11 := hh.kid hbl KC1.out.2.1
         have d12 := hh.kid hbl KC1.out.2.2.1
         have d13 := hh.kid hbl KC1.out.2.2.2.1
         have d14 := hh.kid hbl KC1.out.2.2.2.2
         have HS2 := Lib.hid hh
         clear hh)
      | (go_at_call 72; refine (HS2.out.call (expr_any h1 _ HY1.out _ false inn false _ bp _ hi HS2.out.pr HS2.out.len (HS2.out.lies HL1.out))).mono ?_; rintro e w3 ⟨rfl, hf⟩))
  go_end0
  exact hf.fin

set_option maxHeartbeats 4000000 in
set_option maxRecDepth 100000 in
theorem stmt_if1 {s : ByteArray} {n : Int} {y0 y1 y2 : Nd} {ys : List Nd} (h0 : y0.kind ≠ 16 → CanB y0) (h1 : ∀ y ∈ y1.kids, CanS y) (hn2 : y2.kind = 16) (t : Nd) (htc : t.strip = .mk 22 s n 0 (y0 :: y1 :: y2 :: ys)) (v : Value) (inn : Int) (x : WX) (bp : Nat) (w : World) (hi : okI inn) (h : PrAt bp x.1 x.2 w) (hlen : x.1.length ≤ 60000) (hl : Lies w bp t v) :
    Calls Tryz.prog 55 #[.pointer (some ⟨bp, 0, none⟩), v, .int .i64 inn] w (WrPost bp (blockF y1 inn (headF y0 inn (putL x [⟨#[105, 102, 32]⟩]))) w) := by
  have HTC := Lib.hid htc
  have HL := Lib.hid hl
  obtain ⟨k', s', n', a, ks⟩ := t
  obtain ⟨rfl, rfl, rfl, hks⟩ := strip_mk htc
  obtain ⟨⟨k0, s0, n0, a0, ks0⟩, tr0, rfl, hy0, hks⟩ := stripL_cons hks
  have HY0 := Lib.hid hy0
  clear hy0
  obtain ⟨⟨k1, s1, n1, a1, ks1⟩, tr1, rfl, hy1, hks⟩ := stripL_cons hks
  have HY1 := Lib.hid hy1
  clear hy1
  obtain ⟨⟨k2, s2, n2, a2, ks2⟩, tr2, rfl, hy2, hks⟩ := stripL_cons hks
  have HY2 := Lib.hid hy2
  clear hy2
  have HKS := Lib.hid hks
  unfold Lies at hl
  obtain ⟨A, cap, rfl, _, _, _, hsz, hcl, hcc, hkl⟩ := hl
  obtain ⟨b, o, rfl, hbl, hkl⟩ := kids_some hkl
  obtain ⟨A0, cap0, hKC0, hL0⟩ := LiesL.kid0 rfl hkl
  have KC0 := Lib.hid hKC0
  have HL0 := Lib.hid hL0
  have hsz0 := hL0.size
  clear hKC0 hL0
  obtain ⟨A1, cap1, hKC1, hL1⟩ := LiesL.kidm 1 5 rfl rfl hkl
  have KC1 := Lib.hid hKC1
  have HL1 := Lib.hid hL1
  have hsz1 := hL1.size
  clear hKC1 hL1
  obtain ⟨A2, cap2, hKC2, hL2⟩ := LiesL.kidm 2 10 rfl rfl hkl
  have KC2 := Lib.hid hKC2
  have HL2 := Lib.hid hL2
  have hsz2 := hL2.size
  clear hKC2 hL2
  have HKL := Lib.hid hkl
  have hs := PSt.init h hlen #[.int .i64 22, .string s, .int .i64 n, .int .i64 a, .slice (some ⟨b, o, none⟩) (.mk k0 s0 n0 a0 ks0 :: .mk k1 s1 n1 a1 ks1 :: .mk k2 s2 n2 a2 ks2 :: tr2 : List Nd).length cap]
  simp only [List.length_cons] at hcl hs ⊢
  have c0 := hs.at_ (List.mem_cons_self ..) 0 rfl
  have c1 := hs.at_ (List.mem_cons_self ..) 1 rfl
  have c2 := hs.at_ (List.mem_cons_self ..) 2 rfl
  have c3 := hs.at_ (List.mem_cons_self ..) 3 rfl
  have c4 := hs.at_ (List.mem_cons_self ..) 4 rfl
  have d00 := hs.kid hbl KC0.out.1
  have d01 := hs.kid hbl KC0.out.2.1
  have d02 := hs.kid hbl KC0.out.2.2.1
  have d03 := hs.kid hbl KC0.out.2.2.2.1
  have d04 := hs.kid hbl KC0.out.2.2.2.2
  have d10 := hs.kid hbl KC1.out.1
  have d11 := hs.kid hbl KC1.out.2.1
  have d12 := hs.kid hbl KC1.out.2.2.1
  have d13 := hs.kid hbl KC1.out.2.2.2.1
  have d14 := hs.kid hbl KC1.out.2.2.2.2
  have d20 := hs.kid hbl KC2.out.1
  have d21 := hs.kid hbl KC2.out.2.1
  have d22 := hs.kid hbl KC2.out.2.2.1
  have d23 := hs.kid hbl KC2.out.2.2.2.1
  have d24 := hs.kid hbl KC2.out.2.2.2.2
  have HS := Lib.hid hs
  clear h hs htc hks hkl
  have b0 : (0 : Int) < (tr2.length : Int) + 1 + 1 + 1 := by omega
  have b1 : (1 : Int) < (tr2.length : Int) + 1 + 1 + 1 := by omega
  have b2 : (2 : Int) < (tr2.length : Int) + 1 + 1 + 1 := by omega
  have hk2 : k2 = 16 := by have h := hn2; rw [← HY2.out, strip_kind] at h; exact h
  subst hk2
  clear hn2
  go_enter Tryz.func55, Tryz.ntmps55
  go_wp2_with (first
      | (go_at_call 49; refine (HS.out.put1 ⟨#[105, 102, 32]⟩ (by decide)).mono ?_; clear HS; rintro e w1 ⟨rfl, hh⟩
         have c0 := hh.at_ (List.mem_cons_self ..) 0 rfl
         have c1 := hh.at_ (List.mem_cons_self ..) 1 rfl
         have c2 := hh.at_ (List.mem_cons_self ..) 2 rfl
         have c3 := hh.at_ (List.mem_cons_self ..) 3 rfl
         have c4 := hh.at_ (List.mem_cons_self ..) 4 rfl
         have d00 := hh.kid hbl KC0.out.1
         have d01 := hh.kid hbl KC0.out.2.1
         have d02 := hh.kid hbl KC0.out.2.2.1
         have d03 := hh.kid hbl KC0.out.2.2.2.1
         have d04 := hh.kid hbl KC0.out.2.2.2.2
         have d10 := hh.kid hbl KC1.out.1
         have d11 := hh.kid hbl KC1.out.2.1
         have d12 := hh.kid hbl KC1.out.2.2.1
         have d13 := hh.kid hbl KC1.out.2.2.2.1
         have d14 := hh.kid hbl KC1.out.2.2.2.2
         have d20 := hh.kid hbl KC2.out.1
         have d21 := hh.kid hbl KC2.out.2.1
         have d22 := hh.kid hbl KC2.out.2.2.1
         have d23 := hh.kid hbl KC2.out.2.2.2.1
         have d24 := hh.kid hbl KC2.out.2.2.2.2
         have HS1 := Lib.hid hh
         clear hh)
      | (go_at_call 80; refine (HS1.out.call (head_any h0 _ HY0.out _ inn _ bp _ hi HS1.out.pr HS1.out.len (HS1.out.lies HL0.out))).mono ?_; clear HS1; rintro e w2 ⟨rfl, hh⟩
         have c0 := hh.at_ (List.mem_cons_self ..) 0 rfl
         have c1 := hh.at_ (List.mem_cons_self ..) 1 rfl
         have c2 := hh.at_ (List.mem_cons_self ..) 2 rfl
         have c3 := hh.at_ (List.mem_cons_self ..) 3 rfl
         have c4 := hh.at_ (List.mem_cons_self ..) 4 rfl
         have d00 := hh.kid hbl KC0.out.1
         have d01 := hh.kid hbl KC0.out.2.1
         have d02 := hh.kid hbl KC0.out.2.2.1
         have d03 := hh.kid hbl KC0.out.2.2.2.1
         have d04 := hh.kid hbl KC0.out.2.2.2.2
         have d10 := hh.kid hbl KC1.out.1
         have d11 := hh.kid hbl KC1.out.2.1
         have d12 := hh.kid hbl KC1.out.2.2.1
         have d13 := hh.kid hbl KC1.out.2.2.2.1
         have d14 := hh.kid hbl KC1.out.2.2.2.2
         have d20 := hh.kid hbl KC2.out.1
         have d21 := hh.kid hbl KC2.out.2.1
         have d22 := hh.kid hbl KC2.out.2.2.1
         have d23 := hh.kid hbl KC2.out.2.2.2.1
         have d24 := hh.kid hbl KC2.out.2.2.2.2
         have HS2 := Lib.hid hh
         clear hh)
      | (go_at_call 79; refine (HS2.out.call (block_any h1 _ HY1.out _ inn _ bp _ hi HS2.out.pr HS2.out.len (HS2.out.lies HL1.out))).mono ?_; rintro e w3 ⟨rfl, hf⟩
         have c0 := hf.at_ (List.mem_cons_self ..) 0 rfl
         have c1 := hf.at_ (List.mem_cons_self ..) 1 rfl
         have c2 := hf.at_ (List.mem_cons_self ..) 2 rfl
         have c3 := hf.at_ (List.mem_cons_self ..) 3 rfl
         have c4 := hf.at_ (List.mem_cons_self ..) 4 rfl
         have d00 := hf.kid hbl KC0.out.1
         have d01 := hf.kid hbl KC0.out.2.1
         have d02 := hf.kid hbl KC0.out.2.2.1
         have d03 := hf.kid hbl KC0.out.2.2.2.1
         have d04 := hf.kid hbl KC0.out.2.2.2.2
         have d10 := hf.kid hbl KC1.out.1
         have d11 := hf.kid hbl KC1.out.2.1
         have d12 := hf.kid hbl KC1.out.2.2.1
         have d13 := hf.kid hbl KC1.out.2.2.2.1
         have d14 := hf.kid hbl KC1.out.2.2.2.2
         have d20 := hf.kid hbl KC2.out.1
         have d21 := hf.kid hbl KC2.out.2.1
         have d22 := hf.kid hbl KC2.out.2.2.1
         have d23 := hf.kid hbl KC2.out.2.2.2.1
         have d24 := hf.kid hbl KC2.out.2.2.2.2))
  go_end0
  exact hf.fin

set_option maxHeartbeats 4000000 in
set_option maxRecDepth 100000 in
theorem stmt_if2 {s : ByteArray} {n : Int} {y0 y1 y2 : Nd} {ys : List Nd} (h0 : y0.kind ≠ 16 → CanB y0) (h1 : ∀ y ∈ y1.kids, CanS y) (hn2 : y2.kind ≠ 16) (h2 : CanS y2) (t : Nd) (htc : t.strip = .mk 22 s n 0 (y0 :: y1 :: y2 :: ys)) (v : Value) (inn : Int) (x : WX) (bp : Nat) (w : World) (hi : okI inn) (h : PrAt bp x.1 x.2 w) (hlen : x.1.length ≤ 60000) (hl : Lies w bp t v) :
    Calls Tryz.prog 55 #[.pointer (some ⟨bp, 0, none⟩), v, .int .i64 inn] w (WrPost bp (stmtF y2 inn (putL (blockF y1 inn (headF y0 inn (putL x [⟨#[105, 102, 32]⟩]))) [⟨#[32, 101, 108, 115, 101, 32]⟩])) w) := by
  have HTC := Lib.hid htc
  have HL := Lib.hid hl
  obtain ⟨k', s', n', a, ks⟩ := t
  obtain ⟨rfl, rfl, rfl, hks⟩ := strip_mk htc
  obtain ⟨⟨k0, s0, n0, a0, ks0⟩, tr0, rfl, hy0, hks⟩ := stripL_cons hks
  have HY0 := Lib.hid hy0
  clear hy0
  obtain ⟨⟨k1, s1, n1, a1, ks1⟩, tr1, rfl, hy1, hks⟩ := stripL_cons hks
  have HY1 := Lib.hid hy1
  clear hy1
  obtain ⟨⟨k2, s2, n2, a2, ks2⟩, tr2, rfl, hy2, hks⟩ := stripL_cons hks
  have HY2 := Lib.hid hy2
  clear hy2
  have HKS := Lib.hid hks
  unfold Lies at hl
  obtain ⟨A, cap, rfl, _, _, _, hsz, hcl, hcc, hkl⟩ := hl
  obtain ⟨b, o, rfl, hbl, hkl⟩ := kids_some hkl
  obtain ⟨A0, cap0, hKC0, hL0⟩ := LiesL.kid0 rfl hkl
  have KC0 := Lib.hid hKC0
  have HL0 := Lib.hid hL0
  have hsz0 := hL0.size
  clear hKC0 hL0
  obtain ⟨A1, cap1, hKC1, hL1⟩ := LiesL.kidm 1 5 rfl rfl hkl
  have KC1 := Lib.hid hKC1
  have HL1 := Lib.hid hL1
  have hsz1 := hL1.size
  clear hKC1 hL1
  obtain ⟨A2, cap2, hKC2, hL2⟩ := LiesL.kidm 2 10 rfl rfl hkl
  have KC2 := Lib.hid hKC2
  have HL2 := Lib.hid hL2
  have hsz2 := hL2.size
  clear hKC2 hL2
  have HKL := Lib.hid hkl
  have hs := PSt.init h hlen #[.int .i64 22, .string s, .int .i64 n, .int .i64 a, .slice (some ⟨b, o, none⟩) (.mk k0 s0 n0 a0 ks0 :: .mk k1 s1 n1 a1 ks1 :: .mk k2 s2 n2 a2 ks2 :: tr2 : List Nd).length cap]
  simp only [List.length_cons] at hcl hs ⊢
  have c0 := hs.at_ (List.mem_cons_self ..) 0 rfl
  have c1 := hs.at_ (List.mem_cons_self ..) 1 rfl
  have c2 := hs.at_ (List.mem_cons_self ..) 2 rfl
  have c3 := hs.at_ (List.mem_cons_self ..) 3 rfl
  have c4 := hs.at_ (List.mem_cons_self ..) 4 rfl
  have d00 := hs.kid hbl KC0.out.1
  have d01 := hs.kid hbl KC0.out.2.1
  have d02 := hs.kid hbl KC0.out.2.2.1
  have d03 := hs.kid hbl KC0.out.2.2.2.1
  have d04 := hs.kid hbl KC0.out.2.2.2.2
  have d10 := hs.kid hbl KC1.out.1
  have d11 := hs.kid hbl KC1.out.2.1
  have d12 := hs.kid hbl KC1.out.2.2.1
  have d13 := hs.kid hbl KC1.out.2.2.2.1
  have d14 := hs.kid hbl KC1.out.2.2.2.2
  have d20 := hs.kid hbl KC2.out.1
  have d21 := hs.kid hbl KC2.out.2.1
  have d22 := hs.kid hbl KC2.out.2.2.1
  have d23 := hs.kid hbl KC2.out.2.2.2.1
  have d24 := hs.kid hbl KC2.out.2.2.2.2
  have HS := Lib.hid hs
  clear h hs htc hks hkl
  have b0 : (0 : Int) < (tr2.length : Int) + 1 + 1 + 1 := by omega
  have b1 : (1 : Int) < (tr2.length : Int) + 1 + 1 + 1 := by omega
  have b2 : (2 : Int) < (tr2.length : Int) + 1 + 1 + 1 := by omega
  have hk2 : (k2 == 16) = false := by have h := hn2; rw [← HY2.out, strip_kind] at h; exact beq_eq_false_iff_ne.2 h
  clear hn2
  go_enter Tryz.func55, Tryz.ntmps55
  go_wp2_with (first
      | (go_at_call 49; refine (HS.out.put1 ⟨#[105, 102, 32]⟩ (by decide)).mono ?_; clear HS; rintro e w1 ⟨rfl, hh⟩
         have c0 := hh.at_ (List.mem_cons_self ..) 0 rfl
         have c1 := hh.at_ (List.mem_cons_self ..) 1 rfl
         have c2 := hh.at_ (List.mem_cons_self ..) 2 rfl
         have c3 := hh.at_ (List.mem_cons_self ..) 3 rfl
         have c4 := hh.at_ (List.mem_cons_self ..) 4 rfl
         have d00 := hh.kid hbl KC0.out.1
         have d01 := hh.kid hbl KC0.out.2.1
         have d02 := hh.kid hbl KC0.out.2.2.1
         have d03 := hh.kid hbl KC0.out.2.2.2.1
         have d04 := hh.kid hbl KC0.out.2.2.2.2
         have d10 := hh.kid hbl KC1.out.1
         have d11 := hh.kid hbl KC1.out.2.1
         have d12 := hh.kid hbl KC1.out.2.2.1
         have d13 := hh.kid hbl KC1.out.2.2.2.1
         have d14 := hh.kid hbl KC1.out.2.2.2.2
         have d20 := hh.kid hbl KC2.out.1
         have d21 := hh.kid hbl KC2.out.2.1
         have d22 := hh.kid hbl KC2.out.2.2.1
         have d23 := hh.kid hbl KC2.out.2.2.2.1
         have d24 := hh.kid hbl KC2.out.2.2.2.2
         have HS1 := Lib.hid hh
         clear hh)
      | (go_at_call 80; refine (HS1.out.call (head_any h0 _ HY0.out _ inn _ bp _ hi HS1.out.pr HS1.out.len (HS1.out.lies HL0.out))).mono ?_; clear HS1; rintro e w2 ⟨rfl, hh⟩
         have c0 := hh.at_ (List.mem_cons_self ..) 0 rfl
         have c1 := hh.at_ (List.mem_cons_self ..) 1 rfl
         have c2 := hh.at_ (List.mem_cons_self ..) 2 rfl
         have c3 := hh.at_ (List.mem_cons_self ..) 3 rfl
         have c4 := hh.at_ (List.mem_cons_self ..) 4 rfl
         have d00 := hh.kid hbl KC0.out.1
         have d01 := hh.kid hbl KC0.out.2.1
         have d02 := hh.kid hbl KC0.out.2.2.1
         have d03 := hh.kid hbl KC0.out.2.2.2.1
         have d04 := hh.kid hbl KC0.out.2.2.2.2
         have d10 := hh.kid hbl KC1.out.1
         have d11 := hh.kid hbl KC1.out.2.1
         have d12 := hh.kid hbl KC1.out.2.2.1
         have d13 := hh.kid hbl KC1.out.2.2.2.1
         have d14 := hh.kid hbl KC1.out.2.2.2.2
         have d20 := hh.kid hbl KC2.out.1
         have d21 := hh.kid hbl KC2.out.2.1
         have d22 := hh.kid hbl KC2.out.2.2.1
         have d23 := hh.kid hbl KC2.out.2.2.2.1
         have d24 := hh.kid hbl KC2.out.2.2.2.2
         have HS2 := Lib.hid hh
         clear hh)
      | (go_at_call 79; refine (HS2.out.call (block_any h1 _ HY1.out _ inn _ bp _ hi HS2.out.pr HS2.out.len (HS2.out.lies HL1.out))).mono ?_; clear HS2; rintro e w3 ⟨rfl, hh⟩
         have c0 := hh.at_ (List.mem_cons_self ..) 0 rfl
         have c1 := hh.at_ (List.mem_cons_self ..) 1 rfl
         have c2 := hh.at_ (List.mem_cons_self ..) 2 rfl
         have c3 := hh.at_ (List.mem_cons_self ..) 3 rfl
         have c4 := hh.at_ (List.mem_cons_self ..) 4 rfl
         have d00 := hh.kid hbl KC0.out.1
         have d01 := hh.kid hbl KC0.out.2.1
         have d02 := hh.kid hbl KC0.out.2.2.1
         have d03 := hh.kid hbl KC0.out.2.2.2.1
         have d04 := hh.kid hbl KC0.out.2.2.2.2
         have d10 := hh.kid hbl KC1.out.1
         have d11 := hh.kid hbl KC1.out.2.1
         have d12 := hh.kid hbl KC1.out.2.2.1
         have d13 := hh.kid hbl KC1.out.2.2.2.1
         have d14 := hh.kid hbl KC1.out.2.2.2.2
         have d20 := hh.kid hbl KC2.out.1
         have d21 := hh.kid hbl KC2.out.2.1
         have d22 := hh.kid hbl KC2.out.2.2.1
         have d23 := hh.kid hbl KC2.out.2.2.2.1
         have d24 := hh.kid hbl KC2.out.2.2.2.2
         have HS3 := Lib.hid hh
         clear hh)
      | (go_at_call 49; refine (HS3.out.put1 ⟨#[32, 101, 108, 115, 101, 32]⟩ (by decide)).mono ?_; clear HS3; rintro e w4 ⟨rfl, hh⟩
         have c0 := hh.at_ (List.mem_cons_self ..) 0 rfl
         have c1 := hh.at_ (List.mem_cons_self ..) 1 rfl
         have c2 := hh.at_ (List.mem_cons_self ..) 2 rfl
         have c3 := hh.at_ (List.mem_cons_self ..) 3 rfl
         have c4 := hh.at_ (List.mem_cons_self ..) 4 rfl
         have d00 := hh.kid hbl KC0.out.1
         have d01 := hh.kid hbl KC0.out.2.1
         have d02 := hh.kid hbl KC0.out.2.2.1
         have d03 := hh.kid hbl KC0.out.2.2.2.1
         have d04 := hh.kid hbl KC0.out.2.2.2.2
         have d10 := hh.kid hbl KC1.out.1
         have d11 := hh.kid hbl KC1.out.2.1
         have d12 := hh.kid hbl KC1.out.2.2.1
         have d13 := hh.kid hbl KC1.out.2.2.2.1
         have d14 := hh.kid hbl KC1.out.2.2.2.2
         have d20 := hh.kid hbl KC2.out.1
         have d21 := hh.kid hbl KC2.out.2.1
         have d22 := hh.kid hbl KC2.out.2.2.1
         have d23 := hh.kid hbl KC2.out.2.2.2.1
         have d24 := hh.kid hbl KC2.out.2.2.2.2
         have HS4 := Lib.hid hh
         clear hh)
      | (go_at_call 55; refine (HS4.out.call (h2 _ HY2.out _ inn _ bp _ hi HS4.out.pr HS4.out.len (HS4.out.lies HL2.out))).mono ?_; rintro e w5 ⟨rfl, hf⟩))
  go_end0
  exact hf.fin

set_option maxHeartbeats 4000000 in
set_option maxRecDepth 100000 in
theorem stmt_return1 {s : ByteArray} {n : Int} {y0 : Nd} {ys : List Nd} (hn0 : y0.kind = 16) (t : Nd) (htc : t.strip = .mk 28 s n 0 (y0 :: ys)) (v : Value) (inn : Int) (x : WX) (bp : Nat) (w : World) (_hi : okI inn) (h : PrAt bp x.1 x.2 w) (hlen : x.1.length ≤ 60000) (hl : Lies w bp t v) :
    Calls Tryz.prog 55 #[.pointer (some ⟨bp, 0, none⟩), v, .int .i64 inn] w (WrPost bp (putL x [⟨#[114, 101, 116, 117, 114, 110]⟩]) w) := by
  have HTC := Lib.hid htc
  have HL := Lib.hid hl
  obtain ⟨k', s', n', a, ks⟩ := t
  obtain ⟨rfl, rfl, rfl, hks⟩ := strip_mk htc
  obtain ⟨⟨k0, s0, n0, a0, ks0⟩, tr0, rfl, hy0, hks⟩ := stripL_cons hks
  have HY0 := Lib.hid hy0
  clear hy0
  have HKS := Lib.hid hks
  unfold Lies at hl
  obtain ⟨A, cap, rfl, _, _, _, hsz, hcl, hcc, hkl⟩ := hl
  obtain ⟨b, o, rfl, hbl, hkl⟩ := kids_some hkl
  obtain ⟨A0, cap0, hKC0, hL0⟩ := LiesL.kid0 rfl hkl
  have KC0 := Lib.hid hKC0
  have HL0 := Lib.hid hL0
  have hsz0 := hL0.size
  clear hKC0 hL0
  have HKL := Lib.hid hkl
  have hs := PSt.init h hlen #[.int .i64 28, .string s, .int .i64 n, .int .i64 a, .slice (some ⟨b, o, none⟩) (.mk k0 s0 n0 a0 ks0 :: tr0 : List Nd).length cap]
  simp only [List.length_cons] at hcl hs ⊢
  have c0 := hs.at_ (List.mem_cons_self ..) 0 rfl
  have c1 := hs.at_ (List.mem_cons_self ..) 1 rfl
  have c2 := hs.at_ (List.mem_cons_self ..) 2 rfl
  have c3 := hs.at_ (List.mem_cons_self ..) 3 rfl
  have c4 := hs.at_ (List.mem_cons_self ..) 4 rfl
  have d00 := hs.kid hbl KC0.out.1
  have d01 := hs.kid hbl KC0.out.2.1
  have d02 := hs.kid hbl KC0.out.2.2.1
  have d03 := hs.kid hbl KC0.out.2.2.2.1
  have d04 := hs.kid hbl KC0.out.2.2.2.2
  have HS := Lib.hid hs
  clear h hs htc hks hkl
  have b0 : (0 : Int) < (tr0.length : Int) + 1 := by omega
  have hk0 : k0 = 16 := by have h := hn0; rw [← HY0.out, strip_kind] at h; exact h
  subst hk0
  clear hn0
  go_enter Tryz.func55, Tryz.ntmps55
  go_wp2_with (go_at_call 49; refine (HS.out.put1 ⟨#[114, 101, 116, 117, 114, 110]⟩ (by decide)).mono ?_; rintro e w1 ⟨rfl, hf⟩; have c0 := hf.at_ (List.mem_cons_self ..) 0 rfl; have c1 := hf.at_ (List.mem_cons_self ..) 1 rfl; have c2 := hf.at_ (List.mem_cons_self ..) 2 rfl; have c3 := hf.at_ (List.mem_cons_self ..) 3 rfl; have c4 := hf.at_ (List.mem_cons_self ..) 4 rfl; have d00 := hf.kid hbl KC0.out.1; have d01 := hf.kid hbl KC0.out.2.1; have d02 := hf.kid hbl KC0.out.2.2.1; have d03 := hf.kid hbl KC0.out.2.2.2.1; have d04 := hf.kid hbl KC0.out.2.2.2.2)
  go_end0
  exact hf.fin

set_option maxHeartbeats 4000000 in
set_option maxRecDepth 100000 in
theorem stmt_return2 {s : ByteArray} {n : Int} {y0 : Nd} {ys : List Nd} (hn0 : y0.kind ≠ 16) (h0 : CanB y0) (t : Nd) (htc : t.strip = .mk 28 s n 0 (y0 :: ys)) (v : Value) (inn : Int) (x : WX) (bp : Nat) (w : World) (hi : okI inn) (h : PrAt bp x.1 x.2 w) (hlen : x.1.length ≤ 60000) (hl : Lies w bp t v) :
    Calls Tryz.prog 55 #[.pointer (some ⟨bp, 0, none⟩), v, .int .i64 inn] w (WrPost bp (exprF y0 false inn false (putL (putL x [⟨#[114, 101, 116, 117, 114, 110]⟩]) [⟨#[32]⟩])) w) := by
  have HTC := Lib.hid htc
  have HL := Lib.hid hl
  obtain ⟨k', s', n', a, ks⟩ := t
  obtain ⟨rfl, rfl, rfl, hks⟩ := strip_mk htc
  obtain ⟨⟨k0, s0, n0, a0, ks0⟩, tr0, rfl, hy0, hks⟩ := stripL_cons hks
  have HY0 := Lib.hid hy0
  clear hy0
  have HKS := Lib.hid hks
  unfold Lies at hl
  obtain ⟨A, cap, rfl, _, _, _, hsz, hcl, hcc, hkl⟩ := hl
  obtain ⟨b, o, rfl, hbl, hkl⟩ := kids_some hkl
  obtain ⟨A0, cap0, hKC0, hL0⟩ := LiesL.kid0 rfl hkl
  have KC0 := Lib.hid hKC0
  have HL0 := Lib.hid hL0
  have hsz0 := hL0.size
  clear hKC0 hL0
  have HKL := Lib.hid hkl
  have hs := PSt.init h hlen #[.int .i64 28, .string s, .int .i64 n, .int .i64 a, .slice (some ⟨b, o, none⟩) (.mk k0 s0 n0 a0 ks0 :: tr0 : List Nd).length cap]
  simp only [List.length_cons] at hcl hs ⊢
  have c0 := hs.at_ (List.mem_cons_self ..) 0 rfl
  have c1 := hs.at_ (List.mem_cons_self ..) 1 rfl
  have c2 := hs.at_ (List.mem_cons_self ..) 2 rfl
  have c3 := hs.at_ (List.mem_cons_self ..) 3 rfl
  have c4 := hs.at_ (List.mem_cons_self ..) 4 rfl
  have d00 := hs.kid hbl KC0.out.1
  have d01 := hs.kid hbl KC0.out.2.1
  have d02 := hs.kid hbl KC0.out.2.2.1
  have d03 := hs.kid hbl KC0.out.2.2.2.1
  have d04 := hs.kid hbl KC0.out.2.2.2.2
  have HS := Lib.hid hs
  clear h hs htc hks hkl
  have b0 : (0 : Int) < (tr0.length : Int) + 1 := by omega
  have hk0 : (k0 == 16) = false := by have h := hn0; rw [← HY0.out, strip_kind] at h; exact beq_eq_false_iff_ne.2 h
  clear hn0
  go_enter Tryz.func55, Tryz.ntmps55
  go_wp2_with (first
      | (go_at_call 49; refine (HS.out.put1 ⟨#[114, 101, 116, 117, 114, 110]⟩ (by decide)).mono ?_; clear HS; rintro e w1 ⟨rfl, hh⟩
         have c0 := hh.at_ (List.mem_cons_self ..) 0 rfl
         have c1 := hh.at_ (List.mem_cons_self ..) 1 rfl
         have c2 := hh.at_ (List.mem_cons_self ..) 2 rfl
         have c3 := hh.at_ (List.mem_cons_self ..) 3 rfl
         have c4 := hh.at_ (List.mem_cons_self ..) 4 rfl
         have d00 := hh.kid hbl KC0.out.1
         have d01 := hh.kid hbl KC0.out.2.1
         have d02 := hh.kid hbl KC0.out.2.2.1
         have d03 := hh.kid hbl KC0.out.2.2.2.1
         have d04 := hh.kid hbl KC0.out.2.2.2.2
         have HS1 := Lib.hid hh
         clear hh)
      | (go_at_call 49; refine (HS1.out.put1 ⟨#[32]⟩ (by decide)).mono ?_; clear HS1; rintro e w2 ⟨rfl, hh⟩
         have c0 := hh.at_ (List.mem_cons_self ..) 0 rfl
         have c1 := hh.at_ (List.mem_cons_self ..) 1 rfl
         have c2 := hh.at_ (List.mem_cons_self ..) 2 rfl
         have c3 := hh.at_ (List.mem_cons_self ..) 3 rfl
         have c4 := hh.at_ (List.mem_cons_self ..) 4 rfl
         have d00 := hh.kid hbl KC0.out.1
         have d01 := hh.kid hbl KC0.out.2.1
         have d02 := hh.kid hbl KC0.out.2.2.1
         have d03 := hh.kid hbl KC0.out.2.2.2.1
         have d04 := hh.kid hbl KC0.out.2.2.2.2
         have HS2 := Lib.hid hh
         clear hh)
      | (go_at_call 72; refine (HS2.out.call (expr_any h0 _ HY0.out _ false inn false _ bp _ hi HS2.out.pr HS2.out.len (HS2.out.lies HL0.out))).mono ?_; rintro e w3 ⟨rfl, hf⟩))
  go_end0
  exact hf.fin

set_option maxHeartbeats 4000000 in
set_option maxRecDepth 100000 in
theorem stmt_defer {s : ByteArray} {n : Int} {y0 : Nd} {ys : List Nd} (h0 : CanB y0) (t : Nd) (htc : t.strip = .mk 29 s n 0 (y0 :: ys)) (v : Value) (inn : Int) (x : WX) (bp : Nat) (w : World) (hi : okI inn) (h : PrAt bp x.1 x.2 w) (hlen : x.1.length ≤ 60000) (hl : Lies w bp t v) :
    Calls Tryz.prog 55 #[.pointer (some ⟨bp, 0, none⟩), v, .int .i64 inn] w (WrPost bp (exprF y0 false inn false (putL x [⟨#[100, 101, 102, 101, 114, 32]⟩])) w) := by
  have HTC := Lib.hid htc
  have HL := Lib.hid hl
  obtain ⟨k', s', n', a, ks⟩ := t
  obtain ⟨rfl, rfl, rfl, hks⟩ := strip_mk htc
  obtain ⟨⟨k0, s0, n0, a0, ks0⟩, tr0, rfl, hy0, hks⟩ := stripL_cons hks
  have HY0 := Lib.hid hy0
  clear hy0
  have HKS := Lib.hid hks
  unfold Lies at hl
  obtain ⟨A, cap, rfl, _, _, _, hsz, hcl, hcc, hkl⟩ := hl
  obtain ⟨b, o, rfl, hbl, hkl⟩ := kids_some hkl
  obtain ⟨A0, cap0, hKC0, hL0⟩ := LiesL.kid0 rfl hkl
  have KC0 := Lib.hid hKC0
  have HL0 := Lib.hid hL0
  have hsz0 := hL0.size
  clear hKC0 hL0
  have HKL := Lib.hid hkl
  have hs := PSt.init h hlen #[.int .i64 29, .string s, .int .i64 n, .int .i64 a, .slice (some ⟨b, o, none⟩) (.mk k0 s0 n0 a0 ks0 :: tr0 : List Nd).length cap]
  simp only [List.length_cons] at hcl hs ⊢
  have c0 := hs.at_ (List.mem_cons_self ..) 0 rfl
  have c1 := hs.at_ (List.mem_cons_self ..) 1 rfl
  have c2 := hs.at_ (List.mem_cons_self ..) 2 rfl
  have c3 := hs.at_ (List.mem_cons_self ..) 3 rfl
  have c4 := hs.at_ (List.mem_cons_self ..) 4 rfl
  have d00 := hs.kid hbl KC0.out.1
  have d01 := hs.kid hbl KC0.out.2.1
  have d02 := hs.kid hbl KC0.out.2.2.1
  have d03 := hs.kid hbl KC0.out.2.2.2.1
  have d04 := hs.kid hbl KC0.out.2.2.2.2
  have HS := Lib.hid hs
  clear h hs htc hks hkl
  have b0 : (0 : Int) < (tr0.length : Int) + 1 := by omega
  go_enter Tryz.func55, Tryz.ntmps55
  go_wp2_with (first
      | (go_at_call 49; refine (HS.out.put1 ⟨#[100, 101, 102, 101, 114, 32]⟩ (by decide)).mono ?_; clear HS; rintro e w1 ⟨rfl, hh⟩
         have c0 := hh.at_ (List.mem_cons_self ..) 0 rfl
         have c1 := hh.at_ (List.mem_cons_self ..) 1 rfl
         have c2 := hh.at_ (List.mem_cons_self ..) 2 rfl
         have c3 := hh.at_ (List.mem_cons_self ..) 3 rfl
         have c4 := hh.at_ (List.mem_cons_self ..) 4 rfl
         have d00 := hh.kid hbl KC0.out.1
         have d01 := hh.kid hbl KC0.out.2.1
         have d02 := hh.kid hbl KC0.out.2.2.1
         have d03 := hh.kid hbl KC0.out.2.2.2.1
         have d04 := hh.kid hbl KC0.out.2.2.2.2
         have HS1 := Lib.hid hh
         clear hh)
      | (go_at_call 72; refine (HS1.out.call (expr_any h0 _ HY0.out _ false inn false _ bp _ hi HS1.out.pr HS1.out.len (HS1.out.lies HL0.out))).mono ?_; rintro e w2 ⟨rfl, hf⟩))
  go_end0
  exact hf.fin

set_option maxHeartbeats 4000000 in
set_option maxRecDepth 100000 in
theorem stmt_do {s : ByteArray} {n : Int} {y0 : Nd} {ys : List Nd} (h0 : CanB y0) (t : Nd) (htc : t.strip = .mk 30 s n 0 (y0 :: ys)) (v : Value) (inn : Int) (x : WX) (bp : Nat) (w : World) (hi : okI inn) (h : PrAt bp x.1 x.2 w) (hlen : x.1.length ≤ 60000) (hl : Lies w bp t v) :
    Calls Tryz.prog 55 #[.pointer (some ⟨bp, 0, none⟩), v, .int .i64 inn] w (WrPost bp (exprF y0 false inn false x) w) := by
  have HTC := Lib.hid htc
  have HL := Lib.hid hl
  obtain ⟨k', s', n', a, ks⟩ := t
  obtain ⟨rfl, rfl, rfl, hks⟩ := strip_mk htc
  obtain ⟨⟨k0, s0, n0, a0, ks0⟩, tr0, rfl, hy0, hks⟩ := stripL_cons hks
  have HY0 := Lib.hid hy0
  clear hy0
  have HKS := Lib.hid hks
  unfold Lies at hl
  obtain ⟨A, cap, rfl, _, _, _, hsz, hcl, hcc, hkl⟩ := hl
  obtain ⟨b, o, rfl, hbl, hkl⟩ := kids_some hkl
  obtain ⟨A0, cap0, hKC0, hL0⟩ := LiesL.kid0 rfl hkl
  have KC0 := Lib.hid hKC0
  have HL0 := Lib.hid hL0
  have hsz0 := hL0.size
  clear hKC0 hL0
  have HKL := Lib.hid hkl
  have hs := PSt.init h hlen #[.int .i64 30, .string s, .int .i64 n, .int .i64 a, .slice (some ⟨b, o, none⟩) (.mk k0 s0 n0 a0 ks0 :: tr0 : List Nd).length cap]
  simp only [List.length_cons] at hcl hs ⊢
  have c0 := hs.at_ (List.mem_cons_self ..) 0 rfl
  have c1 := hs.at_ (List.mem_cons_self ..) 1 rfl
  have c2 := hs.at_ (List.mem_cons_self ..) 2 rfl
  have c3 := hs.at_ (List.mem_cons_self ..) 3 rfl
  have c4 := hs.at_ (List.mem_cons_self ..) 4 rfl
  have d00 := hs.kid hbl KC0.out.1
  have d01 := hs.kid hbl KC0.out.2.1
  have d02 := hs.kid hbl KC0.out.2.2.1
  have d03 := hs.kid hbl KC0.out.2.2.2.1
  have d04 := hs.kid hbl KC0.out.2.2.2.2
  have HS := Lib.hid hs
  clear h hs htc hks hkl
  have b0 : (0 : Int) < (tr0.length : Int) + 1 := by omega
  go_enter Tryz.func55, Tryz.ntmps55
  go_wp2_with (go_at_call 72; refine (HS.out.call (expr_any h0 _ HY0.out _ false inn false _ bp _ hi HS.out.pr HS.out.len (HS.out.lies HL0.out))).mono ?_; rintro e w1 ⟨rfl, hf⟩)
  go_end0
  exact hf.fin

set_option maxHeartbeats 4000000 in
set_option maxRecDepth 100000 in
theorem stmt_step {s : ByteArray} {n : Int} {y0 : Nd} {ys : List Nd} (h0 : CanB y0) (t : Nd) (htc : t.strip = .mk 34 s n 0 (y0 :: ys)) (v : Value) (inn : Int) (x : WX) (bp : Nat) (w : World) (hi : okI inn) (h : PrAt bp x.1 x.2 w) (hlen : x.1.length ≤ 60000) (hl : Lies w bp t v) :
    Calls Tryz.prog 55 #[.pointer (some ⟨bp, 0, none⟩), v, .int .i64 inn] w (WrPost bp (putL (exprF y0 false inn false x) [s]) w) := by
  have HTC := Lib.hid htc
  have HL := Lib.hid hl
  obtain ⟨k', s', n', a, ks⟩ := t
  obtain ⟨rfl, rfl, rfl, hks⟩ := strip_mk htc
  obtain ⟨⟨k0, s0, n0, a0, ks0⟩, tr0, rfl, hy0, hks⟩ := stripL_cons hks
  have HY0 := Lib.hid hy0
  clear hy0
  have HKS := Lib.hid hks
  unfold Lies at hl
  obtain ⟨A, cap, rfl, _, _, _, hsz, hcl, hcc, hkl⟩ := hl
  obtain ⟨b, o, rfl, hbl, hkl⟩ := kids_some hkl
  obtain ⟨A0, cap0, hKC0, hL0⟩ := LiesL.kid0 rfl hkl
  have KC0 := Lib.hid hKC0
  have HL0 := Lib.hid hL0
  have hsz0 := hL0.size
  clear hKC0 hL0
  have HKL := Lib.hid hkl
  have hs := PSt.init h hlen #[.int .i64 34, .string s, .int .i64 n, .int .i64 a, .slice (some ⟨b, o, none⟩) (.mk k0 s0 n0 a0 ks0 :: tr0 : List Nd).length cap]
  simp only [List.length_cons] at hcl hs ⊢
  have c0 := hs.at_ (List.mem_cons_self ..) 0 rfl
  have c1 := hs.at_ (List.mem_cons_self ..) 1 rfl
  have c2 := hs.at_ (List.mem_cons_self ..) 2 rfl
  have c3 := hs.at_ (List.mem_cons_self ..) 3 rfl
  have c4 := hs.at_ (List.mem_cons_self ..) 4 rfl
  have d00 := hs.kid hbl KC0.out.1
  have d01 := hs.kid hbl KC0.out.2.1
  have d02 := hs.kid hbl KC0.out.2.2.1
  have d03 := hs.kid hbl KC0.out.2.2.2.1
  have d04 := hs.kid hbl KC0.out.2.2.2.2
  have HS := Lib.hid hs
  clear h hs htc hks hkl
  have b0 : (0 : Int) < (tr0.length : Int) + 1 := by omega
  go_enter Tryz.func55, Tryz.ntmps55
  go_wp2_with (first
      | (go_at_call 72; refine (HS.out.call (expr_any h0 _ HY0.out _ false inn false _ bp _ hi HS.out.pr HS.out.len (HS.out.lies HL0.out))).mono ?_; clear HS; rintro e w1 ⟨rfl, hh⟩
         have c0 := hh.at_ (List.mem_cons_self ..) 0 rfl
         have c1 := hh.at_ (List.mem_cons_self ..) 1 rfl
         have c2 := hh.at_ (List.mem_cons_self ..) 2 rfl
         have c3 := hh.at_ (List.mem_cons_self ..) 3 rfl
         have c4 := hh.at_ (List.mem_cons_self ..) 4 rfl
         have d00 := hh.kid hbl KC0.out.1
         have d01 := hh.kid hbl KC0.out.2.1
         have d02 := hh.kid hbl KC0.out.2.2.1
         have d03 := hh.kid hbl KC0.out.2.2.2.1
         have d04 := hh.kid hbl KC0.out.2.2.2.2
         have HS1 := Lib.hid hh
         clear hh)
      | (go_at_call 49; refine (HS1.out.put1 s hsz).mono ?_; rintro e w2 ⟨rfl, hf⟩))
  go_end0
  exact hf.fin

set_option maxHeartbeats 4000000 in
set_option maxRecDepth 100000 in
theorem stmt_break {s : ByteArray} {n : Int} {ys : List Nd} (t : Nd) (htc : t.strip = .mk 31 s n 0 (ys)) (v : Value) (inn : Int) (x : WX) (bp : Nat) (w : World) (_hi : okI inn) (h : PrAt bp x.1 x.2 w) (hlen : x.1.length ≤ 60000) (hl : Lies w bp t v) :
    Calls Tryz.prog 55 #[.pointer (some ⟨bp, 0, none⟩), v, .int .i64 inn] w (WrPost bp (wordW ⟨#[98, 114, 101, 97, 107]⟩ s x) w) := by
  have HTC := Lib.hid htc
  have HL := Lib.hid hl
  obtain ⟨k', s', n', a, ks⟩ := t
  obtain ⟨rfl, rfl, rfl, hks⟩ := strip_mk htc
  have HKS := Lib.hid hks
  unfold Lies at hl
  obtain ⟨A, cap, rfl, _, _, _, hsz, hcl, hcc, hkl⟩ := hl
  have HKL := Lib.hid hkl
  have hs := PSt.init h hlen #[.int .i64 31, .string s, .int .i64 n, .int .i64 a, .slice A ks.length cap]
  have c0 := hs.at_ (List.mem_cons_self ..) 0 rfl
  have c1 := hs.at_ (List.mem_cons_self ..) 1 rfl
  have c2 := hs.at_ (List.mem_cons_self ..) 2 rfl
  have c3 := hs.at_ (List.mem_cons_self ..) 3 rfl
  have c4 := hs.at_ (List.mem_cons_self ..) 4 rfl
  have HS := Lib.hid hs
  clear h hs htc hks hkl
  go_enter Tryz.func55, Tryz.ntmps55
  go_wp2_with (go_at_call 81; refine (HS.out.call (word_w ⟨#[98, 114, 101, 97, 107]⟩ s _ bp _ HS.out.pr HS.out.len (by decide) hsz)).mono ?_; rintro e w1 ⟨rfl, hf⟩)
  go_end0
  exact hf.fin

set_option maxHeartbeats 4000000 in
set_option maxRecDepth 100000 in
theorem stmt_continue {s : ByteArray} {n : Int} {ys : List Nd} (t : Nd) (htc : t.strip = .mk 32 s n 0 (ys)) (v : Value) (inn : Int) (x : WX) (bp : Nat) (w : World) (_hi : okI inn) (h : PrAt bp x.1 x.2 w) (hlen : x.1.length ≤ 60000) (hl : Lies w bp t v) :
    Calls Tryz.prog 55 #[.pointer (some ⟨bp, 0, none⟩), v, .int .i64 inn] w (WrPost bp (wordW ⟨#[99, 111, 110, 116, 105, 110, 117, 101]⟩ s x) w) := by
  have HTC := Lib.hid htc
  have HL := Lib.hid hl
  obtain ⟨k', s', n', a, ks⟩ := t
  obtain ⟨rfl, rfl, rfl, hks⟩ := strip_mk htc
  have HKS := Lib.hid hks
  unfold Lies at hl
  obtain ⟨A, cap, rfl, _, _, _, hsz, hcl, hcc, hkl⟩ := hl
  have HKL := Lib.hid hkl
  have hs := PSt.init h hlen #[.int .i64 32, .string s, .int .i64 n, .int .i64 a, .slice A ks.length cap]
  have c0 := hs.at_ (List.mem_cons_self ..) 0 rfl
  have c1 := hs.at_ (List.mem_cons_self ..) 1 rfl
  have c2 := hs.at_ (List.mem_cons_self ..) 2 rfl
  have c3 := hs.at_ (List.mem_cons_self ..) 3 rfl
  have c4 := hs.at_ (List.mem_cons_self ..) 4 rfl
  have HS := Lib.hid hs
  clear h hs htc hks hkl
  go_enter Tryz.func55, Tryz.ntmps55
  go_wp2_with (go_at_call 81; refine (HS.out.call (word_w ⟨#[99, 111, 110, 116, 105, 110, 117, 101]⟩ s _ bp _ HS.out.pr HS.out.len (by decide) hsz)).mono ?_; rintro e w1 ⟨rfl, hf⟩)
  go_end0
  exact hf.fin

set_option maxHeartbeats 4000000 in
set_option maxRecDepth 100000 in
theorem stmt_fall {s : ByteArray} {n : Int} {ys : List Nd} (t : Nd) (htc : t.strip = .mk 33 s n 0 (ys)) (v : Value) (inn : Int) (x : WX) (bp : Nat) (w : World) (_hi : okI inn) (h : PrAt bp x.1 x.2 w) (hlen : x.1.length ≤ 60000) (hl : Lies w bp t v) :
    Calls Tryz.prog 55 #[.pointer (some ⟨bp, 0, none⟩), v, .int .i64 inn] w (WrPost bp (putL x [⟨#[102, 97, 108, 108, 116, 104, 114, 111, 117, 103, 104]⟩]) w) := by
  have HTC := Lib.hid htc
  have HL := Lib.hid hl
  obtain ⟨k', s', n', a, ks⟩ := t
  obtain ⟨rfl, rfl, rfl, hks⟩ := strip_mk htc
  have HKS := Lib.hid hks
  unfold Lies at hl
  obtain ⟨A, cap, rfl, _, _, _, hsz, hcl, hcc, hkl⟩ := hl
  have HKL := Lib.hid hkl
  have hs := PSt.init h hlen #[.int .i64 33, .string s, .int .i64 n, .int .i64 a, .slice A ks.length cap]
  have c0 := hs.at_ (List.mem_cons_self ..) 0 rfl
  have c1 := hs.at_ (List.mem_cons_self ..) 1 rfl
  have c2 := hs.at_ (List.mem_cons_self ..) 2 rfl
  have c3 := hs.at_ (List.mem_cons_self ..) 3 rfl
  have c4 := hs.at_ (List.mem_cons_self ..) 4 rfl
  have HS := Lib.hid hs
  clear h hs htc hks hkl
  go_enter Tryz.func55, Tryz.ntmps55
  go_wp2_with (go_at_call 49; refine (HS.out.put1 ⟨#[102, 97, 108, 108, 116, 104, 114, 111, 117, 103, 104]⟩ (by decide)).mono ?_; rintro e w1 ⟨rfl, hf⟩)
  go_end0
  exact hf.fin
end Go.Proofs.YtjpmghgmmeemkaaGreatDoor
