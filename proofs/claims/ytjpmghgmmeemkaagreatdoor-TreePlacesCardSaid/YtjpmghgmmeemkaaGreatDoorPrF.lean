/- The printer: bare, the branches that draw. -/
import Derived.Deep.RegionHeld3
import Derived.Test.YtjpmghgmmeemkaaGreatDoorPrE
namespace Go.Proofs.YtjpmghgmmeemkaaGreatDoor
open Go.RowKit

set_option maxHeartbeats 4000000 in
set_option maxRecDepth 100000 in
theorem bare_w_literal {s : ByteArray} {n : Int} {y0 y1 : Nd} {ys : List Nd} (hc : ∀ y ∈ y1.kids, CanS y) (t : Nd) (htc : t.strip = .mk 43 s n 0 (y0 :: y1 :: ys)) (v : Value) (inn : Int) (head : Bool) (x : WX) (bp : Nat) (w : World) (hi : okI inn) (h : PrAt bp x.1 x.2 w) (hlen : x.1.length ≤ 60000) (hl : Lies w bp t v) :
    Calls Tryz.prog 57 #[.pointer (some ⟨bp, 0, none⟩), v, .int .i64 inn, .bool head] w (WrPost bp (funcF y0 y1 inn (putL x [⟨#[102, 117, 110, 99]⟩])) w) := by
  have HTC := Lib.hid htc
  have HL := Lib.hid hl
  obtain ⟨k', s', n', a, ks⟩ := t
  obtain ⟨rfl, rfl, rfl, hks⟩ := strip_mk htc
  obtain ⟨⟨k0, s0, n0, a0, ks0⟩, tr0, rfl, hy0, hks⟩ := stripL_cons hks
  have HY0 := Lib.hid hy0
  clear hy0
  obtain ⟨⟨k1, s1, n1, a1, ks1⟩, tr1, rfl, hy1, hks⟩ := stripL_cons hks
  have HY1 := Lib.hid hy1
  clear hy1
  have HKS := Lib.hid hks
  unfold Lies at hl
  obtain ⟨A, cap, rfl, _, _, _, hsz, hcl, hcc, hkl⟩ := hl
  obtain ⟨b, o, rfl, hbl, hkl⟩ := kids_some hkl
  obtain ⟨A0, cap0, hKC0, hL0⟩ := LiesL.kid0 rfl hkl
  have KC0 := Lib.hid hKC0
  have HL0 := Lib.hid hL0
  have hsz0 := hL0.size
  clear hKC0 hL0
  obtain ⟨A1, cap1, hKC1, hL1⟩ := LiesL.kidm 1 5 rfl rfl hkl
  have KC1 := Lib.hid hKC1
  have HL1 := Lib.hid hL1
  have hsz1 := hL1.size
  clear hKC1 hL1
  have HKL := Lib.hid hkl
  have hs := PSt.init h hlen #[.int .i64 43, .string s, .int .i64 n, .int .i64 a, .slice (some ⟨b, o, none⟩) (.mk k0 s0 n0 a0 ks0 :: .mk k1 s1 n1 a1 ks1 :: tr1 : List Nd).length cap]
  simp only [List.length_cons] at hcl hs ⊢
  have c0 := hs.at_ (List.mem_cons_self ..) 0 rfl
  have c1 := hs.at_ (List.mem_cons_self ..) 1 rfl
  have c2 := hs.at_ (List.mem_cons_self ..) 2 rfl
  have c3 := hs.at_ (List.mem_cons_self ..) 3 rfl
  have c4 := hs.at_ (List.mem_cons_self ..) 4 rfl
  have d00 := hs.kid hbl KC0.out.1
  have d01 := hs.kid hbl KC0.out.2.1
  have d02 := hs.kid hbl KC0.out.2.2.1
  have d03 := hs.kid hbl KC0.out.2.2.2.1
  have d04 := hs.kid hbl KC0.out.2.2.2.2
  have d10 := hs.kid hbl KC1.out.1
  have d11 := hs.kid hbl KC1.out.2.1
  have d12 := hs.kid hbl KC1.out.2.2.1
  have d13 := hs.kid hbl KC1.out.2.2.2.1
  have d14 := hs.kid hbl KC1.out.2.2.2.2
  have HS := Lib.hid hs
  clear h hs htc hks hkl
  have b0 : (0 : Int) < (tr1.length : Int) + 1 + 1 := by omega
  have b1 : (1 : Int) < (tr1.length : Int) + 1 + 1 := by omega
  go_enter Tryz.func57, Tryz.ntmps57
  go_upto_region 28 with (first
      | (go_at_call 49; refine (HS.out.put1 ⟨#[102, 117, 110, 99]⟩ (by decide)).mono ?_; clear HS; rintro e w1 ⟨rfl, hh⟩
         have c0 := hh.at_ (List.mem_cons_self ..) 0 rfl
         have c1 := hh.at_ (List.mem_cons_self ..) 1 rfl
         have c2 := hh.at_ (List.mem_cons_self ..) 2 rfl
         have c3 := hh.at_ (List.mem_cons_self ..) 3 rfl
         have c4 := hh.at_ (List.mem_cons_self ..) 4 rfl
         have d00 := hh.kid hbl KC0.out.1
         have d01 := hh.kid hbl KC0.out.2.1
         have d02 := hh.kid hbl KC0.out.2.2.1
         have d03 := hh.kid hbl KC0.out.2.2.2.1
         have d04 := hh.kid hbl KC0.out.2.2.2.2
         have d10 := hh.kid hbl KC1.out.1
         have d11 := hh.kid hbl KC1.out.2.1
         have d12 := hh.kid hbl KC1.out.2.2.1
         have d13 := hh.kid hbl KC1.out.2.2.2.1
         have d14 := hh.kid hbl KC1.out.2.2.2.2
         have HSA := Lib.hid hh
         clear hh))
  have K : ∀ y W, PSt bp w [(w.heap.size, #[.int .i64 43, .string s, .int .i64 n, .int .i64 a, .slice (some ⟨b, o, none⟩) (tr1.length + 1 + 1) cap])] y W → (∃ y, PSt bp w [(w.heap.size, #[.int .i64 43, .string s, .int .i64 n, .int .i64 a, .slice (some ⟨b, o, none⟩) (tr1.length + 1 + 1) cap])] y W) ∧ W.cell? ⟨w.heap.size, 0, none⟩ = some (.int .i64 43) ∧ W.cell? ⟨w.heap.size, 1, none⟩ = some (.string s) ∧ W.cell? ⟨w.heap.size, 2, none⟩ = some (.int .i64 n) ∧ W.cell? ⟨w.heap.size, 3, none⟩ = some (.int .i64 a) ∧ W.cell? ⟨w.heap.size, 4, none⟩ = some (.slice (some ⟨b, o, none⟩) (tr1.length + 1 + 1) cap) ∧ W.cell? ⟨b, o, none⟩ = some (.int .i64 k0) ∧ W.cell? ⟨b, o + 1, none⟩ = some (.string s0) ∧ W.cell? ⟨b, o + 2, none⟩ = some (.int .i64 n0) ∧ W.cell? ⟨b, o + 3, none⟩ = some (.int .i64 a0) ∧ W.cell? ⟨b, o + 4, none⟩ = some (.slice A0 ks0.length cap0) ∧ W.cell? ⟨b, o + 5, none⟩ = some (.int .i64 k1) ∧ W.cell? ⟨b, o + 5 + 1, none⟩ = some (.string s1) ∧ W.cell? ⟨b, o + 5 + 2, none⟩ = some (.int .i64 n1) ∧ W.cell? ⟨b, o + 5 + 3, none⟩ = some (.int .i64 a1) ∧ W.cell? ⟨b, o + 5 + 4, none⟩ = some (.slice A1 ks1.length cap1) := fun y W hW => ⟨⟨_, hW⟩, hW.at_ (List.mem_cons_self ..) 0 rfl, hW.at_ (List.mem_cons_self ..) 1 rfl, hW.at_ (List.mem_cons_self ..) 2 rfl, hW.at_ (List.mem_cons_self ..) 3 rfl, hW.at_ (List.mem_cons_self ..) 4 rfl, hW.kid hbl KC0.out.1, hW.kid hbl KC0.out.2.1, hW.kid hbl KC0.out.2.2.1, hW.kid hbl KC0.out.2.2.2.1, hW.kid hbl KC0.out.2.2.2.2, hW.kid hbl KC1.out.1, hW.kid hbl KC1.out.2.1, hW.kid hbl KC1.out.2.2.1, hW.kid hbl KC1.out.2.2.2.1, hW.kid hbl KC1.out.2.2.2.2⟩
  have K' := Lib.hid K
  clear K
  go_region_held3 (fun W => (∃ y, PSt bp w [(w.heap.size, #[.int .i64 43, .string s, .int .i64 n, .int .i64 a, .slice (some ⟨b, o, none⟩) (tr1.length + 1 + 1) cap])] y W) ∧ W.cell? ⟨w.heap.size, 0, none⟩ = some (.int .i64 43) ∧ W.cell? ⟨w.heap.size, 1, none⟩ = some (.string s) ∧ W.cell? ⟨w.heap.size, 2, none⟩ = some (.int .i64 n) ∧ W.cell? ⟨w.heap.size, 3, none⟩ = some (.int .i64 a) ∧ W.cell? ⟨w.heap.size, 4, none⟩ = some (.slice (some ⟨b, o, none⟩) (tr1.length + 1 + 1) cap) ∧ W.cell? ⟨b, o, none⟩ = some (.int .i64 k0) ∧ W.cell? ⟨b, o + 1, none⟩ = some (.string s0) ∧ W.cell? ⟨b, o + 2, none⟩ = some (.int .i64 n0) ∧ W.cell? ⟨b, o + 3, none⟩ = some (.int .i64 a0) ∧ W.cell? ⟨b, o + 4, none⟩ = some (.slice A0 ks0.length cap0) ∧ W.cell? ⟨b, o + 5, none⟩ = some (.int .i64 k1) ∧ W.cell? ⟨b, o + 5 + 1, none⟩ = some (.string s1) ∧ W.cell? ⟨b, o + 5 + 2, none⟩ = some (.int .i64 n1) ∧ W.cell? ⟨b, o + 5 + 3, none⟩ = some (.int .i64 a1) ∧ W.cell? ⟨b, o + 5 + 4, none⟩ = some (.slice A1 ks1.length cap1))
    (first
      | exact K'.out _ _ HSA.out.drew
      | exact K'.out _ _ hf)
    (first
      | (go_at_call 71; (with_reducible refine (HSA.out.drew.call (func_any hc _ _ HY0.out HY1.out _ _ inn _ bp _ hi HSA.out.drew.pr HSA.out.drew.len (HSA.out.drew.lies HL0.out) (HSA.out.drew.lies HL1.out))).mono ?_); rintro e w2 ⟨rfl, hf⟩))
  go_wp2_with fail
  go_end0
  exact hf.fin

/-- Does what stands behind a sign want brackets? -/
def unNeed (s : ByteArray) (y : Nd) : Bool := decide (levelB y.kind y.text < 6) || (s.toList == [45] && (y.kind == 50 && y.text.toList == [45]))

set_option maxHeartbeats 4000000 in
set_option maxRecDepth 100000 in
theorem bare_w_unary {s : ByteArray} {n : Int} {y0 : Nd} {ys : List Nd} (h0 : CanB y0) (t : Nd) (htc : t.strip = .mk 50 s n 0 (y0 :: ys)) (v : Value) (inn : Int) (head : Bool) (x : WX) (bp : Nat) (w : World) (hi : okI inn) (h : PrAt bp x.1 x.2 w) (hlen : x.1.length ≤ 60000) (hl : Lies w bp t v) :
    Calls Tryz.prog 57 #[.pointer (some ⟨bp, 0, none⟩), v, .int .i64 inn, .bool head] w (WrPost bp (exprF y0 (unNeed s y0) inn head (putL x [s])) w) := by
  have HTC := Lib.hid htc
  have HL := Lib.hid hl
  obtain ⟨k', s', n', a, ks⟩ := t
  obtain ⟨rfl, rfl, rfl, hks⟩ := strip_mk htc
  obtain ⟨⟨k0, s0, n0, a0, ks0⟩, tr0, rfl, hy0, hks⟩ := stripL_cons hks
  have HY0 := Lib.hid hy0
  clear hy0
  have HKS := Lib.hid hks
  unfold Lies at hl
  obtain ⟨A, cap, rfl, _, _, _, hsz, hcl, hcc, hkl⟩ := hl
  obtain ⟨b, o, rfl, hbl, hkl⟩ := kids_some hkl
  obtain ⟨A0, cap0, hKC0, hL0⟩ := LiesL.kid0 rfl hkl
  have KC0 := Lib.hid hKC0
  have HL0 := Lib.hid hL0
  have hsz0 := hL0.size
  clear hKC0 hL0
  have HKL := Lib.hid hkl
  have hs := PSt.init h hlen #[.int .i64 50, .string s, .int .i64 n, .int .i64 a, .slice (some ⟨b, o, none⟩) (.mk k0 s0 n0 a0 ks0 :: tr0 : List Nd).length cap]
  simp only [List.length_cons] at hcl hs ⊢
  have c0 := hs.at_ (List.mem_cons_self ..) 0 rfl
  have c1 := hs.at_ (List.mem_cons_self ..) 1 rfl
  have c2 := hs.at_ (List.mem_cons_self ..) 2 rfl
  have c3 := hs.at_ (List.mem_cons_self ..) 3 rfl
  have c4 := hs.at_ (List.mem_cons_self ..) 4 rfl
  have d00 := hs.kid hbl KC0.out.1
  have d01 := hs.kid hbl KC0.out.2.1
  have d02 := hs.kid hbl KC0.out.2.2.1
  have d03 := hs.kid hbl KC0.out.2.2.2.1
  have d04 := hs.kid hbl KC0.out.2.2.2.2
  have HS := Lib.hid hs
  clear h hs htc hks hkl
  have b0 : (0 : Int) < (tr0.length : Int) + 1 := by omega
  have hs2 := HS.out.push #[.int .i64 k0, .string s0, .int .i64 n0, .int .i64 a0, .slice A0 ks0.length cap0]
  rw [World.size_alloc] at hs2
  have HS2 := Lib.hid hs2
  clear hs2
  obtain ⟨lv, HLV⟩ : ∃ lv, Hid (levelB k0 s0 = lv) := ⟨_, rfl⟩
  have hlvc := fun W => level_any k0 s0 n0 a0 A0 ks0.length cap0 W
  rw [HLV.out] at hlvc
  have HLVC := Lib.hid hlvc
  clear hlvc
  go_enter Tryz.func57, Tryz.ntmps57
  go_upto_region 36 with (first
      | (go_at_call 49; refine (HS2.out.put1 s hsz).mono ?_; clear HS2; rintro e w1 ⟨rfl, hh⟩
         have c0 := hh.at_ (List.mem_cons_of_mem _ (List.mem_cons_self ..)) 0 rfl
         have c1 := hh.at_ (List.mem_cons_of_mem _ (List.mem_cons_self ..)) 1 rfl
         have c2 := hh.at_ (List.mem_cons_of_mem _ (List.mem_cons_self ..)) 2 rfl
         have c3 := hh.at_ (List.mem_cons_of_mem _ (List.mem_cons_self ..)) 3 rfl
         have c4 := hh.at_ (List.mem_cons_of_mem _ (List.mem_cons_self ..)) 4 rfl
         have d00 := hh.kid hbl KC0.out.1
         have d01 := hh.kid hbl KC0.out.2.1
         have d02 := hh.kid hbl KC0.out.2.2.1
         have d03 := hh.kid hbl KC0.out.2.2.2.1
         have d04 := hh.kid hbl KC0.out.2.2.2.2
         have g0 := hh.at_ (List.mem_cons_self ..) 0 rfl
         have g1 := hh.at_ (List.mem_cons_self ..) 1 rfl
         have g2 := hh.at_ (List.mem_cons_self ..) 2 rfl
         have g3 := hh.at_ (List.mem_cons_self ..) 3 rfl
         have g4 := hh.at_ (List.mem_cons_self ..) 4 rfl
         have HSA := Lib.hid hh
         clear hh))
  have K : ∀ y W, PSt bp w [(w.heap.size + 1, #[.int .i64 k0, .string s0, .int .i64 n0, .int .i64 a0, .slice A0 ks0.length cap0]), (w.heap.size, #[.int .i64 50, .string s, .int .i64 n, .int .i64 a, .slice (some ⟨b, o, none⟩) (tr0.length + 1) cap])] y W → (∃ y, PSt bp w [(w.heap.size + 1, #[.int .i64 k0, .string s0, .int .i64 n0, .int .i64 a0, .slice A0 ks0.length cap0]), (w.heap.size, #[.int .i64 50, .string s, .int .i64 n, .int .i64 a, .slice (some ⟨b, o, none⟩) (tr0.length + 1) cap])] y W) ∧ W.cell? ⟨w.heap.size, 0, none⟩ = some (.int .i64 50) ∧ W.cell? ⟨w.heap.size, 1, none⟩ = some (.string s) ∧ W.cell? ⟨w.heap.size, 2, none⟩ = some (.int .i64 n) ∧ W.cell? ⟨w.heap.size, 3, none⟩ = some (.int .i64 a) ∧ W.cell? ⟨w.heap.size, 4, none⟩ = some (.slice (some ⟨b, o, none⟩) (tr0.length + 1) cap) ∧ W.cell? ⟨w.heap.size + 1, 0, none⟩ = some (.int .i64 k0) ∧ W.cell? ⟨w.heap.size + 1, 1, none⟩ = some (.string s0) ∧ W.cell? ⟨w.heap.size + 1, 2, none⟩ = some (.int .i64 n0) ∧ W.cell? ⟨w.heap.size + 1, 3, none⟩ = some (.int .i64 a0) ∧ W.cell? ⟨w.heap.size + 1, 4, none⟩ = some (.slice A0 ks0.length cap0) ∧ W.cell? ⟨b, o, none⟩ = some (.int .i64 k0) ∧ W.cell? ⟨b, o + 1, none⟩ = some (.string s0) ∧ W.cell? ⟨b, o + 2, none⟩ = some (.int .i64 n0) ∧ W.cell? ⟨b, o + 3, none⟩ = some (.int .i64 a0) ∧ W.cell? ⟨b, o + 4, none⟩ = some (.slice A0 ks0.length cap0) := fun y W hW => ⟨⟨_, hW⟩, hW.at_ (List.mem_cons_of_mem _ (List.mem_cons_self ..)) 0 rfl, hW.at_ (List.mem_cons_of_mem _ (List.mem_cons_self ..)) 1 rfl, hW.at_ (List.mem_cons_of_mem _ (List.mem_cons_self ..)) 2 rfl, hW.at_ (List.mem_cons_of_mem _ (List.mem_cons_self ..)) 3 rfl, hW.at_ (List.mem_cons_of_mem _ (List.mem_cons_self ..)) 4 rfl, hW.at_ (List.mem_cons_self ..) 0 rfl, hW.at_ (List.mem_cons_self ..) 1 rfl, hW.at_ (List.mem_cons_self ..) 2 rfl, hW.at_ (List.mem_cons_self ..) 3 rfl, hW.at_ (List.mem_cons_self ..) 4 rfl, hW.kid hbl KC0.out.1, hW.kid hbl KC0.out.2.1, hW.kid hbl KC0.out.2.2.1, hW.kid hbl KC0.out.2.2.2.1, hW.kid hbl KC0.out.2.2.2.2⟩
  have K' := Lib.hid K
  clear K
  cases hd : decide (lv < 6) with
  | true =>
    have hN : unNeed s (Nd.mk k0 s0 n0 a0 ks0).strip = true := by show (decide (levelB k0 s0 < 6) || (s.toList == [45] && (k0 == 50 && s0.toList == [45]))) = _; simp [HLV.out, hd]
    refine wp_region_held_drew (S := (fun W => (∃ y, PSt bp w [(w.heap.size + 1, #[.int .i64 k0, .string s0, .int .i64 n0, .int .i64 a0, .slice A0 ks0.length cap0]), (w.heap.size, #[.int .i64 50, .string s, .int .i64 n, .int .i64 a, .slice (some ⟨b, o, none⟩) (tr0.length + 1) cap])] y W) ∧ W.cell? ⟨w.heap.size, 0, none⟩ = some (.int .i64 50) ∧ W.cell? ⟨w.heap.size, 1, none⟩ = some (.string s) ∧ W.cell? ⟨w.heap.size, 2, none⟩ = some (.int .i64 n) ∧ W.cell? ⟨w.heap.size, 3, none⟩ = some (.int .i64 a) ∧ W.cell? ⟨w.heap.size, 4, none⟩ = some (.slice (some ⟨b, o, none⟩) (tr0.length + 1) cap) ∧ W.cell? ⟨w.heap.size + 1, 0, none⟩ = some (.int .i64 k0) ∧ W.cell? ⟨w.heap.size + 1, 1, none⟩ = some (.string s0) ∧ W.cell? ⟨w.heap.size + 1, 2, none⟩ = some (.int .i64 n0) ∧ W.cell? ⟨w.heap.size + 1, 3, none⟩ = some (.int .i64 a0) ∧ W.cell? ⟨w.heap.size + 1, 4, none⟩ = some (.slice A0 ks0.length cap0) ∧ W.cell? ⟨b, o, none⟩ = some (.int .i64 k0) ∧ W.cell? ⟨b, o + 1, none⟩ = some (.string s0) ∧ W.cell? ⟨b, o + 2, none⟩ = some (.int .i64 n0) ∧ W.cell? ⟨b, o + 3, none⟩ = some (.int .i64 a0) ∧ W.cell? ⟨b, o + 4, none⟩ = some (.slice A0 ks0.length cap0))) (by kernel_rfl) ?_ (fun hHeld => ?_)
    · exact K'.out _ _ HSA.out.drew
    refine wpAnyH_take (i := 0) (v := ?_) rfl (by kernel_rfl) (by kernel_rfl) (by kernel_rfl) (fun _ _ _ h => h) (Or.inl ⟨by rfl, ?_⟩) (by assumption) ?_
    rotate_left
    · (intro w hSw; (try dsimp only at hSw); go_simp; try with_reducible rfl)
    try simp only [Act.put, List.getElem_toArray, List.getElem_cons_zero, List.setIfInBounds_toArray, List.set_cons_zero, List.set_cons_succ]
    refine wpAnyH_take (i := 1) (v := ?_) rfl (by kernel_rfl) (by kernel_rfl) (by kernel_rfl) (fun _ _ _ h => h) (Or.inl ⟨by rfl, ?_⟩) (by assumption) ?_
    rotate_left
    · (intro w hSw; (try dsimp only at hSw); go_simp; try with_reducible rfl)
    try simp only [Act.put, List.getElem_toArray, List.getElem_cons_zero, List.getElem_cons_succ, List.setIfInBounds_toArray, List.set_cons_zero, List.set_cons_succ]
    refine wpAnyH_take (i := 2) (v := ?_) rfl (by kernel_rfl) (by kernel_rfl) (by kernel_rfl) (fun _ _ _ h => h) (Or.inl ⟨by rfl, ?_⟩) (by assumption) ?_
    rotate_left
    · (intro w hSw; (try dsimp only at hSw); go_simp; try with_reducible rfl)
    try simp only [Act.put, List.getElem_toArray, List.getElem_cons_zero, List.getElem_cons_succ, List.setIfInBounds_toArray, List.set_cons_zero, List.set_cons_succ]
    refine wpAnyH_take (i := 20) (v := ?_) rfl (by kernel_rfl) (by kernel_rfl) (by kernel_rfl) (fun _ _ _ h => h) (Or.inl ⟨by rfl, ?_⟩) (by assumption) ?_
    rotate_left
    · (intro w hSw; (try dsimp only at hSw); go_simp; try with_reducible rfl)
    try simp only [Act.put, List.getElem_toArray, List.getElem_cons_zero, List.getElem_cons_succ, List.setIfInBounds_toArray, List.set_cons_zero, List.set_cons_succ]
    refine wpAnyH_take (i := 21) (v := ?_) rfl (by kernel_rfl) (by kernel_rfl) (by kernel_rfl) (fun _ _ _ h => h) (Or.inl ⟨by rfl, ?_⟩) (by assumption) ?_
    rotate_left
    · (intro w hSw; (try dsimp only at hSw); go_simp; try with_reducible rfl)
    try simp only [Act.put, List.getElem_toArray, List.getElem_cons_zero, List.getElem_cons_succ, List.setIfInBounds_toArray, List.set_cons_zero, List.set_cons_succ]
    refine wpAnyH_ready (rs := [3]) (by kernel_rfl) (by simp) ?_
    refine AllReadyH.cons rfl (fun KK hKK => ?_) AllReadyH.nil
    go_simp
    go_at_call 84
    refine (HLVC.out _).mono ?_
    rintro e wl ⟨rfl, rfl⟩
    have HP1 := Lib.hid (HSA.out.drew.alloc (.cells #[.int .i64 k0, .string s0, .int .i64 n0, .int .i64 a0, .slice A0 ks0.length cap0] 24))
    refine hKK.out _ _ (K'.out _ _ HP1.out) (fun hHeld => ?_)
    clear hKK KK
    try simp only [Act.put, List.getElem_toArray, List.getElem_cons_zero, List.getElem_cons_succ, List.setIfInBounds_toArray, List.set_cons_zero, List.set_cons_succ]
    refine wpAnyH_take (i := 4) (v := ?_) rfl (by kernel_rfl) (by kernel_rfl) (by kernel_rfl) (fun _ _ _ h => h) (Or.inl ⟨by rfl, ?_⟩) (by assumption) ?_
    rotate_left
    · (intro w hSw; (try dsimp only at hSw); go_simp; try with_reducible rfl)
    try simp only [Act.put, List.getElem_toArray, List.getElem_cons_zero, List.getElem_cons_succ, List.setIfInBounds_toArray, List.set_cons_zero, List.set_cons_succ]
    refine wpAnyH_take (i := 5) (v := ?_) rfl (by kernel_rfl) (by kernel_rfl) (by kernel_rfl) (fun _ _ _ h => h) (Or.inl ⟨by rfl, ?_⟩) (by assumption) ?_
    rotate_left
    · (intro w hSw; (try dsimp only at hSw); go_simp; try with_reducible rfl)
    try simp only [Act.put, List.getElem_toArray, List.getElem_cons_zero, List.getElem_cons_succ, List.setIfInBounds_toArray, List.set_cons_zero, List.set_cons_succ]
    refine wpAnyH_take (i := 6) (v := undef) rfl (by kernel_rfl) (by kernel_rfl) (by kernel_rfl) (fun _ _ _ h => h) (Or.inr ⟨by rfl, rfl⟩) (by assumption) ?_
    try simp only [Act.put, List.getElem_toArray, List.getElem_cons_zero, List.getElem_cons_succ, List.setIfInBounds_toArray, List.set_cons_zero, List.set_cons_succ]
    refine wpAnyH_take (i := 7) (v := undef) rfl (by kernel_rfl) (by kernel_rfl) (by kernel_rfl) (fun _ _ _ h => h) (Or.inr ⟨by rfl, rfl⟩) (by assumption) ?_
    try simp only [Act.put, List.getElem_toArray, List.getElem_cons_zero, List.getElem_cons_succ, List.setIfInBounds_toArray, List.set_cons_zero, List.set_cons_succ]
    refine wpAnyH_take (i := 8) (v := undef) rfl (by kernel_rfl) (by kernel_rfl) (by kernel_rfl) (fun _ _ _ h => h) (Or.inr ⟨by rfl, rfl⟩) (by assumption) ?_
    try simp only [Act.put, List.getElem_toArray, List.getElem_cons_zero, List.getElem_cons_succ, List.setIfInBounds_toArray, List.set_cons_zero, List.set_cons_succ]
    refine wpAnyH_take (i := 9) (v := undef) rfl (by kernel_rfl) (by kernel_rfl) (by kernel_rfl) (fun _ _ _ h => h) (Or.inr ⟨by rfl, rfl⟩) (by assumption) ?_
    try simp only [Act.put, List.getElem_toArray, List.getElem_cons_zero, List.getElem_cons_succ, List.setIfInBounds_toArray, List.set_cons_zero, List.set_cons_succ]
    refine wpAnyH_take (i := 10) (v := undef) rfl (by kernel_rfl) (by kernel_rfl) (by kernel_rfl) (fun _ _ _ h => h) (Or.inr ⟨by rfl, rfl⟩) (by assumption) ?_
    try simp only [Act.put, List.getElem_toArray, List.getElem_cons_zero, List.getElem_cons_succ, List.setIfInBounds_toArray, List.set_cons_zero, List.set_cons_succ]
    refine wpAnyH_take (i := 11) (v := undef) rfl (by kernel_rfl) (by kernel_rfl) (by kernel_rfl) (fun _ _ _ h => h) (Or.inr ⟨by rfl, rfl⟩) (by assumption) ?_
    try simp only [Act.put, List.getElem_toArray, List.getElem_cons_zero, List.getElem_cons_succ, List.setIfInBounds_toArray, List.set_cons_zero, List.set_cons_succ]
    refine wpAnyH_take (i := 12) (v := undef) rfl (by kernel_rfl) (by kernel_rfl) (by kernel_rfl) (fun _ _ _ h => h) (Or.inr ⟨by rfl, rfl⟩) (by assumption) ?_
    try simp only [Act.put, List.getElem_toArray, List.getElem_cons_zero, List.getElem_cons_succ, List.setIfInBounds_toArray, List.set_cons_zero, List.set_cons_succ]
    refine wpAnyH_take (i := 13) (v := undef) rfl (by kernel_rfl) (by kernel_rfl) (by kernel_rfl) (fun _ _ _ h => h) (Or.inr ⟨by rfl, rfl⟩) (by assumption) ?_
    try simp only [Act.put, List.getElem_toArray, List.getElem_cons_zero, List.getElem_cons_succ, List.setIfInBounds_toArray, List.set_cons_zero, List.set_cons_succ]
    refine wpAnyH_take (i := 14) (v := undef) rfl (by kernel_rfl) (by kernel_rfl) (by kernel_rfl) (fun _ _ _ h => h) (Or.inr ⟨by rfl, rfl⟩) (by assumption) ?_
    try simp only [Act.put, List.getElem_toArray, List.getElem_cons_zero, List.getElem_cons_succ, List.setIfInBounds_toArray, List.set_cons_zero, List.set_cons_succ]
    refine wpAnyH_take (i := 15) (v := undef) rfl (by kernel_rfl) (by kernel_rfl) (by kernel_rfl) (fun _ _ _ h => h) (Or.inr ⟨by rfl, rfl⟩) (by assumption) ?_
    try simp only [Act.put, List.getElem_toArray, List.getElem_cons_zero, List.getElem_cons_succ, List.setIfInBounds_toArray, List.set_cons_zero, List.set_cons_succ]
    refine wpAnyH_take (i := 16) (v := undef) rfl (by kernel_rfl) (by kernel_rfl) (by kernel_rfl) (fun _ _ _ h => h) (Or.inr ⟨by rfl, rfl⟩) (by assumption) ?_
    try simp only [Act.put, List.getElem_toArray, List.getElem_cons_zero, List.getElem_cons_succ, List.setIfInBounds_toArray, List.set_cons_zero, List.set_cons_succ]
    refine wpAnyH_take (i := 17) (v := undef) rfl (by kernel_rfl) (by kernel_rfl) (by kernel_rfl) (fun _ _ _ h => h) (Or.inr ⟨by rfl, rfl⟩) (by assumption) ?_
    try simp only [Act.put, List.getElem_toArray, List.getElem_cons_zero, List.getElem_cons_succ, List.setIfInBounds_toArray, List.set_cons_zero, List.set_cons_succ]
    refine wpAnyH_take (i := 18) (v := undef) rfl (by kernel_rfl) (by kernel_rfl) (by kernel_rfl) (fun _ _ _ h => h) (Or.inr ⟨by rfl, rfl⟩) (by assumption) ?_
    try simp only [Act.put, List.getElem_toArray, List.getElem_cons_zero, List.getElem_cons_succ, List.setIfInBounds_toArray, List.set_cons_zero, List.set_cons_succ]
    refine wpAnyH_take (i := 19) (v := ?_) rfl (by kernel_rfl) (by kernel_rfl) (by kernel_rfl) (fun _ _ _ h => h) (Or.inl ⟨by rfl, ?_⟩) (by assumption) ?_
    rotate_left
    · (intro w hSw; (try dsimp only at hSw); go_simp; try with_reducible rfl)
    try simp only [Act.put, List.getElem_toArray, List.getElem_cons_zero, List.getElem_cons_succ, List.setIfInBounds_toArray, List.set_cons_zero, List.set_cons_succ]
    refine wpAnyH_ready (rs := [22]) (by kernel_rfl) (by simp) ?_
    refine AllReadyH.cons rfl (fun KK hKK => ?_) AllReadyH.nil
    go_simp
    go_at_call 72
    refine (HP1.out.call (expr_any h0 _ HY0.out _ true inn head _ bp _ hi HP1.out.pr HP1.out.len (HP1.out.lies HL0.out))).mono ?_
    rintro e w2 ⟨rfl, hf⟩
    refine hKK.out _ _ (K'.out _ _ hf) (fun hHeld => ?_)
    clear hKK KK
    try simp only [Act.put, List.getElem_toArray, List.getElem_cons_zero, List.getElem_cons_succ, List.setIfInBounds_toArray, List.set_cons_zero, List.set_cons_succ]
    refine wpAnyH_done (by kernel_rfl) ?_ _
    go_wp2_with fail
    go_end0
    rw [HY0.out] at hN
    rw [hN]
    exact hf.fin
  | false =>
    cases hs45 : s.toList == [45] with
    | false =>
      have hN : unNeed s (Nd.mk k0 s0 n0 a0 ks0).strip = false := by show (decide (levelB k0 s0 < 6) || (s.toList == [45] && (k0 == 50 && s0.toList == [45]))) = _; simp [HLV.out, hd, hs45]
      refine wp_region_held_drew (S := (fun W => (∃ y, PSt bp w [(w.heap.size + 1, #[.int .i64 k0, .string s0, .int .i64 n0, .int .i64 a0, .slice A0 ks0.length cap0]), (w.heap.size, #[.int .i64 50, .string s, .int .i64 n, .int .i64 a, .slice (some ⟨b, o, none⟩) (tr0.length + 1) cap])] y W) ∧ W.cell? ⟨w.heap.size, 0, none⟩ = some (.int .i64 50) ∧ W.cell? ⟨w.heap.size, 1, none⟩ = some (.string s) ∧ W.cell? ⟨w.heap.size, 2, none⟩ = some (.int .i64 n) ∧ W.cell? ⟨w.heap.size, 3, none⟩ = some (.int .i64 a) ∧ W.cell? ⟨w.heap.size, 4, none⟩ = some (.slice (some ⟨b, o, none⟩) (tr0.length + 1) cap) ∧ W.cell? ⟨w.heap.size + 1, 0, none⟩ = some (.int .i64 k0) ∧ W.cell? ⟨w.heap.size + 1, 1, none⟩ = some (.string s0) ∧ W.cell? ⟨w.heap.size + 1, 2, none⟩ = some (.int .i64 n0) ∧ W.cell? ⟨w.heap.size + 1, 3, none⟩ = some (.int .i64 a0) ∧ W.cell? ⟨w.heap.size + 1, 4, none⟩ = some (.slice A0 ks0.length cap0) ∧ W.cell? ⟨b, o, none⟩ = some (.int .i64 k0) ∧ W.cell? ⟨b, o + 1, none⟩ = some (.string s0) ∧ W.cell? ⟨b, o + 2, none⟩ = some (.int .i64 n0) ∧ W.cell? ⟨b, o + 3, none⟩ = some (.int .i64 a0) ∧ W.cell? ⟨b, o + 4, none⟩ = some (.slice A0 ks0.length cap0))) (by kernel_rfl) ?_ (fun hHeld => ?_)
      · exact K'.out _ _ HSA.out.drew
      refine wpAnyH_take (i := 0) (v := ?_) rfl (by kernel_rfl) (by kernel_rfl) (by kernel_rfl) (fun _ _ _ h => h) (Or.inl ⟨by rfl, ?_⟩) (by assumption) ?_
      rotate_left
      · (intro w hSw; (try dsimp only at hSw); go_simp; try with_reducible rfl)
      try simp only [Act.put, List.getElem_toArray, List.getElem_cons_zero, List.setIfInBounds_toArray, List.set_cons_zero, List.set_cons_succ]
      refine wpAnyH_take (i := 1) (v := ?_) rfl (by kernel_rfl) (by kernel_rfl) (by kernel_rfl) (fun _ _ _ h => h) (Or.inl ⟨by rfl, ?_⟩) (by assumption) ?_
      rotate_left
      · (intro w hSw; (try dsimp only at hSw); go_simp; try with_reducible rfl)
      try simp only [Act.put, List.getElem_toArray, List.getElem_cons_zero, List.getElem_cons_succ, List.setIfInBounds_toArray, List.set_cons_zero, List.set_cons_succ]
      refine wpAnyH_take (i := 2) (v := ?_) rfl (by kernel_rfl) (by kernel_rfl) (by kernel_rfl) (fun _ _ _ h => h) (Or.inl ⟨by rfl, ?_⟩) (by assumption) ?_
      rotate_left
      · (intro w hSw; (try dsimp only at hSw); go_simp; try with_reducible rfl)
      try simp only [Act.put, List.getElem_toArray, List.getElem_cons_zero, List.getElem_cons_succ, List.setIfInBounds_toArray, List.set_cons_zero, List.set_cons_succ]
      refine wpAnyH_take (i := 20) (v := ?_) rfl (by kernel_rfl) (by kernel_rfl) (by kernel_rfl) (fun _ _ _ h => h) (Or.inl ⟨by rfl, ?_⟩) (by assumption) ?_
      rotate_left
      · (intro w hSw; (try dsimp only at hSw); go_simp; try with_reducible rfl)
      try simp only [Act.put, List.getElem_toArray, List.getElem_cons_zero, List.getElem_cons_succ, List.setIfInBounds_toArray, List.set_cons_zero, List.set_cons_succ]
      refine wpAnyH_take (i := 21) (v := ?_) rfl (by kernel_rfl) (by kernel_rfl) (by kernel_rfl) (fun _ _ _ h => h) (Or.inl ⟨by rfl, ?_⟩) (by assumption) ?_
      rotate_left
      · (intro w hSw; (try dsimp only at hSw); go_simp; try with_reducible rfl)
      try simp only [Act.put, List.getElem_toArray, List.getElem_cons_zero, List.getElem_cons_succ, List.setIfInBounds_toArray, List.set_cons_zero, List.set_cons_succ]
      refine wpAnyH_ready (rs := [3]) (by kernel_rfl) (by simp) ?_
      refine AllReadyH.cons rfl (fun KK hKK => ?_) AllReadyH.nil
      go_simp
      go_at_call 84
      refine (HLVC.out _).mono ?_
      rintro e wl ⟨rfl, rfl⟩
      have HP1 := Lib.hid (HSA.out.drew.alloc (.cells #[.int .i64 k0, .string s0, .int .i64 n0, .int .i64 a0, .slice A0 ks0.length cap0] 24))
      refine hKK.out _ _ (K'.out _ _ HP1.out) (fun hHeld => ?_)
      clear hKK KK
      try simp only [Act.put, List.getElem_toArray, List.getElem_cons_zero, List.getElem_cons_succ, List.setIfInBounds_toArray, List.set_cons_zero, List.set_cons_succ]
      refine wpAnyH_take (i := 4) (v := ?_) rfl (by kernel_rfl) (by kernel_rfl) (by kernel_rfl) (fun _ _ _ h => h) (Or.inl ⟨by rfl, ?_⟩) (by assumption) ?_
      rotate_left
      · (intro w hSw; (try dsimp only at hSw); go_simp; try with_reducible rfl)
      try simp only [Act.put, List.getElem_toArray, List.getElem_cons_zero, List.getElem_cons_succ, List.setIfInBounds_toArray, List.set_cons_zero, List.set_cons_succ]
      refine wpAnyH_take (i := 5) (v := ?_) rfl (by kernel_rfl) (by kernel_rfl) (by kernel_rfl) (fun _ _ _ h => h) (Or.inl ⟨by rfl, ?_⟩) (by assumption) ?_
      rotate_left
      · (intro w hSw; (try dsimp only at hSw); go_simp; try with_reducible rfl)
      try simp only [Act.put, List.getElem_toArray, List.getElem_cons_zero, List.getElem_cons_succ, List.setIfInBounds_toArray, List.set_cons_zero, List.set_cons_succ]
      refine wpAnyH_take (i := 6) (v := ?_) rfl (by kernel_rfl) (by kernel_rfl) (by kernel_rfl) (fun _ _ _ h => h) (Or.inl ⟨by rfl, ?_⟩) (by assumption) ?_
      rotate_left
      · (intro w hSw; (try dsimp only at hSw); go_simp; try with_reducible rfl)
      try simp only [Act.put, List.getElem_toArray, List.getElem_cons_zero, List.getElem_cons_succ, List.setIfInBounds_toArray, List.set_cons_zero, List.set_cons_succ]
      refine wpAnyH_take (i := 7) (v := ?_) rfl (by kernel_rfl) (by kernel_rfl) (by kernel_rfl) (fun _ _ _ h => h) (Or.inl ⟨by rfl, ?_⟩) (by assumption) ?_
      rotate_left
      · (intro w hSw; (try dsimp only at hSw); go_simp; try with_reducible rfl)
      try simp only [Act.put, List.getElem_toArray, List.getElem_cons_zero, List.getElem_cons_succ, List.setIfInBounds_toArray, List.set_cons_zero, List.set_cons_succ]
      refine wpAnyH_take (i := 8) (v := ?_) rfl (by kernel_rfl) (by kernel_rfl) (by kernel_rfl) (fun _ _ _ h => h) (Or.inl ⟨by rfl, ?_⟩) (by assumption) ?_
      rotate_left
      · (intro w hSw; (try dsimp only at hSw); go_simp; try with_reducible rfl)
      try simp only [Act.put, List.getElem_toArray, List.getElem_cons_zero, List.getElem_cons_succ, List.setIfInBounds_toArray, List.set_cons_zero, List.set_cons_succ]
      refine wpAnyH_take (i := 9) (v := ?_) rfl (by kernel_rfl) (by kernel_rfl) (by kernel_rfl) (fun _ _ _ h => h) (Or.inl ⟨by rfl, ?_⟩) (by assumption) ?_
      rotate_left
      · (intro w hSw; (try dsimp only at hSw); go_simp; try with_reducible rfl)
      try simp only [Act.put, List.getElem_toArray, List.getElem_cons_zero, List.getElem_cons_succ, List.setIfInBounds_toArray, List.set_cons_zero, List.set_cons_succ]
      refine wpAnyH_take (i := 10) (v := undef) rfl (by kernel_rfl) (by kernel_rfl) (by kernel_rfl) (fun _ _ _ h => h) (Or.inr ⟨by rfl, rfl⟩) (by assumption) ?_
      try simp only [Act.put, List.getElem_toArray, List.getElem_cons_zero, List.getElem_cons_succ, List.setIfInBounds_toArray, List.set_cons_zero, List.set_cons_succ]
      refine wpAnyH_take (i := 11) (v := undef) rfl (by kernel_rfl) (by kernel_rfl) (by kernel_rfl) (fun _ _ _ h => h) (Or.inr ⟨by rfl, rfl⟩) (by assumption) ?_
      try simp only [Act.put, List.getElem_toArray, List.getElem_cons_zero, List.getElem_cons_succ, List.setIfInBounds_toArray, List.set_cons_zero, List.set_cons_succ]
      refine wpAnyH_take (i := 12) (v := undef) rfl (by kernel_rfl) (by kernel_rfl) (by kernel_rfl) (fun _ _ _ h => h) (Or.inr ⟨by rfl, rfl⟩) (by assumption) ?_
      try simp only [Act.put, List.getElem_toArray, List.getElem_cons_zero, List.getElem_cons_succ, List.setIfInBounds_toArray, List.set_cons_zero, List.set_cons_succ]
      refine wpAnyH_take (i := 13) (v := ?_) rfl (by kernel_rfl) (by kernel_rfl) (by kernel_rfl) (fun _ _ _ h => h) (Or.inl ⟨by rfl, ?_⟩) (by assumption) ?_
      rotate_left
      · (intro w hSw; (try dsimp only at hSw); go_simp; try with_reducible rfl)
      try simp only [Act.put, List.getElem_toArray, List.getElem_cons_zero, List.getElem_cons_succ, List.setIfInBounds_toArray, List.set_cons_zero, List.set_cons_succ]
      refine wpAnyH_take (i := 14) (v := ?_) rfl (by kernel_rfl) (by kernel_rfl) (by kernel_rfl) (fun _ _ _ h => h) (Or.inl ⟨by rfl, ?_⟩) (by assumption) ?_
      rotate_left
      · (intro w hSw; (try dsimp only at hSw); go_simp; try with_reducible rfl)
      try simp only [Act.put, List.getElem_toArray, List.getElem_cons_zero, List.getElem_cons_succ, List.setIfInBounds_toArray, List.set_cons_zero, List.set_cons_succ]
      refine wpAnyH_take (i := 15) (v := undef) rfl (by kernel_rfl) (by kernel_rfl) (by kernel_rfl) (fun _ _ _ h => h) (Or.inr ⟨by rfl, rfl⟩) (by assumption) ?_
      try simp only [Act.put, List.getElem_toArray, List.getElem_cons_zero, List.getElem_cons_succ, List.setIfInBounds_toArray, List.set_cons_zero, List.set_cons_succ]
      refine wpAnyH_take (i := 16) (v := undef) rfl (by kernel_rfl) (by kernel_rfl) (by kernel_rfl) (fun _ _ _ h => h) (Or.inr ⟨by rfl, rfl⟩) (by assumption) ?_
      try simp only [Act.put, List.getElem_toArray, List.getElem_cons_zero, List.getElem_cons_succ, List.setIfInBounds_toArray, List.set_cons_zero, List.set_cons_succ]
      refine wpAnyH_take (i := 17) (v := undef) rfl (by kernel_rfl) (by kernel_rfl) (by kernel_rfl) (fun _ _ _ h => h) (Or.inr ⟨by rfl, rfl⟩) (by assumption) ?_
      try simp only [Act.put, List.getElem_toArray, List.getElem_cons_zero, List.getElem_cons_succ, List.setIfInBounds_toArray, List.set_cons_zero, List.set_cons_succ]
      refine wpAnyH_take (i := 18) (v := ?_) rfl (by kernel_rfl) (by kernel_rfl) (by kernel_rfl) (fun _ _ _ h => h) (Or.inl ⟨by rfl, ?_⟩) (by assumption) ?_
      rotate_left
      · (intro w hSw; (try dsimp only at hSw); go_simp; try with_reducible rfl)
      try simp only [Act.put, List.getElem_toArray, List.getElem_cons_zero, List.getElem_cons_succ, List.setIfInBounds_toArray, List.set_cons_zero, List.set_cons_succ]
      refine wpAnyH_take (i := 19) (v := ?_) rfl (by kernel_rfl) (by kernel_rfl) (by kernel_rfl) (fun _ _ _ h => h) (Or.inl ⟨by rfl, ?_⟩) (by assumption) ?_
      rotate_left
      · (intro w hSw; (try dsimp only at hSw); go_simp; try with_reducible rfl)
      try simp only [Act.put, List.getElem_toArray, List.getElem_cons_zero, List.getElem_cons_succ, List.setIfInBounds_toArray, List.set_cons_zero, List.set_cons_succ]
      refine wpAnyH_ready (rs := [22]) (by kernel_rfl) (by simp) ?_
      refine AllReadyH.cons rfl (fun KK hKK => ?_) AllReadyH.nil
      go_simp
      go_at_call 72
      refine (HP1.out.call (expr_any h0 _ HY0.out _ false inn head _ bp _ hi HP1.out.pr HP1.out.len (HP1.out.lies HL0.out))).mono ?_
      rintro e w2 ⟨rfl, hf⟩
      refine hKK.out _ _ (K'.out _ _ hf) (fun hHeld => ?_)
      clear hKK KK
      try simp only [Act.put, List.getElem_toArray, List.getElem_cons_zero, List.getElem_cons_succ, List.setIfInBounds_toArray, List.set_cons_zero, List.set_cons_succ]
      refine wpAnyH_done (by kernel_rfl) ?_ _
      go_wp2_with fail
      go_end0
      rw [HY0.out] at hN
      rw [hN]
      exact hf.fin
    | true =>
      cases hk50 : k0 == 50 with
      | false =>
        have hN : unNeed s (Nd.mk k0 s0 n0 a0 ks0).strip = false := by show (decide (levelB k0 s0 < 6) || (s.toList == [45] && (k0 == 50 && s0.toList == [45]))) = _; simp [HLV.out, hd, hs45, hk50]
        refine wp_region_held_drew (S := (fun W => (∃ y, PSt bp w [(w.heap.size + 1, #[.int .i64 k0, .string s0, .int .i64 n0, .int .i64 a0, .slice A0 ks0.length cap0]), (w.heap.size, #[.int .i64 50, .string s, .int .i64 n, .int .i64 a, .slice (some ⟨b, o, none⟩) (tr0.length + 1) cap])] y W) ∧ W.cell? ⟨w.heap.size, 0, none⟩ = some (.int .i64 50) ∧ W.cell? ⟨w.heap.size, 1, none⟩ = some (.string s) ∧ W.cell? ⟨w.heap.size, 2, none⟩ = some (.int .i64 n) ∧ W.cell? ⟨w.heap.size, 3, none⟩ = some (.int .i64 a) ∧ W.cell? ⟨w.heap.size, 4, none⟩ = some (.slice (some ⟨b, o, none⟩) (tr0.length + 1) cap) ∧ W.cell? ⟨w.heap.size + 1, 0, none⟩ = some (.int .i64 k0) ∧ W.cell? ⟨w.heap.size + 1, 1, none⟩ = some (.string s0) ∧ W.cell? ⟨w.heap.size + 1, 2, none⟩ = some (.int .i64 n0) ∧ W.cell? ⟨w.heap.size + 1, 3, none⟩ = some (.int .i64 a0) ∧ W.cell? ⟨w.heap.size + 1, 4, none⟩ = some (.slice A0 ks0.length cap0) ∧ W.cell? ⟨b, o, none⟩ = some (.int .i64 k0) ∧ W.cell? ⟨b, o + 1, none⟩ = some (.string s0) ∧ W.cell? ⟨b, o + 2, none⟩ = some (.int .i64 n0) ∧ W.cell? ⟨b, o + 3, none⟩ = some (.int .i64 a0) ∧ W.cell? ⟨b, o + 4, none⟩ = some (.slice A0 ks0.length cap0))) (by kernel_rfl) ?_ (fun hHeld => ?_)
        · exact K'.out _ _ HSA.out.drew
        refine wpAnyH_take (i := 0) (v := ?_) rfl (by kernel_rfl) (by kernel_rfl) (by kernel_rfl) (fun _ _ _ h => h) (Or.inl ⟨by rfl, ?_⟩) (by assumption) ?_
        rotate_left
        · (intro w hSw; (try dsimp only at hSw); go_simp; try with_reducible rfl)
        try simp only [Act.put, List.getElem_toArray, List.getElem_cons_zero, List.setIfInBounds_toArray, List.set_cons_zero, List.set_cons_succ]
        refine wpAnyH_take (i := 1) (v := ?_) rfl (by kernel_rfl) (by kernel_rfl) (by kernel_rfl) (fun _ _ _ h => h) (Or.inl ⟨by rfl, ?_⟩) (by assumption) ?_
        rotate_left
        · (intro w hSw; (try dsimp only at hSw); go_simp; try with_reducible rfl)
        try simp only [Act.put, List.getElem_toArray, List.getElem_cons_zero, List.getElem_cons_succ, List.setIfInBounds_toArray, List.set_cons_zero, List.set_cons_succ]
        refine wpAnyH_take (i := 2) (v := ?_) rfl (by kernel_rfl) (by kernel_rfl) (by kernel_rfl) (fun _ _ _ h => h) (Or.inl ⟨by rfl, ?_⟩) (by assumption) ?_
        rotate_left
        · (intro w hSw; (try dsimp only at hSw); go_simp; try with_reducible rfl)
        try simp only [Act.put, List.getElem_toArray, List.getElem_cons_zero, List.getElem_cons_succ, List.setIfInBounds_toArray, List.set_cons_zero, List.set_cons_succ]
        refine wpAnyH_take (i := 20) (v := ?_) rfl (by kernel_rfl) (by kernel_rfl) (by kernel_rfl) (fun _ _ _ h => h) (Or.inl ⟨by rfl, ?_⟩) (by assumption) ?_
        rotate_left
        · (intro w hSw; (try dsimp only at hSw); go_simp; try with_reducible rfl)
        try simp only [Act.put, List.getElem_toArray, List.getElem_cons_zero, List.getElem_cons_succ, List.setIfInBounds_toArray, List.set_cons_zero, List.set_cons_succ]
        refine wpAnyH_take (i := 21) (v := ?_) rfl (by kernel_rfl) (by kernel_rfl) (by kernel_rfl) (fun _ _ _ h => h) (Or.inl ⟨by rfl, ?_⟩) (by assumption) ?_
        rotate_left
        · (intro w hSw; (try dsimp only at hSw); go_simp; try with_reducible rfl)
        try simp only [Act.put, List.getElem_toArray, List.getElem_cons_zero, List.getElem_cons_succ, List.setIfInBounds_toArray, List.set_cons_zero, List.set_cons_succ]
        refine wpAnyH_ready (rs := [3]) (by kernel_rfl) (by simp) ?_
        refine AllReadyH.cons rfl (fun KK hKK => ?_) AllReadyH.nil
        go_simp
        go_at_call 84
        refine (HLVC.out _).mono ?_
        rintro e wl ⟨rfl, rfl⟩
        have HP1 := Lib.hid (HSA.out.drew.alloc (.cells #[.int .i64 k0, .string s0, .int .i64 n0, .int .i64 a0, .slice A0 ks0.length cap0] 24))
        refine hKK.out _ _ (K'.out _ _ HP1.out) (fun hHeld => ?_)
        clear hKK KK
        try simp only [Act.put, List.getElem_toArray, List.getElem_cons_zero, List.getElem_cons_succ, List.setIfInBounds_toArray, List.set_cons_zero, List.set_cons_succ]
        refine wpAnyH_take (i := 4) (v := ?_) rfl (by kernel_rfl) (by kernel_rfl) (by kernel_rfl) (fun _ _ _ h => h) (Or.inl ⟨by rfl, ?_⟩) (by assumption) ?_
        rotate_left
        · (intro w hSw; (try dsimp only at hSw); go_simp; try with_reducible rfl)
        try simp only [Act.put, List.getElem_toArray, List.getElem_cons_zero, List.getElem_cons_succ, List.setIfInBounds_toArray, List.set_cons_zero, List.set_cons_succ]
        refine wpAnyH_take (i := 5) (v := ?_) rfl (by kernel_rfl) (by kernel_rfl) (by kernel_rfl) (fun _ _ _ h => h) (Or.inl ⟨by rfl, ?_⟩) (by assumption) ?_
        rotate_left
        · (intro w hSw; (try dsimp only at hSw); go_simp; try with_reducible rfl)
        try simp only [Act.put, List.getElem_toArray, List.getElem_cons_zero, List.getElem_cons_succ, List.setIfInBounds_toArray, List.set_cons_zero, List.set_cons_succ]
        refine wpAnyH_take (i := 6) (v := ?_) rfl (by kernel_rfl) (by kernel_rfl) (by kernel_rfl) (fun _ _ _ h => h) (Or.inl ⟨by rfl, ?_⟩) (by assumption) ?_
        rotate_left
        · (intro w hSw; (try dsimp only at hSw); go_simp; try with_reducible rfl)
        try simp only [Act.put, List.getElem_toArray, List.getElem_cons_zero, List.getElem_cons_succ, List.setIfInBounds_toArray, List.set_cons_zero, List.set_cons_succ]
        refine wpAnyH_take (i := 7) (v := ?_) rfl (by kernel_rfl) (by kernel_rfl) (by kernel_rfl) (fun _ _ _ h => h) (Or.inl ⟨by rfl, ?_⟩) (by assumption) ?_
        rotate_left
        · (intro w hSw; (try dsimp only at hSw); go_simp; try with_reducible rfl)
        try simp only [Act.put, List.getElem_toArray, List.getElem_cons_zero, List.getElem_cons_succ, List.setIfInBounds_toArray, List.set_cons_zero, List.set_cons_succ]
        refine wpAnyH_take (i := 8) (v := ?_) rfl (by kernel_rfl) (by kernel_rfl) (by kernel_rfl) (fun _ _ _ h => h) (Or.inl ⟨by rfl, ?_⟩) (by assumption) ?_
        rotate_left
        · (intro w hSw; (try dsimp only at hSw); go_simp; try with_reducible rfl)
        try simp only [Act.put, List.getElem_toArray, List.getElem_cons_zero, List.getElem_cons_succ, List.setIfInBounds_toArray, List.set_cons_zero, List.set_cons_succ]
        refine wpAnyH_take (i := 9) (v := ?_) rfl (by kernel_rfl) (by kernel_rfl) (by kernel_rfl) (fun _ _ _ h => h) (Or.inl ⟨by rfl, ?_⟩) (by assumption) ?_
        rotate_left
        · (intro w hSw; (try dsimp only at hSw); go_simp; try with_reducible rfl)
        try simp only [Act.put, List.getElem_toArray, List.getElem_cons_zero, List.getElem_cons_succ, List.setIfInBounds_toArray, List.set_cons_zero, List.set_cons_succ]
        refine wpAnyH_take (i := 10) (v := ?_) rfl (by kernel_rfl) (by kernel_rfl) (by kernel_rfl) (fun _ _ _ h => h) (Or.inl ⟨by rfl, ?_⟩) (by assumption) ?_
        rotate_left
        · (intro w hSw; (try dsimp only at hSw); go_simp; try with_reducible rfl)
        try simp only [Act.put, List.getElem_toArray, List.getElem_cons_zero, List.getElem_cons_succ, List.setIfInBounds_toArray, List.set_cons_zero, List.set_cons_succ]
        refine wpAnyH_take (i := 11) (v := ?_) rfl (by kernel_rfl) (by kernel_rfl) (by kernel_rfl) (fun _ _ _ h => h) (Or.inl ⟨by rfl, ?_⟩) (by assumption) ?_
        rotate_left
        · (intro w hSw; (try dsimp only at hSw); go_simp; try with_reducible rfl)
        try simp only [Act.put, List.getElem_toArray, List.getElem_cons_zero, List.getElem_cons_succ, List.setIfInBounds_toArray, List.set_cons_zero, List.set_cons_succ]
        refine wpAnyH_take (i := 12) (v := ?_) rfl (by kernel_rfl) (by kernel_rfl) (by kernel_rfl) (fun _ _ _ h => h) (Or.inl ⟨by rfl, ?_⟩) (by assumption) ?_
        rotate_left
        · (intro w hSw; (try dsimp only at hSw); go_simp; try with_reducible rfl)
        try simp only [Act.put, List.getElem_toArray, List.getElem_cons_zero, List.getElem_cons_succ, List.setIfInBounds_toArray, List.set_cons_zero, List.set_cons_succ]
        refine wpAnyH_take (i := 13) (v := ?_) rfl (by kernel_rfl) (by kernel_rfl) (by kernel_rfl) (fun _ _ _ h => h) (Or.inl ⟨by rfl, ?_⟩) (by assumption) ?_
        rotate_left
        · (intro w hSw; (try dsimp only at hSw); go_simp; try with_reducible rfl)
        try simp only [Act.put, List.getElem_toArray, List.getElem_cons_zero, List.getElem_cons_succ, List.setIfInBounds_toArray, List.set_cons_zero, List.set_cons_succ]
        refine wpAnyH_take (i := 14) (v := ?_) rfl (by kernel_rfl) (by kernel_rfl) (by kernel_rfl) (fun _ _ _ h => h) (Or.inl ⟨by rfl, ?_⟩) (by assumption) ?_
        rotate_left
        · (intro w hSw; (try dsimp only at hSw); go_simp; try with_reducible rfl)
        try simp only [Act.put, List.getElem_toArray, List.getElem_cons_zero, List.getElem_cons_succ, List.setIfInBounds_toArray, List.set_cons_zero, List.set_cons_succ]
        refine wpAnyH_take (i := 15) (v := undef) rfl (by kernel_rfl) (by kernel_rfl) (by kernel_rfl) (fun _ _ _ h => h) (Or.inr ⟨by rfl, rfl⟩) (by assumption) ?_
        try simp only [Act.put, List.getElem_toArray, List.getElem_cons_zero, List.getElem_cons_succ, List.setIfInBounds_toArray, List.set_cons_zero, List.set_cons_succ]
        refine wpAnyH_take (i := 16) (v := undef) rfl (by kernel_rfl) (by kernel_rfl) (by kernel_rfl) (fun _ _ _ h => h) (Or.inr ⟨by rfl, rfl⟩) (by assumption) ?_
        try simp only [Act.put, List.getElem_toArray, List.getElem_cons_zero, List.getElem_cons_succ, List.setIfInBounds_toArray, List.set_cons_zero, List.set_cons_succ]
        refine wpAnyH_take (i := 17) (v := undef) rfl (by kernel_rfl) (by kernel_rfl) (by kernel_rfl) (fun _ _ _ h => h) (Or.inr ⟨by rfl, rfl⟩) (by assumption) ?_
        try simp only [Act.put, List.getElem_toArray, List.getElem_cons_zero, List.getElem_cons_succ, List.setIfInBounds_toArray, List.set_cons_zero, List.set_cons_succ]
        refine wpAnyH_take (i := 18) (v := ?_) rfl (by kernel_rfl) (by kernel_rfl) (by kernel_rfl) (fun _ _ _ h => h) (Or.inl ⟨by rfl, ?_⟩) (by assumption) ?_
        rotate_left
        · (intro w hSw; (try dsimp only at hSw); go_simp; try with_reducible rfl)
        try simp only [Act.put, List.getElem_toArray, List.getElem_cons_zero, List.getElem_cons_succ, List.setIfInBounds_toArray, List.set_cons_zero, List.set_cons_succ]
        refine wpAnyH_take (i := 19) (v := ?_) rfl (by kernel_rfl) (by kernel_rfl) (by kernel_rfl) (fun _ _ _ h => h) (Or.inl ⟨by rfl, ?_⟩) (by assumption) ?_
        rotate_left
        · (intro w hSw; (try dsimp only at hSw); go_simp; try with_reducible rfl)
        try simp only [Act.put, List.getElem_toArray, List.getElem_cons_zero, List.getElem_cons_succ, List.setIfInBounds_toArray, List.set_cons_zero, List.set_cons_succ]
        refine wpAnyH_ready (rs := [22]) (by kernel_rfl) (by simp) ?_
        refine AllReadyH.cons rfl (fun KK hKK => ?_) AllReadyH.nil
        go_simp
        go_at_call 72
        refine (HP1.out.call (expr_any h0 _ HY0.out _ false inn head _ bp _ hi HP1.out.pr HP1.out.len (HP1.out.lies HL0.out))).mono ?_
        rintro e w2 ⟨rfl, hf⟩
        refine hKK.out _ _ (K'.out _ _ hf) (fun hHeld => ?_)
        clear hKK KK
        try simp only [Act.put, List.getElem_toArray, List.getElem_cons_zero, List.getElem_cons_succ, List.setIfInBounds_toArray, List.set_cons_zero, List.set_cons_succ]
        refine wpAnyH_done (by kernel_rfl) ?_ _
        go_wp2_with fail
        go_end0
        rw [HY0.out] at hN
        rw [hN]
        exact hf.fin
      | true =>
        obtain ⟨bb, HBB⟩ : ∃ bb, Hid ((s0.toList == [45]) = bb) := ⟨_, rfl⟩
        have hbb := HBB.out
        have hN : unNeed s (Nd.mk k0 s0 n0 a0 ks0).strip = bb := by show (decide (levelB k0 s0 < 6) || (s.toList == [45] && (k0 == 50 && s0.toList == [45]))) = _; simp [HLV.out, hd, hs45, hk50, hbb]
        refine wp_region_held_drew (S := (fun W => (∃ y, PSt bp w [(w.heap.size + 1, #[.int .i64 k0, .string s0, .int .i64 n0, .int .i64 a0, .slice A0 ks0.length cap0]), (w.heap.size, #[.int .i64 50, .string s, .int .i64 n, .int .i64 a, .slice (some ⟨b, o, none⟩) (tr0.length + 1) cap])] y W) ∧ W.cell? ⟨w.heap.size, 0, none⟩ = some (.int .i64 50) ∧ W.cell? ⟨w.heap.size, 1, none⟩ = some (.string s) ∧ W.cell? ⟨w.heap.size, 2, none⟩ = some (.int .i64 n) ∧ W.cell? ⟨w.heap.size, 3, none⟩ = some (.int .i64 a) ∧ W.cell? ⟨w.heap.size, 4, none⟩ = some (.slice (some ⟨b, o, none⟩) (tr0.length + 1) cap) ∧ W.cell? ⟨w.heap.size + 1, 0, none⟩ = some (.int .i64 k0) ∧ W.cell? ⟨w.heap.size + 1, 1, none⟩ = some (.string s0) ∧ W.cell? ⟨w.heap.size + 1, 2, none⟩ = some (.int .i64 n0) ∧ W.cell? ⟨w.heap.size + 1, 3, none⟩ = some (.int .i64 a0) ∧ W.cell? ⟨w.heap.size + 1, 4, none⟩ = some (.slice A0 ks0.length cap0) ∧ W.cell? ⟨b, o, none⟩ = some (.int .i64 k0) ∧ W.cell? ⟨b, o + 1, none⟩ = some (.string s0) ∧ W.cell? ⟨b, o + 2, none⟩ = some (.int .i64 n0) ∧ W.cell? ⟨b, o + 3, none⟩ = some (.int .i64 a0) ∧ W.cell? ⟨b, o + 4, none⟩ = some (.slice A0 ks0.length cap0))) (by kernel_rfl) ?_ (fun hHeld => ?_)
        · exact K'.out _ _ HSA.out.drew
        refine wpAnyH_take (i := 0) (v := ?_) rfl (by kernel_rfl) (by kernel_rfl) (by kernel_rfl) (fun _ _ _ h => h) (Or.inl ⟨by rfl, ?_⟩) (by assumption) ?_
        rotate_left
        · (intro w hSw; (try dsimp only at hSw); go_simp; try with_reducible rfl)
        try simp only [Act.put, List.getElem_toArray, List.getElem_cons_zero, List.setIfInBounds_toArray, List.set_cons_zero, List.set_cons_succ]
        refine wpAnyH_take (i := 1) (v := ?_) rfl (by kernel_rfl) (by kernel_rfl) (by kernel_rfl) (fun _ _ _ h => h) (Or.inl ⟨by rfl, ?_⟩) (by assumption) ?_
        rotate_left
        · (intro w hSw; (try dsimp only at hSw); go_simp; try with_reducible rfl)
        try simp only [Act.put, List.getElem_toArray, List.getElem_cons_zero, List.getElem_cons_succ, List.setIfInBounds_toArray, List.set_cons_zero, List.set_cons_succ]
        refine wpAnyH_take (i := 2) (v := ?_) rfl (by kernel_rfl) (by kernel_rfl) (by kernel_rfl) (fun _ _ _ h => h) (Or.inl ⟨by rfl, ?_⟩) (by assumption) ?_
        rotate_left
        · (intro w hSw; (try dsimp only at hSw); go_simp; try with_reducible rfl)
        try simp only [Act.put, List.getElem_toArray, List.getElem_cons_zero, List.getElem_cons_succ, List.setIfInBounds_toArray, List.set_cons_zero, List.set_cons_succ]
        refine wpAnyH_take (i := 20) (v := ?_) rfl (by kernel_rfl) (by kernel_rfl) (by kernel_rfl) (fun _ _ _ h => h) (Or.inl ⟨by rfl, ?_⟩) (by assumption) ?_
        rotate_left
        · (intro w hSw; (try dsimp only at hSw); go_simp; try with_reducible rfl)
        try simp only [Act.put, List.getElem_toArray, List.getElem_cons_zero, List.getElem_cons_succ, List.setIfInBounds_toArray, List.set_cons_zero, List.set_cons_succ]
        refine wpAnyH_take (i := 21) (v := ?_) rfl (by kernel_rfl) (by kernel_rfl) (by kernel_rfl) (fun _ _ _ h => h) (Or.inl ⟨by rfl, ?_⟩) (by assumption) ?_
        rotate_left
        · (intro w hSw; (try dsimp only at hSw); go_simp; try with_reducible rfl)
        try simp only [Act.put, List.getElem_toArray, List.getElem_cons_zero, List.getElem_cons_succ, List.setIfInBounds_toArray, List.set_cons_zero, List.set_cons_succ]
        refine wpAnyH_ready (rs := [3]) (by kernel_rfl) (by simp) ?_
        refine AllReadyH.cons rfl (fun KK hKK => ?_) AllReadyH.nil
        go_simp
        go_at_call 84
        refine (HLVC.out _).mono ?_
        rintro e wl ⟨rfl, rfl⟩
        have HP1 := Lib.hid (HSA.out.drew.alloc (.cells #[.int .i64 k0, .string s0, .int .i64 n0, .int .i64 a0, .slice A0 ks0.length cap0] 24))
        refine hKK.out _ _ (K'.out _ _ HP1.out) (fun hHeld => ?_)
        clear hKK KK
        try simp only [Act.put, List.getElem_toArray, List.getElem_cons_zero, List.getElem_cons_succ, List.setIfInBounds_toArray, List.set_cons_zero, List.set_cons_succ]
        refine wpAnyH_take (i := 4) (v := ?_) rfl (by kernel_rfl) (by kernel_rfl) (by kernel_rfl) (fun _ _ _ h => h) (Or.inl ⟨by rfl, ?_⟩) (by assumption) ?_
        rotate_left
        · (intro w hSw; (try dsimp only at hSw); go_simp; try with_reducible rfl)
        try simp only [Act.put, List.getElem_toArray, List.getElem_cons_zero, List.getElem_cons_succ, List.setIfInBounds_toArray, List.set_cons_zero, List.set_cons_succ]
        refine wpAnyH_take (i := 5) (v := ?_) rfl (by kernel_rfl) (by kernel_rfl) (by kernel_rfl) (fun _ _ _ h => h) (Or.inl ⟨by rfl, ?_⟩) (by assumption) ?_
        rotate_left
        · (intro w hSw; (try dsimp only at hSw); go_simp; try with_reducible rfl)
        try simp only [Act.put, List.getElem_toArray, List.getElem_cons_zero, List.getElem_cons_succ, List.setIfInBounds_toArray, List.set_cons_zero, List.set_cons_succ]
        refine wpAnyH_take (i := 6) (v := ?_) rfl (by kernel_rfl) (by kernel_rfl) (by kernel_rfl) (fun _ _ _ h => h) (Or.inl ⟨by rfl, ?_⟩) (by assumption) ?_
        rotate_left
        · (intro w hSw; (try dsimp only at hSw); go_simp; try with_reducible rfl)
        try simp only [Act.put, List.getElem_toArray, List.getElem_cons_zero, List.getElem_cons_succ, List.setIfInBounds_toArray, List.set_cons_zero, List.set_cons_succ]
        refine wpAnyH_take (i := 7) (v := ?_) rfl (by kernel_rfl) (by kernel_rfl) (by kernel_rfl) (fun _ _ _ h => h) (Or.inl ⟨by rfl, ?_⟩) (by assumption) ?_
        rotate_left
        · (intro w hSw; (try dsimp only at hSw); go_simp; try with_reducible rfl)
        try simp only [Act.put, List.getElem_toArray, List.getElem_cons_zero, List.getElem_cons_succ, List.setIfInBounds_toArray, List.set_cons_zero, List.set_cons_succ]
        refine wpAnyH_take (i := 8) (v := ?_) rfl (by kernel_rfl) (by kernel_rfl) (by kernel_rfl) (fun _ _ _ h => h) (Or.inl ⟨by rfl, ?_⟩) (by assumption) ?_
        rotate_left
        · (intro w hSw; (try dsimp only at hSw); go_simp; try with_reducible rfl)
        try simp only [Act.put, List.getElem_toArray, List.getElem_cons_zero, List.getElem_cons_succ, List.setIfInBounds_toArray, List.set_cons_zero, List.set_cons_succ]
        refine wpAnyH_take (i := 9) (v := ?_) rfl (by kernel_rfl) (by kernel_rfl) (by kernel_rfl) (fun _ _ _ h => h) (Or.inl ⟨by rfl, ?_⟩) (by assumption) ?_
        rotate_left
        · (intro w hSw; (try dsimp only at hSw); go_simp; try with_reducible rfl)
        try simp only [Act.put, List.getElem_toArray, List.getElem_cons_zero, List.getElem_cons_succ, List.setIfInBounds_toArray, List.set_cons_zero, List.set_cons_succ]
        refine wpAnyH_take (i := 10) (v := ?_) rfl (by kernel_rfl) (by kernel_rfl) (by kernel_rfl) (fun _ _ _ h => h) (Or.inl ⟨by rfl, ?_⟩) (by assumption) ?_
        rotate_left
        · (intro w hSw; (try dsimp only at hSw); go_simp; try with_reducible rfl)
        try simp only [Act.put, List.getElem_toArray, List.getElem_cons_zero, List.getElem_cons_succ, List.setIfInBounds_toArray, List.set_cons_zero, List.set_cons_succ]
        refine wpAnyH_take (i := 11) (v := ?_) rfl (by kernel_rfl) (by kernel_rfl) (by kernel_rfl) (fun _ _ _ h => h) (Or.inl ⟨by rfl, ?_⟩) (by assumption) ?_
        rotate_left
        · (intro w hSw; (try dsimp only at hSw); go_simp; try with_reducible rfl)
        try simp only [Act.put, List.getElem_toArray, List.getElem_cons_zero, List.getElem_cons_succ, List.setIfInBounds_toArray, List.set_cons_zero, List.set_cons_succ]
        refine wpAnyH_take (i := 12) (v := ?_) rfl (by kernel_rfl) (by kernel_rfl) (by kernel_rfl) (fun _ _ _ h => h) (Or.inl ⟨by rfl, ?_⟩) (by assumption) ?_
        rotate_left
        · (intro w hSw; (try dsimp only at hSw); go_simp; try with_reducible rfl)
        try simp only [Act.put, List.getElem_toArray, List.getElem_cons_zero, List.getElem_cons_succ, List.setIfInBounds_toArray, List.set_cons_zero, List.set_cons_succ]
        refine wpAnyH_take (i := 13) (v := ?_) rfl (by kernel_rfl) (by kernel_rfl) (by kernel_rfl) (fun _ _ _ h => h) (Or.inl ⟨by rfl, ?_⟩) (by assumption) ?_
        rotate_left
        · (intro w hSw; (try dsimp only at hSw); go_simp; try with_reducible rfl)
        try simp only [Act.put, List.getElem_toArray, List.getElem_cons_zero, List.getElem_cons_succ, List.setIfInBounds_toArray, List.set_cons_zero, List.set_cons_succ]
        refine wpAnyH_take (i := 14) (v := ?_) rfl (by kernel_rfl) (by kernel_rfl) (by kernel_rfl) (fun _ _ _ h => h) (Or.inl ⟨by rfl, ?_⟩) (by assumption) ?_
        rotate_left
        · (intro w hSw; (try dsimp only at hSw); go_simp; try with_reducible rfl)
        try simp only [Act.put, List.getElem_toArray, List.getElem_cons_zero, List.getElem_cons_succ, List.setIfInBounds_toArray, List.set_cons_zero, List.set_cons_succ]
        refine wpAnyH_take (i := 15) (v := ?_) rfl (by kernel_rfl) (by kernel_rfl) (by kernel_rfl) (fun _ _ _ h => h) (Or.inl ⟨by rfl, ?_⟩) (by assumption) ?_
        rotate_left
        · (intro w hSw; (try dsimp only at hSw); go_simp; try with_reducible rfl)
        try simp only [Act.put, List.getElem_toArray, List.getElem_cons_zero, List.getElem_cons_succ, List.setIfInBounds_toArray, List.set_cons_zero, List.set_cons_succ]
        refine wpAnyH_take (i := 16) (v := ?_) rfl (by kernel_rfl) (by kernel_rfl) (by kernel_rfl) (fun _ _ _ h => h) (Or.inl ⟨by rfl, ?_⟩) (by assumption) ?_
        rotate_left
        · (intro w hSw; (try dsimp only at hSw); go_simp; try with_reducible rfl)
        try simp only [Act.put, List.getElem_toArray, List.getElem_cons_zero, List.getElem_cons_succ, List.setIfInBounds_toArray, List.set_cons_zero, List.set_cons_succ]
        refine wpAnyH_take (i := 17) (v := ?_) rfl (by kernel_rfl) (by kernel_rfl) (by kernel_rfl) (fun _ _ _ h => h) (Or.inl ⟨by rfl, ?_⟩) (by assumption) ?_
        rotate_left
        · (intro w hSw; (try dsimp only at hSw); go_simp; try with_reducible rfl)
        try simp only [Act.put, List.getElem_toArray, List.getElem_cons_zero, List.getElem_cons_succ, List.setIfInBounds_toArray, List.set_cons_zero, List.set_cons_succ]
        refine wpAnyH_take (i := 18) (v := ?_) rfl (by kernel_rfl) (by kernel_rfl) (by kernel_rfl) (fun _ _ _ h => h) (Or.inl ⟨by rfl, ?_⟩) (by assumption) ?_
        rotate_left
        · (intro w hSw; (try dsimp only at hSw); go_simp; try with_reducible rfl)
        try simp only [Act.put, List.getElem_toArray, List.getElem_cons_zero, List.getElem_cons_succ, List.setIfInBounds_toArray, List.set_cons_zero, List.set_cons_succ]
        refine wpAnyH_take (i := 19) (v := ?_) rfl (by kernel_rfl) (by kernel_rfl) (by kernel_rfl) (fun _ _ _ h => h) (Or.inl ⟨by rfl, ?_⟩) (by assumption) ?_
        rotate_left
        · (intro w hSw; (try dsimp only at hSw); go_simp; try with_reducible rfl)
        try simp only [Act.put, List.getElem_toArray, List.getElem_cons_zero, List.getElem_cons_succ, List.setIfInBounds_toArray, List.set_cons_zero, List.set_cons_succ]
        refine wpAnyH_ready (rs := [22]) (by kernel_rfl) (by simp) ?_
        refine AllReadyH.cons rfl (fun KK hKK => ?_) AllReadyH.nil
        go_simp
        go_at_call 72
        refine (HP1.out.call (expr_any h0 _ HY0.out _ bb inn head _ bp _ hi HP1.out.pr HP1.out.len (HP1.out.lies HL0.out))).mono ?_
        rintro e w2 ⟨rfl, hf⟩
        refine hKK.out _ _ (K'.out _ _ hf) (fun hHeld => ?_)
        clear hKK KK
        try simp only [Act.put, List.getElem_toArray, List.getElem_cons_zero, List.getElem_cons_succ, List.setIfInBounds_toArray, List.set_cons_zero, List.set_cons_succ]
        refine wpAnyH_done (by kernel_rfl) ?_ _
        go_wp2_with fail
        go_end0
        rw [HY0.out] at hN
        rw [hN]
        exact hf.fin
end Go.Proofs.YtjpmghgmmeemkaaGreatDoor
