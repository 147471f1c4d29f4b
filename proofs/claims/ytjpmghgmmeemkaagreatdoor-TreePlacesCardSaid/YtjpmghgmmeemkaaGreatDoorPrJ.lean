/- The printer: behind, a part of a row. -/
import Derived.Deep.RegionHeld3
import Derived.Deep.DeepCutAuto
import Derived.Test.YtjpmghgmmeemkaaGreatDoorPrI
namespace Go.Proofs.YtjpmghgmmeemkaaGreatDoor
open Go.RowKit

set_option maxHeartbeats 4000000 in
set_option maxRecDepth 100000 in
theorem beh_w_slice2 {s : ByteArray} {n : Int} {y0 y1 y2 y3 : Nd} {ys : List Nd} (h0 : CanB y0) (h1 : CanO y1) (h2 : CanO y2) (h3 : y3.kind = 16) (t : Nd) (htc : t.strip = .mk 47 s n 0 (y0 :: y1 :: y2 :: y3 :: ys)) (v : Value) (inn : Int) (head : Bool) (x : WX) (bp : Nat) (w : World) (hi : okI inn) (h : PrAt bp x.1 x.2 w) (hlen : x.1.length ≤ 60000) (hl : Lies w bp t v) :
    Calls Tryz.prog 85 #[.pointer (some ⟨bp, 0, none⟩), v, .int .i64 inn, .bool head] w (WrPost bp (putL (oneF y2 inn (putL (oneF y1 inn (putL (exprF y0 (behNeed 47 y0) inn head x) [⟨#[91]⟩])) [⟨#[58]⟩])) [⟨#[93]⟩]) w) := by
  have HTC := Lib.hid htc
  have HL := Lib.hid hl
  obtain ⟨k', s', n', a, ks⟩ := t
  obtain ⟨rfl, rfl, rfl, hks⟩ := strip_mk htc
  obtain ⟨⟨k0, s0, n0, a0, ks0⟩, tr0, rfl, hy0, hks⟩ := stripL_cons hks
  have HY0 := Lib.hid hy0
  clear hy0
  obtain ⟨⟨k1, s1, n1, a1, ks1⟩, tr1, rfl, hy1, hks⟩ := stripL_cons hks
  have HY1 := Lib.hid hy1
  clear hy1
  obtain ⟨⟨k2, s2, n2, a2, ks2⟩, tr2, rfl, hy2, hks⟩ := stripL_cons hks
  have HY2 := Lib.hid hy2
  clear hy2
  obtain ⟨⟨k3, s3, n3, a3, ks3⟩, tr3, rfl, hy3, hks⟩ := stripL_cons hks
  have HY3 := Lib.hid hy3
  clear hy3
  have HKS := Lib.hid hks
  unfold Lies at hl
  obtain ⟨A, cap, rfl, _, _, _, hsz, hcl, hcc, hkl⟩ := hl
  obtain ⟨b, o, rfl, hbl, hkl⟩ := kids_some hkl
  obtain ⟨A0, cap0, hKC0, hL0⟩ := LiesL.kid0 rfl hkl
  have KC0 := Lib.hid hKC0
  have HL0 := Lib.hid hL0
  have hsz0 := hL0.size
  clear hKC0 hL0
  obtain ⟨A1, cap1, hKC1, hL1⟩ := LiesL.kidm 1 5 rfl rfl hkl
  have KC1 := Lib.hid hKC1
  have HL1 := Lib.hid hL1
  have hsz1 := hL1.size
  clear hKC1 hL1
  obtain ⟨A2, cap2, hKC2, hL2⟩ := LiesL.kidm 2 10 rfl rfl hkl
  have KC2 := Lib.hid hKC2
  have HL2 := Lib.hid hL2
  have hsz2 := hL2.size
  clear hKC2 hL2
  obtain ⟨A3, cap3, hKC3, hL3⟩ := LiesL.kidm 3 15 rfl rfl hkl
  have KC3 := Lib.hid hKC3
  have HL3 := Lib.hid hL3
  have hsz3 := hL3.size
  clear hKC3 hL3
  have HKL := Lib.hid hkl
  have hs := PSt.init h hlen #[.int .i64 47, .string s, .int .i64 n, .int .i64 a, .slice (some ⟨b, o, none⟩) (.mk k0 s0 n0 a0 ks0 :: .mk k1 s1 n1 a1 ks1 :: .mk k2 s2 n2 a2 ks2 :: .mk k3 s3 n3 a3 ks3 :: tr3 : List Nd).length cap]
  simp only [List.length_cons] at hcl hs ⊢
  have c0 := hs.at_ (List.mem_cons_self ..) 0 rfl
  have c1 := hs.at_ (List.mem_cons_self ..) 1 rfl
  have c2 := hs.at_ (List.mem_cons_self ..) 2 rfl
  have c3 := hs.at_ (List.mem_cons_self ..) 3 rfl
  have c4 := hs.at_ (List.mem_cons_self ..) 4 rfl
  have d00 := hs.kid hbl KC0.out.1
  have d01 := hs.kid hbl KC0.out.2.1
  have d02 := hs.kid hbl KC0.out.2.2.1
  have d03 := hs.kid hbl KC0.out.2.2.2.1
  have d04 := hs.kid hbl KC0.out.2.2.2.2
  have d10 := hs.kid hbl KC1.out.1
  have d11 := hs.kid hbl KC1.out.2.1
  have d12 := hs.kid hbl KC1.out.2.2.1
  have d13 := hs.kid hbl KC1.out.2.2.2.1
  have d14 := hs.kid hbl KC1.out.2.2.2.2
  have d20 := hs.kid hbl KC2.out.1
  have d21 := hs.kid hbl KC2.out.2.1
  have d22 := hs.kid hbl KC2.out.2.2.1
  have d23 := hs.kid hbl KC2.out.2.2.2.1
  have d24 := hs.kid hbl KC2.out.2.2.2.2
  have d30 := hs.kid hbl KC3.out.1
  have d31 := hs.kid hbl KC3.out.2.1
  have d32 := hs.kid hbl KC3.out.2.2.1
  have d33 := hs.kid hbl KC3.out.2.2.2.1
  have d34 := hs.kid hbl KC3.out.2.2.2.2
  have HS := Lib.hid hs
  clear h hs htc hks hkl
  have b0 : (0 : Int) < (tr3.length : Int) + 1 + 1 + 1 + 1 := by omega
  have b1 : (1 : Int) < (tr3.length : Int) + 1 + 1 + 1 + 1 := by omega
  have b2 : (2 : Int) < (tr3.length : Int) + 1 + 1 + 1 + 1 := by omega
  have b3 : (3 : Int) < (tr3.length : Int) + 1 + 1 + 1 + 1 := by omega
  have hs2 := HS.out.push #[.int .i64 k0, .string s0, .int .i64 n0, .int .i64 a0, .slice A0 ks0.length cap0]
  rw [World.size_alloc] at hs2
  have g0 := hs2.at_ (List.mem_cons_self ..) 0 rfl
  have g1 := hs2.at_ (List.mem_cons_self ..) 1 rfl
  have g2 := hs2.at_ (List.mem_cons_self ..) 2 rfl
  have g3 := hs2.at_ (List.mem_cons_self ..) 3 rfl
  have g4 := hs2.at_ (List.mem_cons_self ..) 4 rfl
  have c0 := hs2.at_ (List.mem_cons_of_mem _ (List.mem_cons_self ..)) 0 rfl
  have c1 := hs2.at_ (List.mem_cons_of_mem _ (List.mem_cons_self ..)) 1 rfl
  have c2 := hs2.at_ (List.mem_cons_of_mem _ (List.mem_cons_self ..)) 2 rfl
  have c3 := hs2.at_ (List.mem_cons_of_mem _ (List.mem_cons_self ..)) 3 rfl
  have c4 := hs2.at_ (List.mem_cons_of_mem _ (List.mem_cons_self ..)) 4 rfl
  have d00 := hs2.kid hbl KC0.out.1
  have d01 := hs2.kid hbl KC0.out.2.1
  have d02 := hs2.kid hbl KC0.out.2.2.1
  have d03 := hs2.kid hbl KC0.out.2.2.2.1
  have d04 := hs2.kid hbl KC0.out.2.2.2.2
  have d10 := hs2.kid hbl KC1.out.1
  have d11 := hs2.kid hbl KC1.out.2.1
  have d12 := hs2.kid hbl KC1.out.2.2.1
  have d13 := hs2.kid hbl KC1.out.2.2.2.1
  have d14 := hs2.kid hbl KC1.out.2.2.2.2
  have d20 := hs2.kid hbl KC2.out.1
  have d21 := hs2.kid hbl KC2.out.2.1
  have d22 := hs2.kid hbl KC2.out.2.2.1
  have d23 := hs2.kid hbl KC2.out.2.2.2.1
  have d24 := hs2.kid hbl KC2.out.2.2.2.2
  have d30 := hs2.kid hbl KC3.out.1
  have d31 := hs2.kid hbl KC3.out.2.1
  have d32 := hs2.kid hbl KC3.out.2.2.1
  have d33 := hs2.kid hbl KC3.out.2.2.2.1
  have d34 := hs2.kid hbl KC3.out.2.2.2.2
  have HSA := Lib.hid hs2
  clear hs2
  obtain ⟨lv0, HLV0⟩ : ∃ lv, Hid (levelB k0 s0 = lv) := ⟨_, rfl⟩
  have hlc := fun W => level_any k0 s0 n0 a0 A0 ks0.length cap0 W
  rw [HLV0.out] at hlc
  have HLC0 := Lib.hid hlc
  clear hlc
  obtain ⟨z, HZ⟩ : ∃ z, Hid (exprF y0 (behNeed 47 y0) inn head x = z) := ⟨_, rfl⟩
  rw [HZ.out]
  go_enter Tryz.func85, Tryz.ntmps85
  go_upto_region 2 with fail
  have K : ∀ y W, PSt bp w [(w.heap.size + 1, #[.int .i64 k0, .string s0, .int .i64 n0, .int .i64 a0, .slice A0 ks0.length cap0]), (w.heap.size, #[.int .i64 47, .string s, .int .i64 n, .int .i64 a, .slice (some ⟨b, o, none⟩) (tr3.length + 1 + 1 + 1 + 1) cap])] y W → (∃ y, PSt bp w [(w.heap.size + 1, #[.int .i64 k0, .string s0, .int .i64 n0, .int .i64 a0, .slice A0 ks0.length cap0]), (w.heap.size, #[.int .i64 47, .string s, .int .i64 n, .int .i64 a, .slice (some ⟨b, o, none⟩) (tr3.length + 1 + 1 + 1 + 1) cap])] y W) ∧ W.cell? ⟨w.heap.size, 0, none⟩ = some (.int .i64 47) ∧ W.cell? ⟨w.heap.size, 1, none⟩ = some (.string s) ∧ W.cell? ⟨w.heap.size, 2, none⟩ = some (.int .i64 n) ∧ W.cell? ⟨w.heap.size, 3, none⟩ = some (.int .i64 a) ∧ W.cell? ⟨w.heap.size, 4, none⟩ = some (.slice (some ⟨b, o, none⟩) (tr3.length + 1 + 1 + 1 + 1) cap) ∧ W.cell? ⟨w.heap.size + 1, 0, none⟩ = some (.int .i64 k0) ∧ W.cell? ⟨w.heap.size + 1, 1, none⟩ = some (.string s0) ∧ W.cell? ⟨w.heap.size + 1, 2, none⟩ = some (.int .i64 n0) ∧ W.cell? ⟨w.heap.size + 1, 3, none⟩ = some (.int .i64 a0) ∧ W.cell? ⟨w.heap.size + 1, 4, none⟩ = some (.slice A0 ks0.length cap0) ∧ W.cell? ⟨b, o, none⟩ = some (.int .i64 k0) ∧ W.cell? ⟨b, o + 1, none⟩ = some (.string s0) ∧ W.cell? ⟨b, o + 2, none⟩ = some (.int .i64 n0) ∧ W.cell? ⟨b, o + 3, none⟩ = some (.int .i64 a0) ∧ W.cell? ⟨b, o + 4, none⟩ = some (.slice A0 ks0.length cap0) := fun y W hW => ⟨⟨_, hW⟩, hW.at_ (List.mem_cons_of_mem _ (List.mem_cons_self ..)) 0 rfl, hW.at_ (List.mem_cons_of_mem _ (List.mem_cons_self ..)) 1 rfl, hW.at_ (List.mem_cons_of_mem _ (List.mem_cons_self ..)) 2 rfl, hW.at_ (List.mem_cons_of_mem _ (List.mem_cons_self ..)) 3 rfl, hW.at_ (List.mem_cons_of_mem _ (List.mem_cons_self ..)) 4 rfl, hW.at_ (List.mem_cons_self ..) 0 rfl, hW.at_ (List.mem_cons_self ..) 1 rfl, hW.at_ (List.mem_cons_self ..) 2 rfl, hW.at_ (List.mem_cons_self ..) 3 rfl, hW.at_ (List.mem_cons_self ..) 4 rfl, hW.kid hbl KC0.out.1, hW.kid hbl KC0.out.2.1, hW.kid hbl KC0.out.2.2.1, hW.kid hbl KC0.out.2.2.2.1, hW.kid hbl KC0.out.2.2.2.2⟩
  have K' := Lib.hid K
  clear K
  go_cut [] (fun wx => PSt bp w [(w.heap.size + 1, #[.int .i64 k0, .string s0, .int .i64 n0, .int .i64 a0, .slice A0 ks0.length cap0]), (w.heap.size, #[.int .i64 47, .string s, .int .i64 n, .int .i64 a, .slice (some ⟨b, o, none⟩) (tr3.length + 1 + 1 + 1 + 1) cap])] z wx)
  case first =>
    cases hd : decide (lv0 < 7) with
    | true =>
      have hN : behNeed 47 (Nd.mk k0 s0 n0 a0 ks0).strip = true := by show (decide (levelB k0 s0 < 7) || ((47 : Int) == 48 && (k0 == 14 && s0.toList == [110, 105, 108]))) = _; simp [HLV0.out, hd]
      refine wp_region_held_drew (S := (fun W => (∃ y, PSt bp w [(w.heap.size + 1, #[.int .i64 k0, .string s0, .int .i64 n0, .int .i64 a0, .slice A0 ks0.length cap0]), (w.heap.size, #[.int .i64 47, .string s, .int .i64 n, .int .i64 a, .slice (some ⟨b, o, none⟩) (tr3.length + 1 + 1 + 1 + 1) cap])] y W) ∧ W.cell? ⟨w.heap.size, 0, none⟩ = some (.int .i64 47) ∧ W.cell? ⟨w.heap.size, 1, none⟩ = some (.string s) ∧ W.cell? ⟨w.heap.size, 2, none⟩ = some (.int .i64 n) ∧ W.cell? ⟨w.heap.size, 3, none⟩ = some (.int .i64 a) ∧ W.cell? ⟨w.heap.size, 4, none⟩ = some (.slice (some ⟨b, o, none⟩) (tr3.length + 1 + 1 + 1 + 1) cap) ∧ W.cell? ⟨w.heap.size + 1, 0, none⟩ = some (.int .i64 k0) ∧ W.cell? ⟨w.heap.size + 1, 1, none⟩ = some (.string s0) ∧ W.cell? ⟨w.heap.size + 1, 2, none⟩ = some (.int .i64 n0) ∧ W.cell? ⟨w.heap.size + 1, 3, none⟩ = some (.int .i64 a0) ∧ W.cell? ⟨w.heap.size + 1, 4, none⟩ = some (.slice A0 ks0.length cap0) ∧ W.cell? ⟨b, o, none⟩ = some (.int .i64 k0) ∧ W.cell? ⟨b, o + 1, none⟩ = some (.string s0) ∧ W.cell? ⟨b, o + 2, none⟩ = some (.int .i64 n0) ∧ W.cell? ⟨b, o + 3, none⟩ = some (.int .i64 a0) ∧ W.cell? ⟨b, o + 4, none⟩ = some (.slice A0 ks0.length cap0))) (by kernel_rfl) ?_ (fun hHeld => ?_)
      · exact K'.out _ _ HSA.out.drew
      refine wpAnyH_take (i := 0) (v := ?_) rfl (by kernel_rfl) (by kernel_rfl) (by kernel_rfl) (fun _ _ _ h => h) (Or.inl ⟨by rfl, ?_⟩) (by assumption) ?_
      rotate_left
      · (intro w hSw; (try dsimp only at hSw); go_simp; try with_reducible rfl)
      try simp only [Act.put, List.getElem_toArray, List.getElem_cons_zero, List.setIfInBounds_toArray, List.set_cons_zero, List.set_cons_succ]
      refine wpAnyH_take (i := 1) (v := ?_) rfl (by kernel_rfl) (by kernel_rfl) (by kernel_rfl) (fun _ _ _ h => h) (Or.inl ⟨by rfl, ?_⟩) (by assumption) ?_
      rotate_left
      · (intro w hSw; (try dsimp only at hSw); go_simp; try with_reducible rfl)
      try simp only [Act.put, List.getElem_toArray, List.getElem_cons_zero, List.getElem_cons_succ, List.setIfInBounds_toArray, List.set_cons_zero, List.set_cons_succ]
      refine wpAnyH_take (i := 2) (v := ?_) rfl (by kernel_rfl) (by kernel_rfl) (by kernel_rfl) (fun _ _ _ h => h) (Or.inl ⟨by rfl, ?_⟩) (by assumption) ?_
      rotate_left
      · (intro w hSw; (try dsimp only at hSw); go_simp; try with_reducible rfl)
      try simp only [Act.put, List.getElem_toArray, List.getElem_cons_zero, List.getElem_cons_succ, List.setIfInBounds_toArray, List.set_cons_zero, List.set_cons_succ]
      refine wpAnyH_take (i := 20) (v := ?_) rfl (by kernel_rfl) (by kernel_rfl) (by kernel_rfl) (fun _ _ _ h => h) (Or.inl ⟨by rfl, ?_⟩) (by assumption) ?_
      rotate_left
      · (intro w hSw; (try dsimp only at hSw); go_simp; try with_reducible rfl)
      try simp only [Act.put, List.getElem_toArray, List.getElem_cons_zero, List.getElem_cons_succ, List.setIfInBounds_toArray, List.set_cons_zero, List.set_cons_succ]
      refine wpAnyH_take (i := 21) (v := ?_) rfl (by kernel_rfl) (by kernel_rfl) (by kernel_rfl) (fun _ _ _ h => h) (Or.inl ⟨by rfl, ?_⟩) (by assumption) ?_
      rotate_left
      · (intro w hSw; (try dsimp only at hSw); go_simp; try with_reducible rfl)
      try simp only [Act.put, List.getElem_toArray, List.getElem_cons_zero, List.getElem_cons_succ, List.setIfInBounds_toArray, List.set_cons_zero, List.set_cons_succ]
      refine wpAnyH_ready (rs := [3]) (by kernel_rfl) (by simp) ?_
      refine AllReadyH.cons rfl (fun KK hKK => ?_) AllReadyH.nil
      go_simp
      go_at_call 84
      refine (HLC0.out _).mono ?_
      rintro e wl ⟨rfl, rfl⟩
      have HP1 := Lib.hid (HSA.out.drew.alloc (.cells #[.int .i64 k0, .string s0, .int .i64 n0, .int .i64 a0, .slice A0 ks0.length cap0] 24 (0, 0)))
      refine hKK.out _ _ (K'.out _ _ HP1.out) (fun hHeld => ?_)
      clear hKK KK
      try simp only [Act.put, List.getElem_toArray, List.getElem_cons_zero, List.getElem_cons_succ, List.setIfInBounds_toArray, List.set_cons_zero, List.set_cons_succ]
      refine wpAnyH_take (i := 4) (v := ?_) rfl (by kernel_rfl) (by kernel_rfl) (by kernel_rfl) (fun _ _ _ h => h) (Or.inl ⟨by rfl, ?_⟩) (by assumption) ?_
      rotate_left
      · (intro w hSw; (try dsimp only at hSw); go_simp; try with_reducible rfl)
      try simp only [Act.put, List.getElem_toArray, List.getElem_cons_zero, List.getElem_cons_succ, List.setIfInBounds_toArray, List.set_cons_zero, List.set_cons_succ]
      refine wpAnyH_take (i := 5) (v := ?_) rfl (by kernel_rfl) (by kernel_rfl) (by kernel_rfl) (fun _ _ _ h => h) (Or.inl ⟨by rfl, ?_⟩) (by assumption) ?_
      rotate_left
      · (intro w hSw; (try dsimp only at hSw); go_simp; try with_reducible rfl)
      try simp only [Act.put, List.getElem_toArray, List.getElem_cons_zero, List.getElem_cons_succ, List.setIfInBounds_toArray, List.set_cons_zero, List.set_cons_succ]
      refine wpAnyH_take (i := 6) (v := undef) rfl (by kernel_rfl) (by kernel_rfl) (by kernel_rfl) (fun _ _ _ h => h) (Or.inr ⟨by rfl, rfl⟩) (by assumption) ?_
      try simp only [Act.put, List.getElem_toArray, List.getElem_cons_zero, List.getElem_cons_succ, List.setIfInBounds_toArray, List.set_cons_zero, List.set_cons_succ]
      refine wpAnyH_take (i := 7) (v := undef) rfl (by kernel_rfl) (by kernel_rfl) (by kernel_rfl) (fun _ _ _ h => h) (Or.inr ⟨by rfl, rfl⟩) (by assumption) ?_
      try simp only [Act.put, List.getElem_toArray, List.getElem_cons_zero, List.getElem_cons_succ, List.setIfInBounds_toArray, List.set_cons_zero, List.set_cons_succ]
      refine wpAnyH_take (i := 8) (v := undef) rfl (by kernel_rfl) (by kernel_rfl) (by kernel_rfl) (fun _ _ _ h => h) (Or.inr ⟨by rfl, rfl⟩) (by assumption) ?_
      try simp only [Act.put, List.getElem_toArray, List.getElem_cons_zero, List.getElem_cons_succ, List.setIfInBounds_toArray, List.set_cons_zero, List.set_cons_succ]
      refine wpAnyH_take (i := 9) (v := undef) rfl (by kernel_rfl) (by kernel_rfl) (by kernel_rfl) (fun _ _ _ h => h) (Or.inr ⟨by rfl, rfl⟩) (by assumption) ?_
      try simp only [Act.put, List.getElem_toArray, List.getElem_cons_zero, List.getElem_cons_succ, List.setIfInBounds_toArray, List.set_cons_zero, List.set_cons_succ]
      refine wpAnyH_take (i := 10) (v := undef) rfl (by kernel_rfl) (by kernel_rfl) (by kernel_rfl) (fun _ _ _ h => h) (Or.inr ⟨by rfl, rfl⟩) (by assumption) ?_
      try simp only [Act.put, List.getElem_toArray, List.getElem_cons_zero, List.getElem_cons_succ, List.setIfInBounds_toArray, List.set_cons_zero, List.set_cons_succ]
      refine wpAnyH_take (i := 11) (v := undef) rfl (by kernel_rfl) (by kernel_rfl) (by kernel_rfl) (fun _ _ _ h => h) (Or.inr ⟨by rfl, rfl⟩) (by assumption) ?_
      try simp only [Act.put, List.getElem_toArray, List.getElem_cons_zero, List.getElem_cons_succ, List.setIfInBounds_toArray, List.set_cons_zero, List.set_cons_succ]
      refine wpAnyH_take (i := 12) (v := undef) rfl (by kernel_rfl) (by kernel_rfl) (by kernel_rfl) (fun _ _ _ h => h) (Or.inr ⟨by rfl, rfl⟩) (by assumption) ?_
      try simp only [Act.put, List.getElem_toArray, List.getElem_cons_zero, List.getElem_cons_succ, List.setIfInBounds_toArray, List.set_cons_zero, List.set_cons_succ]
      refine wpAnyH_take (i := 13) (v := undef) rfl (by kernel_rfl) (by kernel_rfl) (by kernel_rfl) (fun _ _ _ h => h) (Or.inr ⟨by rfl, rfl⟩) (by assumption) ?_
      try simp only [Act.put, List.getElem_toArray, List.getElem_cons_zero, List.getElem_cons_succ, List.setIfInBounds_toArray, List.set_cons_zero, List.set_cons_succ]
      refine wpAnyH_take (i := 14) (v := undef) rfl (by kernel_rfl) (by kernel_rfl) (by kernel_rfl) (fun _ _ _ h => h) (Or.inr ⟨by rfl, rfl⟩) (by assumption) ?_
      try simp only [Act.put, List.getElem_toArray, List.getElem_cons_zero, List.getElem_cons_succ, List.setIfInBounds_toArray, List.set_cons_zero, List.set_cons_succ]
      refine wpAnyH_take (i := 15) (v := undef) rfl (by kernel_rfl) (by kernel_rfl) (by kernel_rfl) (fun _ _ _ h => h) (Or.inr ⟨by rfl, rfl⟩) (by assumption) ?_
      try simp only [Act.put, List.getElem_toArray, List.getElem_cons_zero, List.getElem_cons_succ, List.setIfInBounds_toArray, List.set_cons_zero, List.set_cons_succ]
      refine wpAnyH_take (i := 16) (v := undef) rfl (by kernel_rfl) (by kernel_rfl) (by kernel_rfl) (fun _ _ _ h => h) (Or.inr ⟨by rfl, rfl⟩) (by assumption) ?_
      try simp only [Act.put, List.getElem_toArray, List.getElem_cons_zero, List.getElem_cons_succ, List.setIfInBounds_toArray, List.set_cons_zero, List.set_cons_succ]
      refine wpAnyH_take (i := 17) (v := undef) rfl (by kernel_rfl) (by kernel_rfl) (by kernel_rfl) (fun _ _ _ h => h) (Or.inr ⟨by rfl, rfl⟩) (by assumption) ?_
      try simp only [Act.put, List.getElem_toArray, List.getElem_cons_zero, List.getElem_cons_succ, List.setIfInBounds_toArray, List.set_cons_zero, List.set_cons_succ]
      refine wpAnyH_take (i := 18) (v := undef) rfl (by kernel_rfl) (by kernel_rfl) (by kernel_rfl) (fun _ _ _ h => h) (Or.inr ⟨by rfl, rfl⟩) (by assumption) ?_
      try simp only [Act.put, List.getElem_toArray, List.getElem_cons_zero, List.getElem_cons_succ, List.setIfInBounds_toArray, List.set_cons_zero, List.set_cons_succ]
      refine wpAnyH_take (i := 19) (v := ?_) rfl (by kernel_rfl) (by kernel_rfl) (by kernel_rfl) (fun _ _ _ h => h) (Or.inl ⟨by rfl, ?_⟩) (by assumption) ?_
      rotate_left
      · (intro w hSw; (try dsimp only at hSw); go_simp; try with_reducible rfl)
      try simp only [Act.put, List.getElem_toArray, List.getElem_cons_zero, List.getElem_cons_succ, List.setIfInBounds_toArray, List.set_cons_zero, List.set_cons_succ]
      refine wpAnyH_ready (rs := [22]) (by kernel_rfl) (by simp) ?_
      refine AllReadyH.cons rfl (fun KK hKK => ?_) AllReadyH.nil
      go_simp
      go_at_call 72
      refine (HP1.out.call (expr_any h0 _ HY0.out _ true inn head _ bp _ hi HP1.out.pr HP1.out.len (HP1.out.lies HL0.out))).mono ?_
      rintro e w2 ⟨rfl, hf⟩
      refine hKK.out _ _ (K'.out _ _ hf) (fun hHeld => ?_)
      clear hKK KK
      try simp only [Act.put, List.getElem_toArray, List.getElem_cons_zero, List.getElem_cons_succ, List.setIfInBounds_toArray, List.set_cons_zero, List.set_cons_succ]
      refine wpAnyH_done (by kernel_rfl) ?_ _
      go_wp2_with fail
      go_meet
      rw [HY0.out] at hN
      rw [← HZ.out, hN]
      exact hf
    | false =>
      have hN : behNeed 47 (Nd.mk k0 s0 n0 a0 ks0).strip = false := by show (decide (levelB k0 s0 < 7) || ((47 : Int) == 48 && (k0 == 14 && s0.toList == [110, 105, 108]))) = _; simp [HLV0.out, hd]
      refine wp_region_held_drew (S := (fun W => (∃ y, PSt bp w [(w.heap.size + 1, #[.int .i64 k0, .string s0, .int .i64 n0, .int .i64 a0, .slice A0 ks0.length cap0]), (w.heap.size, #[.int .i64 47, .string s, .int .i64 n, .int .i64 a, .slice (some ⟨b, o, none⟩) (tr3.length + 1 + 1 + 1 + 1) cap])] y W) ∧ W.cell? ⟨w.heap.size, 0, none⟩ = some (.int .i64 47) ∧ W.cell? ⟨w.heap.size, 1, none⟩ = some (.string s) ∧ W.cell? ⟨w.heap.size, 2, none⟩ = some (.int .i64 n) ∧ W.cell? ⟨w.heap.size, 3, none⟩ = some (.int .i64 a) ∧ W.cell? ⟨w.heap.size, 4, none⟩ = some (.slice (some ⟨b, o, none⟩) (tr3.length + 1 + 1 + 1 + 1) cap) ∧ W.cell? ⟨w.heap.size + 1, 0, none⟩ = some (.int .i64 k0) ∧ W.cell? ⟨w.heap.size + 1, 1, none⟩ = some (.string s0) ∧ W.cell? ⟨w.heap.size + 1, 2, none⟩ = some (.int .i64 n0) ∧ W.cell? ⟨w.heap.size + 1, 3, none⟩ = some (.int .i64 a0) ∧ W.cell? ⟨w.heap.size + 1, 4, none⟩ = some (.slice A0 ks0.length cap0) ∧ W.cell? ⟨b, o, none⟩ = some (.int .i64 k0) ∧ W.cell? ⟨b, o + 1, none⟩ = some (.string s0) ∧ W.cell? ⟨b, o + 2, none⟩ = some (.int .i64 n0) ∧ W.cell? ⟨b, o + 3, none⟩ = some (.int .i64 a0) ∧ W.cell? ⟨b, o + 4, none⟩ = some (.slice A0 ks0.length cap0))) (by kernel_rfl) ?_ (fun hHeld => ?_)
      · exact K'.out _ _ HSA.out.drew
      refine wpAnyH_take (i := 0) (v := ?_) rfl (by kernel_rfl) (by kernel_rfl) (by kernel_rfl) (fun _ _ _ h => h) (Or.inl ⟨by rfl, ?_⟩) (by assumption) ?_
      rotate_left
      · (intro w hSw; (try dsimp only at hSw); go_simp; try with_reducible rfl)
      try simp only [Act.put, List.getElem_toArray, List.getElem_cons_zero, List.setIfInBounds_toArray, List.set_cons_zero, List.set_cons_succ]
      refine wpAnyH_take (i := 1) (v := ?_) rfl (by kernel_rfl) (by kernel_rfl) (by kernel_rfl) (fun _ _ _ h => h) (Or.inl ⟨by rfl, ?_⟩) (by assumption) ?_
      rotate_left
      · (intro w hSw; (try dsimp only at hSw); go_simp; try with_reducible rfl)
      try simp only [Act.put, List.getElem_toArray, List.getElem_cons_zero, List.getElem_cons_succ, List.setIfInBounds_toArray, List.set_cons_zero, List.set_cons_succ]
      refine wpAnyH_take (i := 2) (v := ?_) rfl (by kernel_rfl) (by kernel_rfl) (by kernel_rfl) (fun _ _ _ h => h) (Or.inl ⟨by rfl, ?_⟩) (by assumption) ?_
      rotate_left
      · (intro w hSw; (try dsimp only at hSw); go_simp; try with_reducible rfl)
      try simp only [Act.put, List.getElem_toArray, List.getElem_cons_zero, List.getElem_cons_succ, List.setIfInBounds_toArray, List.set_cons_zero, List.set_cons_succ]
      refine wpAnyH_take (i := 20) (v := ?_) rfl (by kernel_rfl) (by kernel_rfl) (by kernel_rfl) (fun _ _ _ h => h) (Or.inl ⟨by rfl, ?_⟩) (by assumption) ?_
      rotate_left
      · (intro w hSw; (try dsimp only at hSw); go_simp; try with_reducible rfl)
      try simp only [Act.put, List.getElem_toArray, List.getElem_cons_zero, List.getElem_cons_succ, List.setIfInBounds_toArray, List.set_cons_zero, List.set_cons_succ]
      refine wpAnyH_take (i := 21) (v := ?_) rfl (by kernel_rfl) (by kernel_rfl) (by kernel_rfl) (fun _ _ _ h => h) (Or.inl ⟨by rfl, ?_⟩) (by assumption) ?_
      rotate_left
      · (intro w hSw; (try dsimp only at hSw); go_simp; try with_reducible rfl)
      try simp only [Act.put, List.getElem_toArray, List.getElem_cons_zero, List.getElem_cons_succ, List.setIfInBounds_toArray, List.set_cons_zero, List.set_cons_succ]
      refine wpAnyH_ready (rs := [3]) (by kernel_rfl) (by simp) ?_
      refine AllReadyH.cons rfl (fun KK hKK => ?_) AllReadyH.nil
      go_simp
      go_at_call 84
      refine (HLC0.out _).mono ?_
      rintro e wl ⟨rfl, rfl⟩
      have HP1 := Lib.hid (HSA.out.drew.alloc (.cells #[.int .i64 k0, .string s0, .int .i64 n0, .int .i64 a0, .slice A0 ks0.length cap0] 24 (0, 0)))
      refine hKK.out _ _ (K'.out _ _ HP1.out) (fun hHeld => ?_)
      clear hKK KK
      try simp only [Act.put, List.getElem_toArray, List.getElem_cons_zero, List.getElem_cons_succ, List.setIfInBounds_toArray, List.set_cons_zero, List.set_cons_succ]
      refine wpAnyH_take (i := 4) (v := ?_) rfl (by kernel_rfl) (by kernel_rfl) (by kernel_rfl) (fun _ _ _ h => h) (Or.inl ⟨by rfl, ?_⟩) (by assumption) ?_
      rotate_left
      · (intro w hSw; (try dsimp only at hSw); go_simp; try with_reducible rfl)
      try simp only [Act.put, List.getElem_toArray, List.getElem_cons_zero, List.getElem_cons_succ, List.setIfInBounds_toArray, List.set_cons_zero, List.set_cons_succ]
      refine wpAnyH_take (i := 5) (v := ?_) rfl (by kernel_rfl) (by kernel_rfl) (by kernel_rfl) (fun _ _ _ h => h) (Or.inl ⟨by rfl, ?_⟩) (by assumption) ?_
      rotate_left
      · (intro w hSw; (try dsimp only at hSw); go_simp; try with_reducible rfl)
      try simp only [Act.put, List.getElem_toArray, List.getElem_cons_zero, List.getElem_cons_succ, List.setIfInBounds_toArray, List.set_cons_zero, List.set_cons_succ]
      refine wpAnyH_take (i := 6) (v := ?_) rfl (by kernel_rfl) (by kernel_rfl) (by kernel_rfl) (fun _ _ _ h => h) (Or.inl ⟨by rfl, ?_⟩) (by assumption) ?_
      rotate_left
      · (intro w hSw; (try dsimp only at hSw); go_simp; try with_reducible rfl)
      try simp only [Act.put, List.getElem_toArray, List.getElem_cons_zero, List.getElem_cons_succ, List.setIfInBounds_toArray, List.set_cons_zero, List.set_cons_succ]
      refine wpAnyH_take (i := 7) (v := ?_) rfl (by kernel_rfl) (by kernel_rfl) (by kernel_rfl) (fun _ _ _ h => h) (Or.inl ⟨by rfl, ?_⟩) (by assumption) ?_
      rotate_left
      · (intro w hSw; (try dsimp only at hSw); go_simp; try with_reducible rfl)
      try simp only [Act.put, List.getElem_toArray, List.getElem_cons_zero, List.getElem_cons_succ, List.setIfInBounds_toArray, List.set_cons_zero, List.set_cons_succ]
      refine wpAnyH_take (i := 8) (v := ?_) rfl (by kernel_rfl) (by kernel_rfl) (by kernel_rfl) (fun _ _ _ h => h) (Or.inl ⟨by rfl, ?_⟩) (by assumption) ?_
      rotate_left
      · (intro w hSw; (try dsimp only at hSw); go_simp; try with_reducible rfl)
      try simp only [Act.put, List.getElem_toArray, List.getElem_cons_zero, List.getElem_cons_succ, List.setIfInBounds_toArray, List.set_cons_zero, List.set_cons_succ]
      refine wpAnyH_take (i := 9) (v := ?_) rfl (by kernel_rfl) (by kernel_rfl) (by kernel_rfl) (fun _ _ _ h => h) (Or.inl ⟨by rfl, ?_⟩) (by assumption) ?_
      rotate_left
      · (intro w hSw; (try dsimp only at hSw); go_simp; try with_reducible rfl)
      try simp only [Act.put, List.getElem_toArray, List.getElem_cons_zero, List.getElem_cons_succ, List.setIfInBounds_toArray, List.set_cons_zero, List.set_cons_succ]
      refine wpAnyH_take (i := 10) (v := undef) rfl (by kernel_rfl) (by kernel_rfl) (by kernel_rfl) (fun _ _ _ h => h) (Or.inr ⟨by rfl, rfl⟩) (by assumption) ?_
      try simp only [Act.put, List.getElem_toArray, List.getElem_cons_zero, List.getElem_cons_succ, List.setIfInBounds_toArray, List.set_cons_zero, List.set_cons_succ]
      refine wpAnyH_take (i := 11) (v := undef) rfl (by kernel_rfl) (by kernel_rfl) (by kernel_rfl) (fun _ _ _ h => h) (Or.inr ⟨by rfl, rfl⟩) (by assumption) ?_
      try simp only [Act.put, List.getElem_toArray, List.getElem_cons_zero, List.getElem_cons_succ, List.setIfInBounds_toArray, List.set_cons_zero, List.set_cons_succ]
      refine wpAnyH_take (i := 12) (v := undef) rfl (by kernel_rfl) (by kernel_rfl) (by kernel_rfl) (fun _ _ _ h => h) (Or.inr ⟨by rfl, rfl⟩) (by assumption) ?_
      try simp only [Act.put, List.getElem_toArray, List.getElem_cons_zero, List.getElem_cons_succ, List.setIfInBounds_toArray, List.set_cons_zero, List.set_cons_succ]
      refine wpAnyH_take (i := 13) (v := ?_) rfl (by kernel_rfl) (by kernel_rfl) (by kernel_rfl) (fun _ _ _ h => h) (Or.inl ⟨by rfl, ?_⟩) (by assumption) ?_
      rotate_left
      · (intro w hSw; (try dsimp only at hSw); go_simp; try with_reducible rfl)
      try simp only [Act.put, List.getElem_toArray, List.getElem_cons_zero, List.getElem_cons_succ, List.setIfInBounds_toArray, List.set_cons_zero, List.set_cons_succ]
      refine wpAnyH_take (i := 14) (v := ?_) rfl (by kernel_rfl) (by kernel_rfl) (by kernel_rfl) (fun _ _ _ h => h) (Or.inl ⟨by rfl, ?_⟩) (by assumption) ?_
      rotate_left
      · (intro w hSw; (try dsimp only at hSw); go_simp; try with_reducible rfl)
      try simp only [Act.put, List.getElem_toArray, List.getElem_cons_zero, List.getElem_cons_succ, List.setIfInBounds_toArray, List.set_cons_zero, List.set_cons_succ]
      refine wpAnyH_take (i := 15) (v := undef) rfl (by kernel_rfl) (by kernel_rfl) (by kernel_rfl) (fun _ _ _ h => h) (Or.inr ⟨by rfl, rfl⟩) (by assumption) ?_
      try simp only [Act.put, List.getElem_toArray, List.getElem_cons_zero, List.getElem_cons_succ, List.setIfInBounds_toArray, List.set_cons_zero, List.set_cons_succ]
      refine wpAnyH_take (i := 16) (v := undef) rfl (by kernel_rfl) (by kernel_rfl) (by kernel_rfl) (fun _ _ _ h => h) (Or.inr ⟨by rfl, rfl⟩) (by assumption) ?_
      try simp only [Act.put, List.getElem_toArray, List.getElem_cons_zero, List.getElem_cons_succ, List.setIfInBounds_toArray, List.set_cons_zero, List.set_cons_succ]
      refine wpAnyH_take (i := 17) (v := undef) rfl (by kernel_rfl) (by kernel_rfl) (by kernel_rfl) (fun _ _ _ h => h) (Or.inr ⟨by rfl, rfl⟩) (by assumption) ?_
      try simp only [Act.put, List.getElem_toArray, List.getElem_cons_zero, List.getElem_cons_succ, List.setIfInBounds_toArray, List.set_cons_zero, List.set_cons_succ]
      refine wpAnyH_take (i := 18) (v := ?_) rfl (by kernel_rfl) (by kernel_rfl) (by kernel_rfl) (fun _ _ _ h => h) (Or.inl ⟨by rfl, ?_⟩) (by assumption) ?_
      rotate_left
      · (intro w hSw; (try dsimp only at hSw); go_simp; try with_reducible rfl)
      try simp only [Act.put, List.getElem_toArray, List.getElem_cons_zero, List.getElem_cons_succ, List.setIfInBounds_toArray, List.set_cons_zero, List.set_cons_succ]
      refine wpAnyH_take (i := 19) (v := ?_) rfl (by kernel_rfl) (by kernel_rfl) (by kernel_rfl) (fun _ _ _ h => h) (Or.inl ⟨by rfl, ?_⟩) (by assumption) ?_
      rotate_left
      · (intro w hSw; (try dsimp only at hSw); go_simp; try with_reducible rfl)
      try simp only [Act.put, List.getElem_toArray, List.getElem_cons_zero, List.getElem_cons_succ, List.setIfInBounds_toArray, List.set_cons_zero, List.set_cons_succ]
      refine wpAnyH_ready (rs := [22]) (by kernel_rfl) (by simp) ?_
      refine AllReadyH.cons rfl (fun KK hKK => ?_) AllReadyH.nil
      go_simp
      go_at_call 72
      refine (HP1.out.call (expr_any h0 _ HY0.out _ false inn head _ bp _ hi HP1.out.pr HP1.out.len (HP1.out.lies HL0.out))).mono ?_
      rintro e w2 ⟨rfl, hf⟩
      refine hKK.out _ _ (K'.out _ _ hf) (fun hHeld => ?_)
      clear hKK KK
      try simp only [Act.put, List.getElem_toArray, List.getElem_cons_zero, List.getElem_cons_succ, List.setIfInBounds_toArray, List.set_cons_zero, List.set_cons_succ]
      refine wpAnyH_done (by kernel_rfl) ?_ _
      go_wp2_with fail
      go_meet
      rw [HY0.out] at hN
      rw [← HZ.out, hN]
      exact hf
  case rest =>
    have hh := hcut
    clear hcut HSA
    have c0 := hh.at_ (List.mem_cons_of_mem _ (List.mem_cons_self ..)) 0 rfl
    have c1 := hh.at_ (List.mem_cons_of_mem _ (List.mem_cons_self ..)) 1 rfl
    have c2 := hh.at_ (List.mem_cons_of_mem _ (List.mem_cons_self ..)) 2 rfl
    have c3 := hh.at_ (List.mem_cons_of_mem _ (List.mem_cons_self ..)) 3 rfl
    have c4 := hh.at_ (List.mem_cons_of_mem _ (List.mem_cons_self ..)) 4 rfl
    have d00 := hh.kid hbl KC0.out.1
    have d01 := hh.kid hbl KC0.out.2.1
    have d02 := hh.kid hbl KC0.out.2.2.1
    have d03 := hh.kid hbl KC0.out.2.2.2.1
    have d04 := hh.kid hbl KC0.out.2.2.2.2
    have d10 := hh.kid hbl KC1.out.1
    have d11 := hh.kid hbl KC1.out.2.1
    have d12 := hh.kid hbl KC1.out.2.2.1
    have d13 := hh.kid hbl KC1.out.2.2.2.1
    have d14 := hh.kid hbl KC1.out.2.2.2.2
    have d20 := hh.kid hbl KC2.out.1
    have d21 := hh.kid hbl KC2.out.2.1
    have d22 := hh.kid hbl KC2.out.2.2.1
    have d23 := hh.kid hbl KC2.out.2.2.2.1
    have d24 := hh.kid hbl KC2.out.2.2.2.2
    have d30 := hh.kid hbl KC3.out.1
    have d31 := hh.kid hbl KC3.out.2.1
    have d32 := hh.kid hbl KC3.out.2.2.1
    have d33 := hh.kid hbl KC3.out.2.2.2.1
    have d34 := hh.kid hbl KC3.out.2.2.2.2
    have HSC := Lib.hid hh
    clear hh
    have hk3 : k3 = 16 := by have h := h3; rw [← HY3.out, strip_kind] at h; exact h
    subst hk3
    go_wp2_with (first
      | (go_at_call 49; refine (HSC.out.put1 ⟨#[91]⟩ (by decide)).mono ?_; clear HSC; rintro e w1 ⟨rfl, hh⟩
         have c0 := hh.at_ (List.mem_cons_of_mem _ (List.mem_cons_self ..)) 0 rfl
         have c1 := hh.at_ (List.mem_cons_of_mem _ (List.mem_cons_self ..)) 1 rfl
         have c2 := hh.at_ (List.mem_cons_of_mem _ (List.mem_cons_self ..)) 2 rfl
         have c3 := hh.at_ (List.mem_cons_of_mem _ (List.mem_cons_self ..)) 3 rfl
         have c4 := hh.at_ (List.mem_cons_of_mem _ (List.mem_cons_self ..)) 4 rfl
         have d00 := hh.kid hbl KC0.out.1
         have d01 := hh.kid hbl KC0.out.2.1
         have d02 := hh.kid hbl KC0.out.2.2.1
         have d03 := hh.kid hbl KC0.out.2.2.2.1
         have d04 := hh.kid hbl KC0.out.2.2.2.2
         have d10 := hh.kid hbl KC1.out.1
         have d11 := hh.kid hbl KC1.out.2.1
         have d12 := hh.kid hbl KC1.out.2.2.1
         have d13 := hh.kid hbl KC1.out.2.2.2.1
         have d14 := hh.kid hbl KC1.out.2.2.2.2
         have d20 := hh.kid hbl KC2.out.1
         have d21 := hh.kid hbl KC2.out.2.1
         have d22 := hh.kid hbl KC2.out.2.2.1
         have d23 := hh.kid hbl KC2.out.2.2.2.1
         have d24 := hh.kid hbl KC2.out.2.2.2.2
         have d30 := hh.kid hbl KC3.out.1
         have d31 := hh.kid hbl KC3.out.2.1
         have d32 := hh.kid hbl KC3.out.2.2.1
         have d33 := hh.kid hbl KC3.out.2.2.2.1
         have d34 := hh.kid hbl KC3.out.2.2.2.2
         have HS1 := Lib.hid hh
         clear hh)
      | (go_at_call 56; refine (HS1.out.call (prOne_any h1 _ HY1.out _ inn _ bp _ hi HS1.out.pr HS1.out.len (HS1.out.lies HL1.out))).mono ?_; clear HS1; rintro e w2 ⟨rfl, hh⟩
         have c0 := hh.at_ (List.mem_cons_of_mem _ (List.mem_cons_self ..)) 0 rfl
         have c1 := hh.at_ (List.mem_cons_of_mem _ (List.mem_cons_self ..)) 1 rfl
         have c2 := hh.at_ (List.mem_cons_of_mem _ (List.mem_cons_self ..)) 2 rfl
         have c3 := hh.at_ (List.mem_cons_of_mem _ (List.mem_cons_self ..)) 3 rfl
         have c4 := hh.at_ (List.mem_cons_of_mem _ (List.mem_cons_self ..)) 4 rfl
         have d00 := hh.kid hbl KC0.out.1
         have d01 := hh.kid hbl KC0.out.2.1
         have d02 := hh.kid hbl KC0.out.2.2.1
         have d03 := hh.kid hbl KC0.out.2.2.2.1
         have d04 := hh.kid hbl KC0.out.2.2.2.2
         have d10 := hh.kid hbl KC1.out.1
         have d11 := hh.kid hbl KC1.out.2.1
         have d12 := hh.kid hbl KC1.out.2.2.1
         have d13 := hh.kid hbl KC1.out.2.2.2.1
         have d14 := hh.kid hbl KC1.out.2.2.2.2
         have d20 := hh.kid hbl KC2.out.1
         have d21 := hh.kid hbl KC2.out.2.1
         have d22 := hh.kid hbl KC2.out.2.2.1
         have d23 := hh.kid hbl KC2.out.2.2.2.1
         have d24 := hh.kid hbl KC2.out.2.2.2.2
         have d30 := hh.kid hbl KC3.out.1
         have d31 := hh.kid hbl KC3.out.2.1
         have d32 := hh.kid hbl KC3.out.2.2.1
         have d33 := hh.kid hbl KC3.out.2.2.2.1
         have d34 := hh.kid hbl KC3.out.2.2.2.2
         have HS2 := Lib.hid hh
         clear hh)
      | (go_at_call 49; refine (HS2.out.put1 ⟨#[58]⟩ (by decide)).mono ?_; clear HS2; rintro e w3 ⟨rfl, hh⟩
         have c0 := hh.at_ (List.mem_cons_of_mem _ (List.mem_cons_self ..)) 0 rfl
         have c1 := hh.at_ (List.mem_cons_of_mem _ (List.mem_cons_self ..)) 1 rfl
         have c2 := hh.at_ (List.mem_cons_of_mem _ (List.mem_cons_self ..)) 2 rfl
         have c3 := hh.at_ (List.mem_cons_of_mem _ (List.mem_cons_self ..)) 3 rfl
         have c4 := hh.at_ (List.mem_cons_of_mem _ (List.mem_cons_self ..)) 4 rfl
         have d00 := hh.kid hbl KC0.out.1
         have d01 := hh.kid hbl KC0.out.2.1
         have d02 := hh.kid hbl KC0.out.2.2.1
         have d03 := hh.kid hbl KC0.out.2.2.2.1
         have d04 := hh.kid hbl KC0.out.2.2.2.2
         have d10 := hh.kid hbl KC1.out.1
         have d11 := hh.kid hbl KC1.out.2.1
         have d12 := hh.kid hbl KC1.out.2.2.1
         have d13 := hh.kid hbl KC1.out.2.2.2.1
         have d14 := hh.kid hbl KC1.out.2.2.2.2
         have d20 := hh.kid hbl KC2.out.1
         have d21 := hh.kid hbl KC2.out.2.1
         have d22 := hh.kid hbl KC2.out.2.2.1
         have d23 := hh.kid hbl KC2.out.2.2.2.1
         have d24 := hh.kid hbl KC2.out.2.2.2.2
         have d30 := hh.kid hbl KC3.out.1
         have d31 := hh.kid hbl KC3.out.2.1
         have d32 := hh.kid hbl KC3.out.2.2.1
         have d33 := hh.kid hbl KC3.out.2.2.2.1
         have d34 := hh.kid hbl KC3.out.2.2.2.2
         have HS3 := Lib.hid hh
         clear hh)
      | (go_at_call 56; refine (HS3.out.call (prOne_any h2 _ HY2.out _ inn _ bp _ hi HS3.out.pr HS3.out.len (HS3.out.lies HL2.out))).mono ?_; clear HS3; rintro e w4 ⟨rfl, hh⟩
         have c0 := hh.at_ (List.mem_cons_of_mem _ (List.mem_cons_self ..)) 0 rfl
         have c1 := hh.at_ (List.mem_cons_of_mem _ (List.mem_cons_self ..)) 1 rfl
         have c2 := hh.at_ (List.mem_cons_of_mem _ (List.mem_cons_self ..)) 2 rfl
         have c3 := hh.at_ (List.mem_cons_of_mem _ (List.mem_cons_self ..)) 3 rfl
         have c4 := hh.at_ (List.mem_cons_of_mem _ (List.mem_cons_self ..)) 4 rfl
         have d00 := hh.kid hbl KC0.out.1
         have d01 := hh.kid hbl KC0.out.2.1
         have d02 := hh.kid hbl KC0.out.2.2.1
         have d03 := hh.kid hbl KC0.out.2.2.2.1
         have d04 := hh.kid hbl KC0.out.2.2.2.2
         have d10 := hh.kid hbl KC1.out.1
         have d11 := hh.kid hbl KC1.out.2.1
         have d12 := hh.kid hbl KC1.out.2.2.1
         have d13 := hh.kid hbl KC1.out.2.2.2.1
         have d14 := hh.kid hbl KC1.out.2.2.2.2
         have d20 := hh.kid hbl KC2.out.1
         have d21 := hh.kid hbl KC2.out.2.1
         have d22 := hh.kid hbl KC2.out.2.2.1
         have d23 := hh.kid hbl KC2.out.2.2.2.1
         have d24 := hh.kid hbl KC2.out.2.2.2.2
         have d30 := hh.kid hbl KC3.out.1
         have d31 := hh.kid hbl KC3.out.2.1
         have d32 := hh.kid hbl KC3.out.2.2.1
         have d33 := hh.kid hbl KC3.out.2.2.2.1
         have d34 := hh.kid hbl KC3.out.2.2.2.2
         have HS4 := Lib.hid hh
         clear hh)
      | (go_at_call 49; refine (HS4.out.put1 ⟨#[93]⟩ (by decide)).mono ?_; rintro e w5 ⟨rfl, hf⟩))
    all_goals go_end0
    all_goals (exact hf.fin)

set_option maxHeartbeats 4000000 in
set_option maxRecDepth 100000 in
theorem beh_w_slice3 {s : ByteArray} {n : Int} {y0 y1 y2 y3 : Nd} {ys : List Nd} (h0 : CanB y0) (h1 : CanO y1) (h2 : CanO y2) (h3 : CanO y3) (hn3 : y3.kind ≠ 16) (t : Nd) (htc : t.strip = .mk 47 s n 0 (y0 :: y1 :: y2 :: y3 :: ys)) (v : Value) (inn : Int) (head : Bool) (x : WX) (bp : Nat) (w : World) (hi : okI inn) (h : PrAt bp x.1 x.2 w) (hlen : x.1.length ≤ 60000) (hl : Lies w bp t v) :
    Calls Tryz.prog 85 #[.pointer (some ⟨bp, 0, none⟩), v, .int .i64 inn, .bool head] w (WrPost bp (putL (oneF y3 inn (putL (oneF y2 inn (putL (oneF y1 inn (putL (exprF y0 (behNeed 47 y0) inn head x) [⟨#[91]⟩])) [⟨#[58]⟩])) [⟨#[58]⟩])) [⟨#[93]⟩]) w) := by
  have HTC := Lib.hid htc
  have HL := Lib.hid hl
  obtain ⟨k', s', n', a, ks⟩ := t
  obtain ⟨rfl, rfl, rfl, hks⟩ := strip_mk htc
  obtain ⟨⟨k0, s0, n0, a0, ks0⟩, tr0, rfl, hy0, hks⟩ := stripL_cons hks
  have HY0 := Lib.hid hy0
  clear hy0
  obtain ⟨⟨k1, s1, n1, a1, ks1⟩, tr1, rfl, hy1, hks⟩ := stripL_cons hks
  have HY1 := Lib.hid hy1
  clear hy1
  obtain ⟨⟨k2, s2, n2, a2, ks2⟩, tr2, rfl, hy2, hks⟩ := stripL_cons hks
  have HY2 := Lib.hid hy2
  clear hy2
  obtain ⟨⟨k3, s3, n3, a3, ks3⟩, tr3, rfl, hy3, hks⟩ := stripL_cons hks
  have HY3 := Lib.hid hy3
  clear hy3
  have HKS := Lib.hid hks
  unfold Lies at hl
  obtain ⟨A, cap, rfl, _, _, _, hsz, hcl, hcc, hkl⟩ := hl
  obtain ⟨b, o, rfl, hbl, hkl⟩ := kids_some hkl
  obtain ⟨A0, cap0, hKC0, hL0⟩ := LiesL.kid0 rfl hkl
  have KC0 := Lib.hid hKC0
  have HL0 := Lib.hid hL0
  have hsz0 := hL0.size
  clear hKC0 hL0
  obtain ⟨A1, cap1, hKC1, hL1⟩ := LiesL.kidm 1 5 rfl rfl hkl
  have KC1 := Lib.hid hKC1
  have HL1 := Lib.hid hL1
  have hsz1 := hL1.size
  clear hKC1 hL1
  obtain ⟨A2, cap2, hKC2, hL2⟩ := LiesL.kidm 2 10 rfl rfl hkl
  have KC2 := Lib.hid hKC2
  have HL2 := Lib.hid hL2
  have hsz2 := hL2.size
  clear hKC2 hL2
  obtain ⟨A3, cap3, hKC3, hL3⟩ := LiesL.kidm 3 15 rfl rfl hkl
  have KC3 := Lib.hid hKC3
  have HL3 := Lib.hid hL3
  have hsz3 := hL3.size
  clear hKC3 hL3
  have HKL := Lib.hid hkl
  have hs := PSt.init h hlen #[.int .i64 47, .string s, .int .i64 n, .int .i64 a, .slice (some ⟨b, o, none⟩) (.mk k0 s0 n0 a0 ks0 :: .mk k1 s1 n1 a1 ks1 :: .mk k2 s2 n2 a2 ks2 :: .mk k3 s3 n3 a3 ks3 :: tr3 : List Nd).length cap]
  simp only [List.length_cons] at hcl hs ⊢
  have c0 := hs.at_ (List.mem_cons_self ..) 0 rfl
  have c1 := hs.at_ (List.mem_cons_self ..) 1 rfl
  have c2 := hs.at_ (List.mem_cons_self ..) 2 rfl
  have c3 := hs.at_ (List.mem_cons_self ..) 3 rfl
  have c4 := hs.at_ (List.mem_cons_self ..) 4 rfl
  have d00 := hs.kid hbl KC0.out.1
  have d01 := hs.kid hbl KC0.out.2.1
  have d02 := hs.kid hbl KC0.out.2.2.1
  have d03 := hs.kid hbl KC0.out.2.2.2.1
  have d04 := hs.kid hbl KC0.out.2.2.2.2
  have d10 := hs.kid hbl KC1.out.1
  have d11 := hs.kid hbl KC1.out.2.1
  have d12 := hs.kid hbl KC1.out.2.2.1
  have d13 := hs.kid hbl KC1.out.2.2.2.1
  have d14 := hs.kid hbl KC1.out.2.2.2.2
  have d20 := hs.kid hbl KC2.out.1
  have d21 := hs.kid hbl KC2.out.2.1
  have d22 := hs.kid hbl KC2.out.2.2.1
  have d23 := hs.kid hbl KC2.out.2.2.2.1
  have d24 := hs.kid hbl KC2.out.2.2.2.2
  have d30 := hs.kid hbl KC3.out.1
  have d31 := hs.kid hbl KC3.out.2.1
  have d32 := hs.kid hbl KC3.out.2.2.1
  have d33 := hs.kid hbl KC3.out.2.2.2.1
  have d34 := hs.kid hbl KC3.out.2.2.2.2
  have HS := Lib.hid hs
  clear h hs htc hks hkl
  have b0 : (0 : Int) < (tr3.length : Int) + 1 + 1 + 1 + 1 := by omega
  have b1 : (1 : Int) < (tr3.length : Int) + 1 + 1 + 1 + 1 := by omega
  have b2 : (2 : Int) < (tr3.length : Int) + 1 + 1 + 1 + 1 := by omega
  have b3 : (3 : Int) < (tr3.length : Int) + 1 + 1 + 1 + 1 := by omega
  have hs2 := HS.out.push #[.int .i64 k0, .string s0, .int .i64 n0, .int .i64 a0, .slice A0 ks0.length cap0]
  rw [World.size_alloc] at hs2
  have g0 := hs2.at_ (List.mem_cons_self ..) 0 rfl
  have g1 := hs2.at_ (List.mem_cons_self ..) 1 rfl
  have g2 := hs2.at_ (List.mem_cons_self ..) 2 rfl
  have g3 := hs2.at_ (List.mem_cons_self ..) 3 rfl
  have g4 := hs2.at_ (List.mem_cons_self ..) 4 rfl
  have c0 := hs2.at_ (List.mem_cons_of_mem _ (List.mem_cons_self ..)) 0 rfl
  have c1 := hs2.at_ (List.mem_cons_of_mem _ (List.mem_cons_self ..)) 1 rfl
  have c2 := hs2.at_ (List.mem_cons_of_mem _ (List.mem_cons_self ..)) 2 rfl
  have c3 := hs2.at_ (List.mem_cons_of_mem _ (List.mem_cons_self ..)) 3 rfl
  have c4 := hs2.at_ (List.mem_cons_of_mem _ (List.mem_cons_self ..)) 4 rfl
  have d00 := hs2.kid hbl KC0.out.1
  have d01 := hs2.kid hbl KC0.out.2.1
  have d02 := hs2.kid hbl KC0.out.2.2.1
  have d03 := hs2.kid hbl KC0.out.2.2.2.1
  have d04 := hs2.kid hbl KC0.out.2.2.2.2
  have d10 := hs2.kid hbl KC1.out.1
  have d11 := hs2.kid hbl KC1.out.2.1
  have d12 := hs2.kid hbl KC1.out.2.2.1
  have d13 := hs2.kid hbl KC1.out.2.2.2.1
  have d14 := hs2.kid hbl KC1.out.2.2.2.2
  have d20 := hs2.kid hbl KC2.out.1
  have d21 := hs2.kid hbl KC2.out.2.1
  have d22 := hs2.kid hbl KC2.out.2.2.1
  have d23 := hs2.kid hbl KC2.out.2.2.2.1
  have d24 := hs2.kid hbl KC2.out.2.2.2.2
  have d30 := hs2.kid hbl KC3.out.1
  have d31 := hs2.kid hbl KC3.out.2.1
  have d32 := hs2.kid hbl KC3.out.2.2.1
  have d33 := hs2.kid hbl KC3.out.2.2.2.1
  have d34 := hs2.kid hbl KC3.out.2.2.2.2
  have HSA := Lib.hid hs2
  clear hs2
  obtain ⟨lv0, HLV0⟩ : ∃ lv, Hid (levelB k0 s0 = lv) := ⟨_, rfl⟩
  have hlc := fun W => level_any k0 s0 n0 a0 A0 ks0.length cap0 W
  rw [HLV0.out] at hlc
  have HLC0 := Lib.hid hlc
  clear hlc
  obtain ⟨z, HZ⟩ : ∃ z, Hid (exprF y0 (behNeed 47 y0) inn head x = z) := ⟨_, rfl⟩
  rw [HZ.out]
  go_enter Tryz.func85, Tryz.ntmps85
  go_upto_region 2 with fail
  have K : ∀ y W, PSt bp w [(w.heap.size + 1, #[.int .i64 k0, .string s0, .int .i64 n0, .int .i64 a0, .slice A0 ks0.length cap0]), (w.heap.size, #[.int .i64 47, .string s, .int .i64 n, .int .i64 a, .slice (some ⟨b, o, none⟩) (tr3.length + 1 + 1 + 1 + 1) cap])] y W → (∃ y, PSt bp w [(w.heap.size + 1, #[.int .i64 k0, .string s0, .int .i64 n0, .int .i64 a0, .slice A0 ks0.length cap0]), (w.heap.size, #[.int .i64 47, .string s, .int .i64 n, .int .i64 a, .slice (some ⟨b, o, none⟩) (tr3.length + 1 + 1 + 1 + 1) cap])] y W) ∧ W.cell? ⟨w.heap.size, 0, none⟩ = some (.int .i64 47) ∧ W.cell? ⟨w.heap.size, 1, none⟩ = some (.string s) ∧ W.cell? ⟨w.heap.size, 2, none⟩ = some (.int .i64 n) ∧ W.cell? ⟨w.heap.size, 3, none⟩ = some (.int .i64 a) ∧ W.cell? ⟨w.heap.size, 4, none⟩ = some (.slice (some ⟨b, o, none⟩) (tr3.length + 1 + 1 + 1 + 1) cap) ∧ W.cell? ⟨w.heap.size + 1, 0, none⟩ = some (.int .i64 k0) ∧ W.cell? ⟨w.heap.size + 1, 1, none⟩ = some (.string s0) ∧ W.cell? ⟨w.heap.size + 1, 2, none⟩ = some (.int .i64 n0) ∧ W.cell? ⟨w.heap.size + 1, 3, none⟩ = some (.int .i64 a0) ∧ W.cell? ⟨w.heap.size + 1, 4, none⟩ = some (.slice A0 ks0.length cap0) ∧ W.cell? ⟨b, o, none⟩ = some (.int .i64 k0) ∧ W.cell? ⟨b, o + 1, none⟩ = some (.string s0) ∧ W.cell? ⟨b, o + 2, none⟩ = some (.int .i64 n0) ∧ W.cell? ⟨b, o + 3, none⟩ = some (.int .i64 a0) ∧ W.cell? ⟨b, o + 4, none⟩ = some (.slice A0 ks0.length cap0) := fun y W hW => ⟨⟨_, hW⟩, hW.at_ (List.mem_cons_of_mem _ (List.mem_cons_self ..)) 0 rfl, hW.at_ (List.mem_cons_of_mem _ (List.mem_cons_self ..)) 1 rfl, hW.at_ (List.mem_cons_of_mem _ (List.mem_cons_self ..)) 2 rfl, hW.at_ (List.mem_cons_of_mem _ (List.mem_cons_self ..)) 3 rfl, hW.at_ (List.mem_cons_of_mem _ (List.mem_cons_self ..)) 4 rfl, hW.at_ (List.mem_cons_self ..) 0 rfl, hW.at_ (List.mem_cons_self ..) 1 rfl, hW.at_ (List.mem_cons_self ..) 2 rfl, hW.at_ (List.mem_cons_self ..) 3 rfl, hW.at_ (List.mem_cons_self ..) 4 rfl, hW.kid hbl KC0.out.1, hW.kid hbl KC0.out.2.1, hW.kid hbl KC0.out.2.2.1, hW.kid hbl KC0.out.2.2.2.1, hW.kid hbl KC0.out.2.2.2.2⟩
  have K' := Lib.hid K
  clear K
  go_cut [] (fun wx => PSt bp w [(w.heap.size + 1, #[.int .i64 k0, .string s0, .int .i64 n0, .int .i64 a0, .slice A0 ks0.length cap0]), (w.heap.size, #[.int .i64 47, .string s, .int .i64 n, .int .i64 a, .slice (some ⟨b, o, none⟩) (tr3.length + 1 + 1 + 1 + 1) cap])] z wx)
  case first =>
    cases hd : decide (lv0 < 7) with
    | true =>
      have hN : behNeed 47 (Nd.mk k0 s0 n0 a0 ks0).strip = true := by show (decide (levelB k0 s0 < 7) || ((47 : Int) == 48 && (k0 == 14 && s0.toList == [110, 105, 108]))) = _; simp [HLV0.out, hd]
      refine wp_region_held_drew (S := (fun W => (∃ y, PSt bp w [(w.heap.size + 1, #[.int .i64 k0, .string s0, .int .i64 n0, .int .i64 a0, .slice A0 ks0.length cap0]), (w.heap.size, #[.int .i64 47, .string s, .int .i64 n, .int .i64 a, .slice (some ⟨b, o, none⟩) (tr3.length + 1 + 1 + 1 + 1) cap])] y W) ∧ W.cell? ⟨w.heap.size, 0, none⟩ = some (.int .i64 47) ∧ W.cell? ⟨w.heap.size, 1, none⟩ = some (.string s) ∧ W.cell? ⟨w.heap.size, 2, none⟩ = some (.int .i64 n) ∧ W.cell? ⟨w.heap.size, 3, none⟩ = some (.int .i64 a) ∧ W.cell? ⟨w.heap.size, 4, none⟩ = some (.slice (some ⟨b, o, none⟩) (tr3.length + 1 + 1 + 1 + 1) cap) ∧ W.cell? ⟨w.heap.size + 1, 0, none⟩ = some (.int .i64 k0) ∧ W.cell? ⟨w.heap.size + 1, 1, none⟩ = some (.string s0) ∧ W.cell? ⟨w.heap.size + 1, 2, none⟩ = some (.int .i64 n0) ∧ W.cell? ⟨w.heap.size + 1, 3, none⟩ = some (.int .i64 a0) ∧ W.cell? ⟨w.heap.size + 1, 4, none⟩ = some (.slice A0 ks0.length cap0) ∧ W.cell? ⟨b, o, none⟩ = some (.int .i64 k0) ∧ W.cell? ⟨b, o + 1, none⟩ = some (.string s0) ∧ W.cell? ⟨b, o + 2, none⟩ = some (.int .i64 n0) ∧ W.cell? ⟨b, o + 3, none⟩ = some (.int .i64 a0) ∧ W.cell? ⟨b, o + 4, none⟩ = some (.slice A0 ks0.length cap0))) (by kernel_rfl) ?_ (fun hHeld => ?_)
      · exact K'.out _ _ HSA.out.drew
      refine wpAnyH_take (i := 0) (v := ?_) rfl (by kernel_rfl) (by kernel_rfl) (by kernel_rfl) (fun _ _ _ h => h) (Or.inl ⟨by rfl, ?_⟩) (by assumption) ?_
      rotate_left
      · (intro w hSw; (try dsimp only at hSw); go_simp; try with_reducible rfl)
      try simp only [Act.put, List.getElem_toArray, List.getElem_cons_zero, List.setIfInBounds_toArray, List.set_cons_zero, List.set_cons_succ]
      refine wpAnyH_take (i := 1) (v := ?_) rfl (by kernel_rfl) (by kernel_rfl) (by kernel_rfl) (fun _ _ _ h => h) (Or.inl ⟨by rfl, ?_⟩) (by assumption) ?_
      rotate_left
      · (intro w hSw; (try dsimp only at hSw); go_simp; try with_reducible rfl)
      try simp only [Act.put, List.getElem_toArray, List.getElem_cons_zero, List.getElem_cons_succ, List.setIfInBounds_toArray, List.set_cons_zero, List.set_cons_succ]
      refine wpAnyH_take (i := 2) (v := ?_) rfl (by kernel_rfl) (by kernel_rfl) (by kernel_rfl) (fun _ _ _ h => h) (Or.inl ⟨by rfl, ?_⟩) (by assumption) ?_
      rotate_left
      · (intro w hSw; (try dsimp only at hSw); go_simp; try with_reducible rfl)
      try simp only [Act.put, List.getElem_toArray, List.getElem_cons_zero, List.getElem_cons_succ, List.setIfInBounds_toArray, List.set_cons_zero, List.set_cons_succ]
      refine wpAnyH_take (i := 20) (v := ?_) rfl (by kernel_rfl) (by kernel_rfl) (by kernel_rfl) (fun _ _ _ h => h) (Or.inl ⟨by rfl, ?_⟩) (by assumption) ?_
      rotate_left
      · (intro w hSw; (try dsimp only at hSw); go_simp; try with_reducible rfl)
      try simp only [Act.put, List.getElem_toArray, List.getElem_cons_zero, List.getElem_cons_succ, List.setIfInBounds_toArray, List.set_cons_zero, List.set_cons_succ]
      refine wpAnyH_take (i := 21) (v := ?_) rfl (by kernel_rfl) (by kernel_rfl) (by kernel_rfl) (fun _ _ _ h => h) (Or.inl ⟨by rfl, ?_⟩) (by assumption) ?_
      rotate_left
      · (intro w hSw; (try dsimp only at hSw); go_simp; try with_reducible rfl)
      try simp only [Act.put, List.getElem_toArray, List.getElem_cons_zero, List.getElem_cons_succ, List.setIfInBounds_toArray, List.set_cons_zero, List.set_cons_succ]
      refine wpAnyH_ready (rs := [3]) (by kernel_rfl) (by simp) ?_
      refine AllReadyH.cons rfl (fun KK hKK => ?_) AllReadyH.nil
      go_simp
      go_at_call 84
      refine (HLC0.out _).mono ?_
      rintro e wl ⟨rfl, rfl⟩
      have HP1 := Lib.hid (HSA.out.drew.alloc (.cells #[.int .i64 k0, .string s0, .int .i64 n0, .int .i64 a0, .slice A0 ks0.length cap0] 24 (0, 0)))
      refine hKK.out _ _ (K'.out _ _ HP1.out) (fun hHeld => ?_)
      clear hKK KK
      try simp only [Act.put, List.getElem_toArray, List.getElem_cons_zero, List.getElem_cons_succ, List.setIfInBounds_toArray, List.set_cons_zero, List.set_cons_succ]
      refine wpAnyH_take (i := 4) (v := ?_) rfl (by kernel_rfl) (by kernel_rfl) (by kernel_rfl) (fun _ _ _ h => h) (Or.inl ⟨by rfl, ?_⟩) (by assumption) ?_
      rotate_left
      · (intro w hSw; (try dsimp only at hSw); go_simp; try with_reducible rfl)
      try simp only [Act.put, List.getElem_toArray, List.getElem_cons_zero, List.getElem_cons_succ, List.setIfInBounds_toArray, List.set_cons_zero, List.set_cons_succ]
      refine wpAnyH_take (i := 5) (v := ?_) rfl (by kernel_rfl) (by kernel_rfl) (by kernel_rfl) (fun _ _ _ h => h) (Or.inl ⟨by rfl, ?_⟩) (by assumption) ?_
      rotate_left
      · (intro w hSw; (try dsimp only at hSw); go_simp; try with_reducible rfl)
      try simp only [Act.put, List.getElem_toArray, List.getElem_cons_zero, List.getElem_cons_succ, List.setIfInBounds_toArray, List.set_cons_zero, List.set_cons_succ]
      refine wpAnyH_take (i := 6) (v := undef) rfl (by kernel_rfl) (by kernel_rfl) (by kernel_rfl) (fun _ _ _ h => h) (Or.inr ⟨by rfl, rfl⟩) (by assumption) ?_
      try simp only [Act.put, List.getElem_toArray, List.getElem_cons_zero, List.getElem_cons_succ, List.setIfInBounds_toArray, List.set_cons_zero, List.set_cons_succ]
      refine wpAnyH_take (i := 7) (v := undef) rfl (by kernel_rfl) (by kernel_rfl) (by kernel_rfl) (fun _ _ _ h => h) (Or.inr ⟨by rfl, rfl⟩) (by assumption) ?_
      try simp only [Act.put, List.getElem_toArray, List.getElem_cons_zero, List.getElem_cons_succ, List.setIfInBounds_toArray, List.set_cons_zero, List.set_cons_succ]
      refine wpAnyH_take (i := 8) (v := undef) rfl (by kernel_rfl) (by kernel_rfl) (by kernel_rfl) (fun _ _ _ h => h) (Or.inr ⟨by rfl, rfl⟩) (by assumption) ?_
      try simp only [Act.put, List.getElem_toArray, List.getElem_cons_zero, List.getElem_cons_succ, List.setIfInBounds_toArray, List.set_cons_zero, List.set_cons_succ]
      refine wpAnyH_take (i := 9) (v := undef) rfl (by kernel_rfl) (by kernel_rfl) (by kernel_rfl) (fun _ _ _ h => h) (Or.inr ⟨by rfl, rfl⟩) (by assumption) ?_
      try simp only [Act.put, List.getElem_toArray, List.getElem_cons_zero, List.getElem_cons_succ, List.setIfInBounds_toArray, List.set_cons_zero, List.set_cons_succ]
      refine wpAnyH_take (i := 10) (v := undef) rfl (by kernel_rfl) (by kernel_rfl) (by kernel_rfl) (fun _ _ _ h => h) (Or.inr ⟨by rfl, rfl⟩) (by assumption) ?_
      try simp only [Act.put, List.getElem_toArray, List.getElem_cons_zero, List.getElem_cons_succ, List.setIfInBounds_toArray, List.set_cons_zero, List.set_cons_succ]
      refine wpAnyH_take (i := 11) (v := undef) rfl (by kernel_rfl) (by kernel_rfl) (by kernel_rfl) (fun _ _ _ h => h) (Or.inr ⟨by rfl, rfl⟩) (by assumption) ?_
      try simp only [Act.put, List.getElem_toArray, List.getElem_cons_zero, List.getElem_cons_succ, List.setIfInBounds_toArray, List.set_cons_zero, List.set_cons_succ]
      refine wpAnyH_take (i := 12) (v := undef) rfl (by kernel_rfl) (by kernel_rfl) (by kernel_rfl) (fun _ _ _ h => h) (Or.inr ⟨by rfl, rfl⟩) (by assumption) ?_
      try simp only [Act.put, List.getElem_toArray, List.getElem_cons_zero, List.getElem_cons_succ, List.setIfInBounds_toArray, List.set_cons_zero, List.set_cons_succ]
      refine wpAnyH_take (i := 13) (v := undef) rfl (by kernel_rfl) (by kernel_rfl) (by kernel_rfl) (fun _ _ _ h => h) (Or.inr ⟨by rfl, rfl⟩) (by assumption) ?_
      try simp only [Act.put, List.getElem_toArray, List.getElem_cons_zero, List.getElem_cons_succ, List.setIfInBounds_toArray, List.set_cons_zero, List.set_cons_succ]
      refine wpAnyH_take (i := 14) (v := undef) rfl (by kernel_rfl) (by kernel_rfl) (by kernel_rfl) (fun _ _ _ h => h) (Or.inr ⟨by rfl, rfl⟩) (by assumption) ?_
      try simp only [Act.put, List.getElem_toArray, List.getElem_cons_zero, List.getElem_cons_succ, List.setIfInBounds_toArray, List.set_cons_zero, List.set_cons_succ]
      refine wpAnyH_take (i := 15) (v := undef) rfl (by kernel_rfl) (by kernel_rfl) (by kernel_rfl) (fun _ _ _ h => h) (Or.inr ⟨by rfl, rfl⟩) (by assumption) ?_
      try simp only [Act.put, List.getElem_toArray, List.getElem_cons_zero, List.getElem_cons_succ, List.setIfInBounds_toArray, List.set_cons_zero, List.set_cons_succ]
      refine wpAnyH_take (i := 16) (v := undef) rfl (by kernel_rfl) (by kernel_rfl) (by kernel_rfl) (fun _ _ _ h => h) (Or.inr ⟨by rfl, rfl⟩) (by assumption) ?_
      try simp only [Act.put, List.getElem_toArray, List.getElem_cons_zero, List.getElem_cons_succ, List.setIfInBounds_toArray, List.set_cons_zero, List.set_cons_succ]
      refine wpAnyH_take (i := 17) (v := undef) rfl (by kernel_rfl) (by kernel_rfl) (by kernel_rfl) (fun _ _ _ h => h) (Or.inr ⟨by rfl, rfl⟩) (by assumption) ?_
      try simp only [Act.put, List.getElem_toArray, List.getElem_cons_zero, List.getElem_cons_succ, List.setIfInBounds_toArray, List.set_cons_zero, List.set_cons_succ]
      refine wpAnyH_take (i := 18) (v := undef) rfl (by kernel_rfl) (by kernel_rfl) (by kernel_rfl) (fun _ _ _ h => h) (Or.inr ⟨by rfl, rfl⟩) (by assumption) ?_
      try simp only [Act.put, List.getElem_toArray, List.getElem_cons_zero, List.getElem_cons_succ, List.setIfInBounds_toArray, List.set_cons_zero, List.set_cons_succ]
      refine wpAnyH_take (i := 19) (v := ?_) rfl (by kernel_rfl) (by kernel_rfl) (by kernel_rfl) (fun _ _ _ h => h) (Or.inl ⟨by rfl, ?_⟩) (by assumption) ?_
      rotate_left
      · (intro w hSw; (try dsimp only at hSw); go_simp; try with_reducible rfl)
      try simp only [Act.put, List.getElem_toArray, List.getElem_cons_zero, List.getElem_cons_succ, List.setIfInBounds_toArray, List.set_cons_zero, List.set_cons_succ]
      refine wpAnyH_ready (rs := [22]) (by kernel_rfl) (by simp) ?_
      refine AllReadyH.cons rfl (fun KK hKK => ?_) AllReadyH.nil
      go_simp
      go_at_call 72
      refine (HP1.out.call (expr_any h0 _ HY0.out _ true inn head _ bp _ hi HP1.out.pr HP1.out.len (HP1.out.lies HL0.out))).mono ?_
      rintro e w2 ⟨rfl, hf⟩
      refine hKK.out _ _ (K'.out _ _ hf) (fun hHeld => ?_)
      clear hKK KK
      try simp only [Act.put, List.getElem_toArray, List.getElem_cons_zero, List.getElem_cons_succ, List.setIfInBounds_toArray, List.set_cons_zero, List.set_cons_succ]
      refine wpAnyH_done (by kernel_rfl) ?_ _
      go_wp2_with fail
      go_meet
      rw [HY0.out] at hN
      rw [← HZ.out, hN]
      exact hf
    | false =>
      have hN : behNeed 47 (Nd.mk k0 s0 n0 a0 ks0).strip = false := by show (decide (levelB k0 s0 < 7) || ((47 : Int) == 48 && (k0 == 14 && s0.toList == [110, 105, 108]))) = _; simp [HLV0.out, hd]
      refine wp_region_held_drew (S := (fun W => (∃ y, PSt bp w [(w.heap.size + 1, #[.int .i64 k0, .string s0, .int .i64 n0, .int .i64 a0, .slice A0 ks0.length cap0]), (w.heap.size, #[.int .i64 47, .string s, .int .i64 n, .int .i64 a, .slice (some ⟨b, o, none⟩) (tr3.length + 1 + 1 + 1 + 1) cap])] y W) ∧ W.cell? ⟨w.heap.size, 0, none⟩ = some (.int .i64 47) ∧ W.cell? ⟨w.heap.size, 1, none⟩ = some (.string s) ∧ W.cell? ⟨w.heap.size, 2, none⟩ = some (.int .i64 n) ∧ W.cell? ⟨w.heap.size, 3, none⟩ = some (.int .i64 a) ∧ W.cell? ⟨w.heap.size, 4, none⟩ = some (.slice (some ⟨b, o, none⟩) (tr3.length + 1 + 1 + 1 + 1) cap) ∧ W.cell? ⟨w.heap.size + 1, 0, none⟩ = some (.int .i64 k0) ∧ W.cell? ⟨w.heap.size + 1, 1, none⟩ = some (.string s0) ∧ W.cell? ⟨w.heap.size + 1, 2, none⟩ = some (.int .i64 n0) ∧ W.cell? ⟨w.heap.size + 1, 3, none⟩ = some (.int .i64 a0) ∧ W.cell? ⟨w.heap.size + 1, 4, none⟩ = some (.slice A0 ks0.length cap0) ∧ W.cell? ⟨b, o, none⟩ = some (.int .i64 k0) ∧ W.cell? ⟨b, o + 1, none⟩ = some (.string s0) ∧ W.cell? ⟨b, o + 2, none⟩ = some (.int .i64 n0) ∧ W.cell? ⟨b, o + 3, none⟩ = some (.int .i64 a0) ∧ W.cell? ⟨b, o + 4, none⟩ = some (.slice A0 ks0.length cap0))) (by kernel_rfl) ?_ (fun hHeld => ?_)
      · exact K'.out _ _ HSA.out.drew
      refine wpAnyH_take (i := 0) (v := ?_) rfl (by kernel_rfl) (by kernel_rfl) (by kernel_rfl) (fun _ _ _ h => h) (Or.inl ⟨by rfl, ?_⟩) (by assumption) ?_
      rotate_left
      · (intro w hSw; (try dsimp only at hSw); go_simp; try with_reducible rfl)
      try simp only [Act.put, List.getElem_toArray, List.getElem_cons_zero, List.setIfInBounds_toArray, List.set_cons_zero, List.set_cons_succ]
      refine wpAnyH_take (i := 1) (v := ?_) rfl (by kernel_rfl) (by kernel_rfl) (by kernel_rfl) (fun _ _ _ h => h) (Or.inl ⟨by rfl, ?_⟩) (by assumption) ?_
      rotate_left
      · (intro w hSw; (try dsimp only at hSw); go_simp; try with_reducible rfl)
      try simp only [Act.put, List.getElem_toArray, List.getElem_cons_zero, List.getElem_cons_succ, List.setIfInBounds_toArray, List.set_cons_zero, List.set_cons_succ]
      refine wpAnyH_take (i := 2) (v := ?_) rfl (by kernel_rfl) (by kernel_rfl) (by kernel_rfl) (fun _ _ _ h => h) (Or.inl ⟨by rfl, ?_⟩) (by assumption) ?_
      rotate_left
      · (intro w hSw; (try dsimp only at hSw); go_simp; try with_reducible rfl)
      try simp only [Act.put, List.getElem_toArray, List.getElem_cons_zero, List.getElem_cons_succ, List.setIfInBounds_toArray, List.set_cons_zero, List.set_cons_succ]
      refine wpAnyH_take (i := 20) (v := ?_) rfl (by kernel_rfl) (by kernel_rfl) (by kernel_rfl) (fun _ _ _ h => h) (Or.inl ⟨by rfl, ?_⟩) (by assumption) ?_
      rotate_left
      · (intro w hSw; (try dsimp only at hSw); go_simp; try with_reducible rfl)
      try simp only [Act.put, List.getElem_toArray, List.getElem_cons_zero, List.getElem_cons_succ, List.setIfInBounds_toArray, List.set_cons_zero, List.set_cons_succ]
      refine wpAnyH_take (i := 21) (v := ?_) rfl (by kernel_rfl) (by kernel_rfl) (by kernel_rfl) (fun _ _ _ h => h) (Or.inl ⟨by rfl, ?_⟩) (by assumption) ?_
      rotate_left
      · (intro w hSw; (try dsimp only at hSw); go_simp; try with_reducible rfl)
      try simp only [Act.put, List.getElem_toArray, List.getElem_cons_zero, List.getElem_cons_succ, List.setIfInBounds_toArray, List.set_cons_zero, List.set_cons_succ]
      refine wpAnyH_ready (rs := [3]) (by kernel_rfl) (by simp) ?_
      refine AllReadyH.cons rfl (fun KK hKK => ?_) AllReadyH.nil
      go_simp
      go_at_call 84
      refine (HLC0.out _).mono ?_
      rintro e wl ⟨rfl, rfl⟩
      have HP1 := Lib.hid (HSA.out.drew.alloc (.cells #[.int .i64 k0, .string s0, .int .i64 n0, .int .i64 a0, .slice A0 ks0.length cap0] 24 (0, 0)))
      refine hKK.out _ _ (K'.out _ _ HP1.out) (fun hHeld => ?_)
      clear hKK KK
      try simp only [Act.put, List.getElem_toArray, List.getElem_cons_zero, List.getElem_cons_succ, List.setIfInBounds_toArray, List.set_cons_zero, List.set_cons_succ]
      refine wpAnyH_take (i := 4) (v := ?_) rfl (by kernel_rfl) (by kernel_rfl) (by kernel_rfl) (fun _ _ _ h => h) (Or.inl ⟨by rfl, ?_⟩) (by assumption) ?_
      rotate_left
      · (intro w hSw; (try dsimp only at hSw); go_simp; try with_reducible rfl)
      try simp only [Act.put, List.getElem_toArray, List.getElem_cons_zero, List.getElem_cons_succ, List.setIfInBounds_toArray, List.set_cons_zero, List.set_cons_succ]
      refine wpAnyH_take (i := 5) (v := ?_) rfl (by kernel_rfl) (by kernel_rfl) (by kernel_rfl) (fun _ _ _ h => h) (Or.inl ⟨by rfl, ?_⟩) (by assumption) ?_
      rotate_left
      · (intro w hSw; (try dsimp only at hSw); go_simp; try with_reducible rfl)
      try simp only [Act.put, List.getElem_toArray, List.getElem_cons_zero, List.getElem_cons_succ, List.setIfInBounds_toArray, List.set_cons_zero, List.set_cons_succ]
      refine wpAnyH_take (i := 6) (v := ?_) rfl (by kernel_rfl) (by kernel_rfl) (by kernel_rfl) (fun _ _ _ h => h) (Or.inl ⟨by rfl, ?_⟩) (by assumption) ?_
      rotate_left
      · (intro w hSw; (try dsimp only at hSw); go_simp; try with_reducible rfl)
      try simp only [Act.put, List.getElem_toArray, List.getElem_cons_zero, List.getElem_cons_succ, List.setIfInBounds_toArray, List.set_cons_zero, List.set_cons_succ]
      refine wpAnyH_take (i := 7) (v := ?_) rfl (by kernel_rfl) (by kernel_rfl) (by kernel_rfl) (fun _ _ _ h => h) (Or.inl ⟨by rfl, ?_⟩) (by assumption) ?_
      rotate_left
      · (intro w hSw; (try dsimp only at hSw); go_simp; try with_reducible rfl)
      try simp only [Act.put, List.getElem_toArray, List.getElem_cons_zero, List.getElem_cons_succ, List.setIfInBounds_toArray, List.set_cons_zero, List.set_cons_succ]
      refine wpAnyH_take (i := 8) (v := ?_) rfl (by kernel_rfl) (by kernel_rfl) (by kernel_rfl) (fun _ _ _ h => h) (Or.inl ⟨by rfl, ?_⟩) (by assumption) ?_
      rotate_left
      · (intro w hSw; (try dsimp only at hSw); go_simp; try with_reducible rfl)
      try simp only [Act.put, List.getElem_toArray, List.getElem_cons_zero, List.getElem_cons_succ, List.setIfInBounds_toArray, List.set_cons_zero, List.set_cons_succ]
      refine wpAnyH_take (i := 9) (v := ?_) rfl (by kernel_rfl) (by kernel_rfl) (by kernel_rfl) (fun _ _ _ h => h) (Or.inl ⟨by rfl, ?_⟩) (by assumption) ?_
      rotate_left
      · (intro w hSw; (try dsimp only at hSw); go_simp; try with_reducible rfl)
      try simp only [Act.put, List.getElem_toArray, List.getElem_cons_zero, List.getElem_cons_succ, List.setIfInBounds_toArray, List.set_cons_zero, List.set_cons_succ]
      refine wpAnyH_take (i := 10) (v := undef) rfl (by kernel_rfl) (by kernel_rfl) (by kernel_rfl) (fun _ _ _ h => h) (Or.inr ⟨by rfl, rfl⟩) (by assumption) ?_
      try simp only [Act.put, List.getElem_toArray, List.getElem_cons_zero, List.getElem_cons_succ, List.setIfInBounds_toArray, List.set_cons_zero, List.set_cons_succ]
      refine wpAnyH_take (i := 11) (v := undef) rfl (by kernel_rfl) (by kernel_rfl) (by kernel_rfl) (fun _ _ _ h => h) (Or.inr ⟨by rfl, rfl⟩) (by assumption) ?_
      try simp only [Act.put, List.getElem_toArray, List.getElem_cons_zero, List.getElem_cons_succ, List.setIfInBounds_toArray, List.set_cons_zero, List.set_cons_succ]
      refine wpAnyH_take (i := 12) (v := undef) rfl (by kernel_rfl) (by kernel_rfl) (by kernel_rfl) (fun _ _ _ h => h) (Or.inr ⟨by rfl, rfl⟩) (by assumption) ?_
      try simp only [Act.put, List.getElem_toArray, List.getElem_cons_zero, List.getElem_cons_succ, List.setIfInBounds_toArray, List.set_cons_zero, List.set_cons_succ]
      refine wpAnyH_take (i := 13) (v := ?_) rfl (by kernel_rfl) (by kernel_rfl) (by kernel_rfl) (fun _ _ _ h => h) (Or.inl ⟨by rfl, ?_⟩) (by assumption) ?_
      rotate_left
      · (intro w hSw; (try dsimp only at hSw); go_simp; try with_reducible rfl)
      try simp only [Act.put, List.getElem_toArray, List.getElem_cons_zero, List.getElem_cons_succ, List.setIfInBounds_toArray, List.set_cons_zero, List.set_cons_succ]
      refine wpAnyH_take (i := 14) (v := ?_) rfl (by kernel_rfl) (by kernel_rfl) (by kernel_rfl) (fun _ _ _ h => h) (Or.inl ⟨by rfl, ?_⟩) (by assumption) ?_
      rotate_left
      · (intro w hSw; (try dsimp only at hSw); go_simp; try with_reducible rfl)
      try simp only [Act.put, List.getElem_toArray, List.getElem_cons_zero, List.getElem_cons_succ, List.setIfInBounds_toArray, List.set_cons_zero, List.set_cons_succ]
      refine wpAnyH_take (i := 15) (v := undef) rfl (by kernel_rfl) (by kernel_rfl) (by kernel_rfl) (fun _ _ _ h => h) (Or.inr ⟨by rfl, rfl⟩) (by assumption) ?_
      try simp only [Act.put, List.getElem_toArray, List.getElem_cons_zero, List.getElem_cons_succ, List.setIfInBounds_toArray, List.set_cons_zero, List.set_cons_succ]
      refine wpAnyH_take (i := 16) (v := undef) rfl (by kernel_rfl) (by kernel_rfl) (by kernel_rfl) (fun _ _ _ h => h) (Or.inr ⟨by rfl, rfl⟩) (by assumption) ?_
      try simp only [Act.put, List.getElem_toArray, List.getElem_cons_zero, List.getElem_cons_succ, List.setIfInBounds_toArray, List.set_cons_zero, List.set_cons_succ]
      refine wpAnyH_take (i := 17) (v := undef) rfl (by kernel_rfl) (by kernel_rfl) (by kernel_rfl) (fun _ _ _ h => h) (Or.inr ⟨by rfl, rfl⟩) (by assumption) ?_
      try simp only [Act.put, List.getElem_toArray, List.getElem_cons_zero, List.getElem_cons_succ, List.setIfInBounds_toArray, List.set_cons_zero, List.set_cons_succ]
      refine wpAnyH_take (i := 18) (v := ?_) rfl (by kernel_rfl) (by kernel_rfl) (by kernel_rfl) (fun _ _ _ h => h) (Or.inl ⟨by rfl, ?_⟩) (by assumption) ?_
      rotate_left
      · (intro w hSw; (try dsimp only at hSw); go_simp; try with_reducible rfl)
      try simp only [Act.put, List.getElem_toArray, List.getElem_cons_zero, List.getElem_cons_succ, List.setIfInBounds_toArray, List.set_cons_zero, List.set_cons_succ]
      refine wpAnyH_take (i := 19) (v := ?_) rfl (by kernel_rfl) (by kernel_rfl) (by kernel_rfl) (fun _ _ _ h => h) (Or.inl ⟨by rfl, ?_⟩) (by assumption) ?_
      rotate_left
      · (intro w hSw; (try dsimp only at hSw); go_simp; try with_reducible rfl)
      try simp only [Act.put, List.getElem_toArray, List.getElem_cons_zero, List.getElem_cons_succ, List.setIfInBounds_toArray, List.set_cons_zero, List.set_cons_succ]
      refine wpAnyH_ready (rs := [22]) (by kernel_rfl) (by simp) ?_
      refine AllReadyH.cons rfl (fun KK hKK => ?_) AllReadyH.nil
      go_simp
      go_at_call 72
      refine (HP1.out.call (expr_any h0 _ HY0.out _ false inn head _ bp _ hi HP1.out.pr HP1.out.len (HP1.out.lies HL0.out))).mono ?_
      rintro e w2 ⟨rfl, hf⟩
      refine hKK.out _ _ (K'.out _ _ hf) (fun hHeld => ?_)
      clear hKK KK
      try simp only [Act.put, List.getElem_toArray, List.getElem_cons_zero, List.getElem_cons_succ, List.setIfInBounds_toArray, List.set_cons_zero, List.set_cons_succ]
      refine wpAnyH_done (by kernel_rfl) ?_ _
      go_wp2_with fail
      go_meet
      rw [HY0.out] at hN
      rw [← HZ.out, hN]
      exact hf
  case rest =>
    have hh := hcut
    clear hcut HSA
    have c0 := hh.at_ (List.mem_cons_of_mem _ (List.mem_cons_self ..)) 0 rfl
    have c1 := hh.at_ (List.mem_cons_of_mem _ (List.mem_cons_self ..)) 1 rfl
    have c2 := hh.at_ (List.mem_cons_of_mem _ (List.mem_cons_self ..)) 2 rfl
    have c3 := hh.at_ (List.mem_cons_of_mem _ (List.mem_cons_self ..)) 3 rfl
    have c4 := hh.at_ (List.mem_cons_of_mem _ (List.mem_cons_self ..)) 4 rfl
    have d00 := hh.kid hbl KC0.out.1
    have d01 := hh.kid hbl KC0.out.2.1
    have d02 := hh.kid hbl KC0.out.2.2.1
    have d03 := hh.kid hbl KC0.out.2.2.2.1
    have d04 := hh.kid hbl KC0.out.2.2.2.2
    have d10 := hh.kid hbl KC1.out.1
    have d11 := hh.kid hbl KC1.out.2.1
    have d12 := hh.kid hbl KC1.out.2.2.1
    have d13 := hh.kid hbl KC1.out.2.2.2.1
    have d14 := hh.kid hbl KC1.out.2.2.2.2
    have d20 := hh.kid hbl KC2.out.1
    have d21 := hh.kid hbl KC2.out.2.1
    have d22 := hh.kid hbl KC2.out.2.2.1
    have d23 := hh.kid hbl KC2.out.2.2.2.1
    have d24 := hh.kid hbl KC2.out.2.2.2.2
    have d30 := hh.kid hbl KC3.out.1
    have d31 := hh.kid hbl KC3.out.2.1
    have d32 := hh.kid hbl KC3.out.2.2.1
    have d33 := hh.kid hbl KC3.out.2.2.2.1
    have d34 := hh.kid hbl KC3.out.2.2.2.2
    have HSC := Lib.hid hh
    clear hh
    have hk3 : (k3 == 16) = false := by have h := hn3; rw [← HY3.out, strip_kind] at h; exact beq_eq_false_iff_ne.2 h
    clear hn3
    go_wp2_with (first
      | (go_at_call 49; refine (HSC.out.put1 ⟨#[91]⟩ (by decide)).mono ?_; clear HSC; rintro e w1 ⟨rfl, hh⟩
         have c0 := hh.at_ (List.mem_cons_of_mem _ (List.mem_cons_self ..)) 0 rfl
         have c1 := hh.at_ (List.mem_cons_of_mem _ (List.mem_cons_self ..)) 1 rfl
         have c2 := hh.at_ (List.mem_cons_of_mem _ (List.mem_cons_self ..)) 2 rfl
         have c3 := hh.at_ (List.mem_cons_of_mem _ (List.mem_cons_self ..)) 3 rfl
         have c4 := hh.at_ (List.mem_cons_of_mem _ (List.mem_cons_self ..)) 4 rfl
         have d00 := hh.kid hbl KC0.out.1
         have d01 := hh.kid hbl KC0.out.2.1
         have d02 := hh.kid hbl KC0.out.2.2.1
         have d03 := hh.kid hbl KC0.out.2.2.2.1
         have d04 := hh.kid hbl KC0.out.2.2.2.2
         have d10 := hh.kid hbl KC1.out.1
         have d11 := hh.kid hbl KC1.out.2.1
         have d12 := hh.kid hbl KC1.out.2.2.1
         have d13 := hh.kid hbl KC1.out.2.2.2.1
         have d14 := hh.kid hbl KC1.out.2.2.2.2
         have d20 := hh.kid hbl KC2.out.1
         have d21 := hh.kid hbl KC2.out.2.1
         have d22 := hh.kid hbl KC2.out.2.2.1
         have d23 := hh.kid hbl KC2.out.2.2.2.1
         have d24 := hh.kid hbl KC2.out.2.2.2.2
         have d30 := hh.kid hbl KC3.out.1
         have d31 := hh.kid hbl KC3.out.2.1
         have d32 := hh.kid hbl KC3.out.2.2.1
         have d33 := hh.kid hbl KC3.out.2.2.2.1
         have d34 := hh.kid hbl KC3.out.2.2.2.2
         have HS1 := Lib.hid hh
         clear hh)
      | (go_at_call 56; refine (HS1.out.call (prOne_any h1 _ HY1.out _ inn _ bp _ hi HS1.out.pr HS1.out.len (HS1.out.lies HL1.out))).mono ?_; clear HS1; rintro e w2 ⟨rfl, hh⟩
         have c0 := hh.at_ (List.mem_cons_of_mem _ (List.mem_cons_self ..)) 0 rfl
         have c1 := hh.at_ (List.mem_cons_of_mem _ (List.mem_cons_self ..)) 1 rfl
         have c2 := hh.at_ (List.mem_cons_of_mem _ (List.mem_cons_self ..)) 2 rfl
         have c3 := hh.at_ (List.mem_cons_of_mem _ (List.mem_cons_self ..)) 3 rfl
         have c4 := hh.at_ (List.mem_cons_of_mem _ (List.mem_cons_self ..)) 4 rfl
         have d00 := hh.kid hbl KC0.out.1
         have d01 := hh.kid hbl KC0.out.2.1
         have d02 := hh.kid hbl KC0.out.2.2.1
         have d03 := hh.kid hbl KC0.out.2.2.2.1
         have d04 := hh.kid hbl KC0.out.2.2.2.2
         have d10 := hh.kid hbl KC1.out.1
         have d11 := hh.kid hbl KC1.out.2.1
         have d12 := hh.kid hbl KC1.out.2.2.1
         have d13 := hh.kid hbl KC1.out.2.2.2.1
         have d14 := hh.kid hbl KC1.out.2.2.2.2
         have d20 := hh.kid hbl KC2.out.1
         have d21 := hh.kid hbl KC2.out.2.1
         have d22 := hh.kid hbl KC2.out.2.2.1
         have d23 := hh.kid hbl KC2.out.2.2.2.1
         have d24 := hh.kid hbl KC2.out.2.2.2.2
         have d30 := hh.kid hbl KC3.out.1
         have d31 := hh.kid hbl KC3.out.2.1
         have d32 := hh.kid hbl KC3.out.2.2.1
         have d33 := hh.kid hbl KC3.out.2.2.2.1
         have d34 := hh.kid hbl KC3.out.2.2.2.2
         have HS2 := Lib.hid hh
         clear hh)
      | (go_at_call 49; refine (HS2.out.put1 ⟨#[58]⟩ (by decide)).mono ?_; clear HS2; rintro e w3 ⟨rfl, hh⟩
         have c0 := hh.at_ (List.mem_cons_of_mem _ (List.mem_cons_self ..)) 0 rfl
         have c1 := hh.at_ (List.mem_cons_of_mem _ (List.mem_cons_self ..)) 1 rfl
         have c2 := hh.at_ (List.mem_cons_of_mem _ (List.mem_cons_self ..)) 2 rfl
         have c3 := hh.at_ (List.mem_cons_of_mem _ (List.mem_cons_self ..)) 3 rfl
         have c4 := hh.at_ (List.mem_cons_of_mem _ (List.mem_cons_self ..)) 4 rfl
         have d00 := hh.kid hbl KC0.out.1
         have d01 := hh.kid hbl KC0.out.2.1
         have d02 := hh.kid hbl KC0.out.2.2.1
         have d03 := hh.kid hbl KC0.out.2.2.2.1
         have d04 := hh.kid hbl KC0.out.2.2.2.2
         have d10 := hh.kid hbl KC1.out.1
         have d11 := hh.kid hbl KC1.out.2.1
         have d12 := hh.kid hbl KC1.out.2.2.1
         have d13 := hh.kid hbl KC1.out.2.2.2.1
         have d14 := hh.kid hbl KC1.out.2.2.2.2
         have d20 := hh.kid hbl KC2.out.1
         have d21 := hh.kid hbl KC2.out.2.1
         have d22 := hh.kid hbl KC2.out.2.2.1
         have d23 := hh.kid hbl KC2.out.2.2.2.1
         have d24 := hh.kid hbl KC2.out.2.2.2.2
         have d30 := hh.kid hbl KC3.out.1
         have d31 := hh.kid hbl KC3.out.2.1
         have d32 := hh.kid hbl KC3.out.2.2.1
         have d33 := hh.kid hbl KC3.out.2.2.2.1
         have d34 := hh.kid hbl KC3.out.2.2.2.2
         have HS3 := Lib.hid hh
         clear hh)
      | (go_at_call 56; refine (HS3.out.call (prOne_any h2 _ HY2.out _ inn _ bp _ hi HS3.out.pr HS3.out.len (HS3.out.lies HL2.out))).mono ?_; clear HS3; rintro e w4 ⟨rfl, hh⟩
         have c0 := hh.at_ (List.mem_cons_of_mem _ (List.mem_cons_self ..)) 0 rfl
         have c1 := hh.at_ (List.mem_cons_of_mem _ (List.mem_cons_self ..)) 1 rfl
         have c2 := hh.at_ (List.mem_cons_of_mem _ (List.mem_cons_self ..)) 2 rfl
         have c3 := hh.at_ (List.mem_cons_of_mem _ (List.mem_cons_self ..)) 3 rfl
         have c4 := hh.at_ (List.mem_cons_of_mem _ (List.mem_cons_self ..)) 4 rfl
         have d00 := hh.kid hbl KC0.out.1
         have d01 := hh.kid hbl KC0.out.2.1
         have d02 := hh.kid hbl KC0.out.2.2.1
         have d03 := hh.kid hbl KC0.out.2.2.2.1
         have d04 := hh.kid hbl KC0.out.2.2.2.2
         have d10 := hh.kid hbl KC1.out.1
         have d11 := hh.kid hbl KC1.out.2.1
         have d12 := hh.kid hbl KC1.out.2.2.1
         have d13 := hh.kid hbl KC1.out.2.2.2.1
         have d14 := hh.kid hbl KC1.out.2.2.2.2
         have d20 := hh.kid hbl KC2.out.1
         have d21 := hh.kid hbl KC2.out.2.1
         have d22 := hh.kid hbl KC2.out.2.2.1
         have d23 := hh.kid hbl KC2.out.2.2.2.1
         have d24 := hh.kid hbl KC2.out.2.2.2.2
         have d30 := hh.kid hbl KC3.out.1
         have d31 := hh.kid hbl KC3.out.2.1
         have d32 := hh.kid hbl KC3.out.2.2.1
         have d33 := hh.kid hbl KC3.out.2.2.2.1
         have d34 := hh.kid hbl KC3.out.2.2.2.2
         have HS4 := Lib.hid hh
         clear hh)
      | (go_at_call 49; refine (HS4.out.put1 ⟨#[58]⟩ (by decide)).mono ?_; clear HS4; rintro e w5 ⟨rfl, hh⟩
         have c0 := hh.at_ (List.mem_cons_of_mem _ (List.mem_cons_self ..)) 0 rfl
         have c1 := hh.at_ (List.mem_cons_of_mem _ (List.mem_cons_self ..)) 1 rfl
         have c2 := hh.at_ (List.mem_cons_of_mem _ (List.mem_cons_self ..)) 2 rfl
         have c3 := hh.at_ (List.mem_cons_of_mem _ (List.mem_cons_self ..)) 3 rfl
         have c4 := hh.at_ (List.mem_cons_of_mem _ (List.mem_cons_self ..)) 4 rfl
         have d00 := hh.kid hbl KC0.out.1
         have d01 := hh.kid hbl KC0.out.2.1
         have d02 := hh.kid hbl KC0.out.2.2.1
         have d03 := hh.kid hbl KC0.out.2.2.2.1
         have d04 := hh.kid hbl KC0.out.2.2.2.2
         have d10 := hh.kid hbl KC1.out.1
         have d11 := hh.kid hbl KC1.out.2.1
         have d12 := hh.kid hbl KC1.out.2.2.1
         have d13 := hh.kid hbl KC1.out.2.2.2.1
         have d14 := hh.kid hbl KC1.out.2.2.2.2
         have d20 := hh.kid hbl KC2.out.1
         have d21 := hh.kid hbl KC2.out.2.1
         have d22 := hh.kid hbl KC2.out.2.2.1
         have d23 := hh.kid hbl KC2.out.2.2.2.1
         have d24 := hh.kid hbl KC2.out.2.2.2.2
         have d30 := hh.kid hbl KC3.out.1
         have d31 := hh.kid hbl KC3.out.2.1
         have d32 := hh.kid hbl KC3.out.2.2.1
         have d33 := hh.kid hbl KC3.out.2.2.2.1
         have d34 := hh.kid hbl KC3.out.2.2.2.2
         have HS5 := Lib.hid hh
         clear hh)
      | (go_at_call 56; refine (HS5.out.call (prOne_any h3 _ HY3.out _ inn _ bp _ hi HS5.out.pr HS5.out.len (HS5.out.lies HL3.out))).mono ?_; clear HS5; rintro e w6 ⟨rfl, hh⟩
         have c0 := hh.at_ (List.mem_cons_of_mem _ (List.mem_cons_self ..)) 0 rfl
         have c1 := hh.at_ (List.mem_cons_of_mem _ (List.mem_cons_self ..)) 1 rfl
         have c2 := hh.at_ (List.mem_cons_of_mem _ (List.mem_cons_self ..)) 2 rfl
         have c3 := hh.at_ (List.mem_cons_of_mem _ (List.mem_cons_self ..)) 3 rfl
         have c4 := hh.at_ (List.mem_cons_of_mem _ (List.mem_cons_self ..)) 4 rfl
         have d00 := hh.kid hbl KC0.out.1
         have d01 := hh.kid hbl KC0.out.2.1
         have d02 := hh.kid hbl KC0.out.2.2.1
         have d03 := hh.kid hbl KC0.out.2.2.2.1
         have d04 := hh.kid hbl KC0.out.2.2.2.2
         have d10 := hh.kid hbl KC1.out.1
         have d11 := hh.kid hbl KC1.out.2.1
         have d12 := hh.kid hbl KC1.out.2.2.1
         have d13 := hh.kid hbl KC1.out.2.2.2.1
         have d14 := hh.kid hbl KC1.out.2.2.2.2
         have d20 := hh.kid hbl KC2.out.1
         have d21 := hh.kid hbl KC2.out.2.1
         have d22 := hh.kid hbl KC2.out.2.2.1
         have d23 := hh.kid hbl KC2.out.2.2.2.1
         have d24 := hh.kid hbl KC2.out.2.2.2.2
         have d30 := hh.kid hbl KC3.out.1
         have d31 := hh.kid hbl KC3.out.2.1
         have d32 := hh.kid hbl KC3.out.2.2.1
         have d33 := hh.kid hbl KC3.out.2.2.2.1
         have d34 := hh.kid hbl KC3.out.2.2.2.2
         have HS6 := Lib.hid hh
         clear hh)
      | (go_at_call 49; refine (HS6.out.put1 ⟨#[93]⟩ (by decide)).mono ?_; rintro e w7 ⟨rfl, hf⟩))
    all_goals go_end0
    all_goals (exact hf.fin)
end Go.Proofs.YtjpmghgmmeemkaaGreatDoor
