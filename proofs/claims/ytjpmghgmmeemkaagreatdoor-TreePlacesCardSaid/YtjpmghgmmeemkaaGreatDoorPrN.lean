/- The printer: loop. -/
import Derived.Deep.RegionHeld3
import Derived.Deep.DeepCutAuto
import Derived.Test.YtjpmghgmmeemkaaGreatDoorJPrL
import Derived.Test.YtjpmghgmmeemkaaGreatDoorPrK
namespace Go.Proofs.YtjpmghgmmeemkaaGreatDoor
open Go.RowKit

/-- A name, or a sign for none. -/
def nameS (k : Int) (s : ByteArray) : ByteArray := if k = 16 then ⟨#[95]⟩ else s
set_option maxHeartbeats 1000000 in
set_option maxRecDepth 100000 in
theorem name_any (k : Int) (s : ByteArray) (n a : Int) (A : Option Addr) (len cap : Nat) (w : World) :
    Calls Tryz.prog 92 #[.agg #[.int .i64 k, .string s, .int .i64 n, .int .i64 a, .slice A len cap]] w fun e w' => e = .returned (.string (nameS k s)) ∧ w' = w.alloc (.cells #[.int .i64 k, .string s, .int .i64 n, .int .i64 a, .slice A len cap] 24 (0, 0)) := by
  by_cases hk : k = 16
  · subst hk
    go_enter Tryz.func92, Tryz.ntmps92
    go_wp2_with fail
    go_ret
    exact ⟨rfl, rfl⟩
  · have hk' : (k == 16) = false := beq_eq_false_iff_ne.2 hk
    have e : nameS k s = s := if_neg hk
    rw [e]
    clear hk e
    go_enter Tryz.func92, Tryz.ntmps92
    go_wp2_with fail
    go_ret
    exact ⟨rfl, rfl⟩
theorem nameS_size {k : Int} {s : ByteArray} (h : s.size ≤ 140737488351232) : (nameS k s).size ≤ 140737488351232 := by
  unfold nameS
  split
  · decide
  · exact h
theorem PSt.tailIn2 {bp : Nat} {w W : World} {rows : List (Nat × Array Value)} {x : WX} (h : PSt bp w rows x W) {t u : Nd} {ts : List Nd} {b o cap : Nat} (hbl : b < bp) (hk : LiesL w bp (t :: u :: ts) b o) (hcl : ts.length + 1 + 1 ≤ cap) :
    ts = [] ∨ ∃ b' o', (if cap = 2 then some ⟨b, o, none⟩ else some ⟨b, o + 10, none⟩ : Option Addr) = some ⟨b', o', none⟩ ∧ b' < bp ∧ LiesL W bp ts b' o' := by
  by_cases h1 : cap = 2
  · cases ts with
    | nil => exact .inl rfl
    | cons u us => rw [List.length_cons] at hcl; omega
  · rw [if_neg h1]
    refine .inr ⟨b, o + 10, rfl, hbl, h.liesL hbl ?_⟩
    unfold LiesL at hk
    have h2 := hk.2
    unfold LiesL at h2
    exact h2.2

set_option maxHeartbeats 4000000 in
set_option maxRecDepth 100000 in
theorem loop_for {s : ByteArray} {n : Int} {y0 y1 : Nd} {ys : List Nd} (h0 : y0.kind ≠ 16 → CanB y0) (h1 : ∀ y ∈ y1.kids, CanS y) (t : Nd) (htc : t.strip = .mk 23 s n 0 (y0 :: y1 :: ys)) (v : Value) (inn : Int) (x : WX) (bp : Nat) (w : World) (hi : okI inn) (h : PrAt bp x.1 x.2 w) (hlen : x.1.length ≤ 60000) (hl : Lies w bp t v) :
    Calls Tryz.prog 78 #[.pointer (some ⟨bp, 0, none⟩), v, .int .i64 inn] w (WrPost bp (blockF y1 inn (headF y0 inn (putL x [⟨#[102, 111, 114, 32]⟩]))) w) := by
  have HTC := Lib.hid htc
  have HL := Lib.hid hl
  obtain ⟨k', s', n', a, ks⟩ := t
  obtain ⟨rfl, rfl, rfl, hks⟩ := strip_mk htc
  obtain ⟨⟨k0, s0, n0, a0, ks0⟩, tr0, rfl, hy0, hks⟩ := stripL_cons hks
  have HY0 := Lib.hid hy0
  clear hy0
  obtain ⟨⟨k1, s1, n1, a1, ks1⟩, tr1, rfl, hy1, hks⟩ := stripL_cons hks
  have HY1 := Lib.hid hy1
  clear hy1
  have HKS := Lib.hid hks
  unfold Lies at hl
  obtain ⟨A, cap, rfl, _, _, _, hsz, hcl, hcc, hkl⟩ := hl
  obtain ⟨b, o, rfl, hbl, hkl⟩ := kids_some hkl
  obtain ⟨A0, cap0, hKC0, hL0⟩ := LiesL.kid0 rfl hkl
  have KC0 := Lib.hid hKC0
  have HL0 := Lib.hid hL0
  have hsz0 := hL0.size
  clear hKC0 hL0
  obtain ⟨A1, cap1, hKC1, hL1⟩ := LiesL.kidm 1 5 rfl rfl hkl
  have KC1 := Lib.hid hKC1
  have HL1 := Lib.hid hL1
  have hsz1 := hL1.size
  clear hKC1 hL1
  have HKL := Lib.hid hkl
  have hs := PSt.init h hlen #[.int .i64 23, .string s, .int .i64 n, .int .i64 a, .slice (some ⟨b, o, none⟩) (.mk k0 s0 n0 a0 ks0 :: .mk k1 s1 n1 a1 ks1 :: tr1 : List Nd).length cap]
  simp only [List.length_cons] at hcl hs ⊢
  have c0 := hs.at_ (List.mem_cons_self ..) 0 rfl
  have c1 := hs.at_ (List.mem_cons_self ..) 1 rfl
  have c2 := hs.at_ (List.mem_cons_self ..) 2 rfl
  have c3 := hs.at_ (List.mem_cons_self ..) 3 rfl
  have c4 := hs.at_ (List.mem_cons_self ..) 4 rfl
  have d00 := hs.kid hbl KC0.out.1
  have d01 := hs.kid hbl KC0.out.2.1
  have d02 := hs.kid hbl KC0.out.2.2.1
  have d03 := hs.kid hbl KC0.out.2.2.2.1
  have d04 := hs.kid hbl KC0.out.2.2.2.2
  have d10 := hs.kid hbl KC1.out.1
  have d11 := hs.kid hbl KC1.out.2.1
  have d12 := hs.kid hbl KC1.out.2.2.1
  have d13 := hs.kid hbl KC1.out.2.2.2.1
  have d14 := hs.kid hbl KC1.out.2.2.2.2
  have HS := Lib.hid hs
  clear h hs htc hks hkl
  have b0 : (0 : Int) < (tr1.length : Int) + 1 + 1 := by omega
  have b1 : (1 : Int) < (tr1.length : Int) + 1 + 1 := by omega
  go_enter Tryz.func78, Tryz.ntmps78
  go_wp2_with (first
      | (go_at_call 49; refine (HS.out.put1 ⟨#[102, 111, 114, 32]⟩ (by decide)).mono ?_; clear HS; rintro e w1 ⟨rfl, hh⟩
         have c0 := hh.at_ (List.mem_cons_self ..) 0 rfl
         have c1 := hh.at_ (List.mem_cons_self ..) 1 rfl
         have c2 := hh.at_ (List.mem_cons_self ..) 2 rfl
         have c3 := hh.at_ (List.mem_cons_self ..) 3 rfl
         have c4 := hh.at_ (List.mem_cons_self ..) 4 rfl
         have d00 := hh.kid hbl KC0.out.1
         have d01 := hh.kid hbl KC0.out.2.1
         have d02 := hh.kid hbl KC0.out.2.2.1
         have d03 := hh.kid hbl KC0.out.2.2.2.1
         have d04 := hh.kid hbl KC0.out.2.2.2.2
         have d10 := hh.kid hbl KC1.out.1
         have d11 := hh.kid hbl KC1.out.2.1
         have d12 := hh.kid hbl KC1.out.2.2.1
         have d13 := hh.kid hbl KC1.out.2.2.2.1
         have d14 := hh.kid hbl KC1.out.2.2.2.2
         have HS1 := Lib.hid hh
         clear hh)
      | (go_at_call 80; refine (HS1.out.call (head_any h0 _ HY0.out _ inn _ bp _ hi HS1.out.pr HS1.out.len (HS1.out.lies HL0.out))).mono ?_; clear HS1; rintro e w2 ⟨rfl, hh⟩
         have c0 := hh.at_ (List.mem_cons_self ..) 0 rfl
         have c1 := hh.at_ (List.mem_cons_self ..) 1 rfl
         have c2 := hh.at_ (List.mem_cons_self ..) 2 rfl
         have c3 := hh.at_ (List.mem_cons_self ..) 3 rfl
         have c4 := hh.at_ (List.mem_cons_self ..) 4 rfl
         have d00 := hh.kid hbl KC0.out.1
         have d01 := hh.kid hbl KC0.out.2.1
         have d02 := hh.kid hbl KC0.out.2.2.1
         have d03 := hh.kid hbl KC0.out.2.2.2.1
         have d04 := hh.kid hbl KC0.out.2.2.2.2
         have d10 := hh.kid hbl KC1.out.1
         have d11 := hh.kid hbl KC1.out.2.1
         have d12 := hh.kid hbl KC1.out.2.2.1
         have d13 := hh.kid hbl KC1.out.2.2.2.1
         have d14 := hh.kid hbl KC1.out.2.2.2.2
         have HS2 := Lib.hid hh
         clear hh)
      | (go_at_call 79; refine (HS2.out.call (block_any h1 _ HY1.out _ inn _ bp _ hi HS2.out.pr HS2.out.len (HS2.out.lies HL1.out))).mono ?_; rintro e w3 ⟨rfl, hf⟩))
  go_end0
  exact hf.fin

set_option maxHeartbeats 4000000 in
set_option maxRecDepth 100000 in
theorem loop_range1 {s : ByteArray} {n : Int} {y0 y1 y2 y3 : Nd} {ys : List Nd} (hn1 : y1.kind = 16) (h2 : y2.kind ≠ 16 → CanB y2) (h3 : ∀ y ∈ y3.kids, CanS y) (t : Nd) (htc : t.strip = .mk 24 s n 0 (y0 :: y1 :: y2 :: y3 :: ys)) (v : Value) (inn : Int) (x : WX) (bp : Nat) (w : World) (hi : okI inn) (h : PrAt bp x.1 x.2 w) (hlen : x.1.length ≤ 60000) (hl : Lies w bp t v) :
    Calls Tryz.prog 78 #[.pointer (some ⟨bp, 0, none⟩), v, .int .i64 inn] w (WrPost bp (blockF y3 inn (headF y2 inn (putL (putL x [⟨#[102, 111, 114, 32]⟩, nameS y0.kind y0.text]) [⟨#[32, 105, 110, 32]⟩]))) w) := by
  have HTC := Lib.hid htc
  have HL := Lib.hid hl
  obtain ⟨k', s', n', a, ks⟩ := t
  obtain ⟨rfl, rfl, rfl, hks⟩ := strip_mk htc
  obtain ⟨⟨k0, s0, n0, a0, ks0⟩, tr0, rfl, hy0, hks⟩ := stripL_cons hks
  have HY0 := Lib.hid hy0
  clear hy0
  obtain ⟨⟨k1, s1, n1, a1, ks1⟩, tr1, rfl, hy1, hks⟩ := stripL_cons hks
  have HY1 := Lib.hid hy1
  clear hy1
  obtain ⟨⟨k2, s2, n2, a2, ks2⟩, tr2, rfl, hy2, hks⟩ := stripL_cons hks
  have HY2 := Lib.hid hy2
  clear hy2
  obtain ⟨⟨k3, s3, n3, a3, ks3⟩, tr3, rfl, hy3, hks⟩ := stripL_cons hks
  have HY3 := Lib.hid hy3
  clear hy3
  have HKS := Lib.hid hks
  unfold Lies at hl
  obtain ⟨A, cap, rfl, _, _, _, hsz, hcl, hcc, hkl⟩ := hl
  obtain ⟨b, o, rfl, hbl, hkl⟩ := kids_some hkl
  obtain ⟨A0, cap0, hKC0, hL0⟩ := LiesL.kid0 rfl hkl
  have KC0 := Lib.hid hKC0
  have HL0 := Lib.hid hL0
  have hsz0 := hL0.size
  clear hKC0 hL0
  obtain ⟨A1, cap1, hKC1, hL1⟩ := LiesL.kidm 1 5 rfl rfl hkl
  have KC1 := Lib.hid hKC1
  have HL1 := Lib.hid hL1
  have hsz1 := hL1.size
  clear hKC1 hL1
  obtain ⟨A2, cap2, hKC2, hL2⟩ := LiesL.kidm 2 10 rfl rfl hkl
  have KC2 := Lib.hid hKC2
  have HL2 := Lib.hid hL2
  have hsz2 := hL2.size
  clear hKC2 hL2
  obtain ⟨A3, cap3, hKC3, hL3⟩ := LiesL.kidm 3 15 rfl rfl hkl
  have KC3 := Lib.hid hKC3
  have HL3 := Lib.hid hL3
  have hsz3 := hL3.size
  clear hKC3 hL3
  have HKL := Lib.hid hkl
  have hs := PSt.init h hlen #[.int .i64 24, .string s, .int .i64 n, .int .i64 a, .slice (some ⟨b, o, none⟩) (.mk k0 s0 n0 a0 ks0 :: .mk k1 s1 n1 a1 ks1 :: .mk k2 s2 n2 a2 ks2 :: .mk k3 s3 n3 a3 ks3 :: tr3 : List Nd).length cap]
  simp only [List.length_cons] at hcl hs ⊢
  have c0 := hs.at_ (List.mem_cons_self ..) 0 rfl
  have c1 := hs.at_ (List.mem_cons_self ..) 1 rfl
  have c2 := hs.at_ (List.mem_cons_self ..) 2 rfl
  have c3 := hs.at_ (List.mem_cons_self ..) 3 rfl
  have c4 := hs.at_ (List.mem_cons_self ..) 4 rfl
  have d00 := hs.kid hbl KC0.out.1
  have d01 := hs.kid hbl KC0.out.2.1
  have d02 := hs.kid hbl KC0.out.2.2.1
  have d03 := hs.kid hbl KC0.out.2.2.2.1
  have d04 := hs.kid hbl KC0.out.2.2.2.2
  have d10 := hs.kid hbl KC1.out.1
  have d11 := hs.kid hbl KC1.out.2.1
  have d12 := hs.kid hbl KC1.out.2.2.1
  have d13 := hs.kid hbl KC1.out.2.2.2.1
  have d14 := hs.kid hbl KC1.out.2.2.2.2
  have d20 := hs.kid hbl KC2.out.1
  have d21 := hs.kid hbl KC2.out.2.1
  have d22 := hs.kid hbl KC2.out.2.2.1
  have d23 := hs.kid hbl KC2.out.2.2.2.1
  have d24 := hs.kid hbl KC2.out.2.2.2.2
  have d30 := hs.kid hbl KC3.out.1
  have d31 := hs.kid hbl KC3.out.2.1
  have d32 := hs.kid hbl KC3.out.2.2.1
  have d33 := hs.kid hbl KC3.out.2.2.2.1
  have d34 := hs.kid hbl KC3.out.2.2.2.2
  have HS := Lib.hid hs
  clear h hs htc hks hkl
  have b0 : (0 : Int) < (tr3.length : Int) + 1 + 1 + 1 + 1 := by omega
  have b1 : (1 : Int) < (tr3.length : Int) + 1 + 1 + 1 + 1 := by omega
  have b2 : (2 : Int) < (tr3.length : Int) + 1 + 1 + 1 + 1 := by omega
  have b3 : (3 : Int) < (tr3.length : Int) + 1 + 1 + 1 + 1 := by omega
  have hnm := fun W => name_any k0 s0 n0 a0 A0 ks0.length cap0 W
  have hns := nameS_size (k := k0) hsz0
  have he : nameS y0.kind y0.text = nameS k0 s0 := by rw [← HY0.out, strip_kind, strip_text]; rfl
  rw [he]
  clear he
  obtain ⟨ns, HNS⟩ : ∃ ns, Hid (nameS k0 s0 = ns) := ⟨_, rfl⟩
  rw [HNS.out] at hns ⊢
  simp only [HNS.out] at hnm
  have HNM := Lib.hid hnm
  clear hnm
  have hk1 : k1 = 16 := by have h := hn1; rw [← HY1.out, strip_kind] at h; exact h
  subst hk1
  clear hn1
  go_enter Tryz.func78, Tryz.ntmps78
  go_wp2_with (first
      | (go_at_call 92; refine (HNM.out _).mono ?_; rintro e wn ⟨rfl, rfl⟩; have HSN := Lib.hid (HS.out.alloc (.cells #[.int .i64 k0, .string s0, .int .i64 n0, .int .i64 a0, .slice A0 ks0.length cap0] 24 (0, 0))); clear HS)
      | (go_at_call 49; refine (HSN.out.put2 ⟨#[102, 111, 114, 32]⟩ ns (by decide) hns).mono ?_; clear HSN; rintro e w1 ⟨rfl, hh⟩
         have c0 := hh.at_ (List.mem_cons_self ..) 0 rfl
         have c1 := hh.at_ (List.mem_cons_self ..) 1 rfl
         have c2 := hh.at_ (List.mem_cons_self ..) 2 rfl
         have c3 := hh.at_ (List.mem_cons_self ..) 3 rfl
         have c4 := hh.at_ (List.mem_cons_self ..) 4 rfl
         have d00 := hh.kid hbl KC0.out.1
         have d01 := hh.kid hbl KC0.out.2.1
         have d02 := hh.kid hbl KC0.out.2.2.1
         have d03 := hh.kid hbl KC0.out.2.2.2.1
         have d04 := hh.kid hbl KC0.out.2.2.2.2
         have d10 := hh.kid hbl KC1.out.1
         have d11 := hh.kid hbl KC1.out.2.1
         have d12 := hh.kid hbl KC1.out.2.2.1
         have d13 := hh.kid hbl KC1.out.2.2.2.1
         have d14 := hh.kid hbl KC1.out.2.2.2.2
         have d20 := hh.kid hbl KC2.out.1
         have d21 := hh.kid hbl KC2.out.2.1
         have d22 := hh.kid hbl KC2.out.2.2.1
         have d23 := hh.kid hbl KC2.out.2.2.2.1
         have d24 := hh.kid hbl KC2.out.2.2.2.2
         have d30 := hh.kid hbl KC3.out.1
         have d31 := hh.kid hbl KC3.out.2.1
         have d32 := hh.kid hbl KC3.out.2.2.1
         have d33 := hh.kid hbl KC3.out.2.2.2.1
         have d34 := hh.kid hbl KC3.out.2.2.2.2
         have HS1 := Lib.hid hh
         clear hh)
      | (go_at_call 49; refine (HS1.out.put1 ⟨#[32, 105, 110, 32]⟩ (by decide)).mono ?_; clear HS1; rintro e w2 ⟨rfl, hh⟩
         have c0 := hh.at_ (List.mem_cons_self ..) 0 rfl
         have c1 := hh.at_ (List.mem_cons_self ..) 1 rfl
         have c2 := hh.at_ (List.mem_cons_self ..) 2 rfl
         have c3 := hh.at_ (List.mem_cons_self ..) 3 rfl
         have c4 := hh.at_ (List.mem_cons_self ..) 4 rfl
         have d00 := hh.kid hbl KC0.out.1
         have d01 := hh.kid hbl KC0.out.2.1
         have d02 := hh.kid hbl KC0.out.2.2.1
         have d03 := hh.kid hbl KC0.out.2.2.2.1
         have d04 := hh.kid hbl KC0.out.2.2.2.2
         have d10 := hh.kid hbl KC1.out.1
         have d11 := hh.kid hbl KC1.out.2.1
         have d12 := hh.kid hbl KC1.out.2.2.1
         have d13 := hh.kid hbl KC1.out.2.2.2.1
         have d14 := hh.kid hbl KC1.out.2.2.2.2
         have d20 := hh.kid hbl KC2.out.1
         have d21 := hh.kid hbl KC2.out.2.1
         have d22 := hh.kid hbl KC2.out.2.2.1
         have d23 := hh.kid hbl KC2.out.2.2.2.1
         have d24 := hh.kid hbl KC2.out.2.2.2.2
         have d30 := hh.kid hbl KC3.out.1
         have d31 := hh.kid hbl KC3.out.2.1
         have d32 := hh.kid hbl KC3.out.2.2.1
         have d33 := hh.kid hbl KC3.out.2.2.2.1
         have d34 := hh.kid hbl KC3.out.2.2.2.2
         have HS2 := Lib.hid hh
         clear hh)
      | (go_at_call 80; refine (HS2.out.call (head_any h2 _ HY2.out _ inn _ bp _ hi HS2.out.pr HS2.out.len (HS2.out.lies HL2.out))).mono ?_; clear HS2; rintro e w3 ⟨rfl, hh⟩
         have c0 := hh.at_ (List.mem_cons_self ..) 0 rfl
         have c1 := hh.at_ (List.mem_cons_self ..) 1 rfl
         have c2 := hh.at_ (List.mem_cons_self ..) 2 rfl
         have c3 := hh.at_ (List.mem_cons_self ..) 3 rfl
         have c4 := hh.at_ (List.mem_cons_self ..) 4 rfl
         have d00 := hh.kid hbl KC0.out.1
         have d01 := hh.kid hbl KC0.out.2.1
         have d02 := hh.kid hbl KC0.out.2.2.1
         have d03 := hh.kid hbl KC0.out.2.2.2.1
         have d04 := hh.kid hbl KC0.out.2.2.2.2
         have d10 := hh.kid hbl KC1.out.1
         have d11 := hh.kid hbl KC1.out.2.1
         have d12 := hh.kid hbl KC1.out.2.2.1
         have d13 := hh.kid hbl KC1.out.2.2.2.1
         have d14 := hh.kid hbl KC1.out.2.2.2.2
         have d20 := hh.kid hbl KC2.out.1
         have d21 := hh.kid hbl KC2.out.2.1
         have d22 := hh.kid hbl KC2.out.2.2.1
         have d23 := hh.kid hbl KC2.out.2.2.2.1
         have d24 := hh.kid hbl KC2.out.2.2.2.2
         have d30 := hh.kid hbl KC3.out.1
         have d31 := hh.kid hbl KC3.out.2.1
         have d32 := hh.kid hbl KC3.out.2.2.1
         have d33 := hh.kid hbl KC3.out.2.2.2.1
         have d34 := hh.kid hbl KC3.out.2.2.2.2
         have HS3 := Lib.hid hh
         clear hh)
      | (go_at_call 79; refine (HS3.out.call (block_any h3 _ HY3.out _ inn _ bp _ hi HS3.out.pr HS3.out.len (HS3.out.lies HL3.out))).mono ?_; rintro e w4 ⟨rfl, hf⟩))
  go_end0
  exact hf.fin

set_option maxHeartbeats 4000000 in
set_option maxRecDepth 100000 in
theorem loop_range2 {s : ByteArray} {n : Int} {y0 y1 y2 y3 : Nd} {ys : List Nd} (hn1 : y1.kind ≠ 16) (h2 : y2.kind ≠ 16 → CanB y2) (h3 : ∀ y ∈ y3.kids, CanS y) (t : Nd) (htc : t.strip = .mk 24 s n 0 (y0 :: y1 :: y2 :: y3 :: ys)) (v : Value) (inn : Int) (x : WX) (bp : Nat) (w : World) (hi : okI inn) (h : PrAt bp x.1 x.2 w) (hlen : x.1.length ≤ 60000) (hl : Lies w bp t v) :
    Calls Tryz.prog 78 #[.pointer (some ⟨bp, 0, none⟩), v, .int .i64 inn] w (WrPost bp (blockF y3 inn (headF y2 inn (putL (putL (putL x [⟨#[102, 111, 114, 32]⟩, nameS y0.kind y0.text]) [⟨#[44, 32]⟩, y1.text]) [⟨#[32, 105, 110, 32]⟩]))) w) := by
  have HTC := Lib.hid htc
  have HL := Lib.hid hl
  obtain ⟨k', s', n', a, ks⟩ := t
  obtain ⟨rfl, rfl, rfl, hks⟩ := strip_mk htc
  obtain ⟨⟨k0, s0, n0, a0, ks0⟩, tr0, rfl, hy0, hks⟩ := stripL_cons hks
  have HY0 := Lib.hid hy0
  clear hy0
  obtain ⟨⟨k1, s1, n1, a1, ks1⟩, tr1, rfl, hy1, hks⟩ := stripL_cons hks
  have HY1 := Lib.hid hy1
  clear hy1
  obtain ⟨⟨k2, s2, n2, a2, ks2⟩, tr2, rfl, hy2, hks⟩ := stripL_cons hks
  have HY2 := Lib.hid hy2
  clear hy2
  obtain ⟨⟨k3, s3, n3, a3, ks3⟩, tr3, rfl, hy3, hks⟩ := stripL_cons hks
  have HY3 := Lib.hid hy3
  clear hy3
  have HKS := Lib.hid hks
  unfold Lies at hl
  obtain ⟨A, cap, rfl, _, _, _, hsz, hcl, hcc, hkl⟩ := hl
  obtain ⟨b, o, rfl, hbl, hkl⟩ := kids_some hkl
  obtain ⟨A0, cap0, hKC0, hL0⟩ := LiesL.kid0 rfl hkl
  have KC0 := Lib.hid hKC0
  have HL0 := Lib.hid hL0
  have hsz0 := hL0.size
  clear hKC0 hL0
  obtain ⟨A1, cap1, hKC1, hL1⟩ := LiesL.kidm 1 5 rfl rfl hkl
  have KC1 := Lib.hid hKC1
  have HL1 := Lib.hid hL1
  have hsz1 := hL1.size
  clear hKC1 hL1
  obtain ⟨A2, cap2, hKC2, hL2⟩ := LiesL.kidm 2 10 rfl rfl hkl
  have KC2 := Lib.hid hKC2
  have HL2 := Lib.hid hL2
  have hsz2 := hL2.size
  clear hKC2 hL2
  obtain ⟨A3, cap3, hKC3, hL3⟩ := LiesL.kidm 3 15 rfl rfl hkl
  have KC3 := Lib.hid hKC3
  have HL3 := Lib.hid hL3
  have hsz3 := hL3.size
  clear hKC3 hL3
  have HKL := Lib.hid hkl
  have hs := PSt.init h hlen #[.int .i64 24, .string s, .int .i64 n, .int .i64 a, .slice (some ⟨b, o, none⟩) (.mk k0 s0 n0 a0 ks0 :: .mk k1 s1 n1 a1 ks1 :: .mk k2 s2 n2 a2 ks2 :: .mk k3 s3 n3 a3 ks3 :: tr3 : List Nd).length cap]
  simp only [List.length_cons] at hcl hs ⊢
  have c0 := hs.at_ (List.mem_cons_self ..) 0 rfl
  have c1 := hs.at_ (List.mem_cons_self ..) 1 rfl
  have c2 := hs.at_ (List.mem_cons_self ..) 2 rfl
  have c3 := hs.at_ (List.mem_cons_self ..) 3 rfl
  have c4 := hs.at_ (List.mem_cons_self ..) 4 rfl
  have d00 := hs.kid hbl KC0.out.1
  have d01 := hs.kid hbl KC0.out.2.1
  have d02 := hs.kid hbl KC0.out.2.2.1
  have d03 := hs.kid hbl KC0.out.2.2.2.1
  have d04 := hs.kid hbl KC0.out.2.2.2.2
  have d10 := hs.kid hbl KC1.out.1
  have d11 := hs.kid hbl KC1.out.2.1
  have d12 := hs.kid hbl KC1.out.2.2.1
  have d13 := hs.kid hbl KC1.out.2.2.2.1
  have d14 := hs.kid hbl KC1.out.2.2.2.2
  have d20 := hs.kid hbl KC2.out.1
  have d21 := hs.kid hbl KC2.out.2.1
  have d22 := hs.kid hbl KC2.out.2.2.1
  have d23 := hs.kid hbl KC2.out.2.2.2.1
  have d24 := hs.kid hbl KC2.out.2.2.2.2
  have d30 := hs.kid hbl KC3.out.1
  have d31 := hs.kid hbl KC3.out.2.1
  have d32 := hs.kid hbl KC3.out.2.2.1
  have d33 := hs.kid hbl KC3.out.2.2.2.1
  have d34 := hs.kid hbl KC3.out.2.2.2.2
  have HS := Lib.hid hs
  clear h hs htc hks hkl
  have b0 : (0 : Int) < (tr3.length : Int) + 1 + 1 + 1 + 1 := by omega
  have b1 : (1 : Int) < (tr3.length : Int) + 1 + 1 + 1 + 1 := by omega
  have b2 : (2 : Int) < (tr3.length : Int) + 1 + 1 + 1 + 1 := by omega
  have b3 : (3 : Int) < (tr3.length : Int) + 1 + 1 + 1 + 1 := by omega
  have hnm := fun W => name_any k0 s0 n0 a0 A0 ks0.length cap0 W
  have hns := nameS_size (k := k0) hsz0
  have he : nameS y0.kind y0.text = nameS k0 s0 := by rw [← HY0.out, strip_kind, strip_text]; rfl
  rw [he]
  clear he
  obtain ⟨ns, HNS⟩ : ∃ ns, Hid (nameS k0 s0 = ns) := ⟨_, rfl⟩
  rw [HNS.out] at hns ⊢
  simp only [HNS.out] at hnm
  have HNM := Lib.hid hnm
  clear hnm
  have hk1 : (k1 == 16) = false := by have h := hn1; rw [← HY1.out, strip_kind] at h; exact beq_eq_false_iff_ne.2 h
  clear hn1
  have ht1 : y1.text = s1 := by rw [← HY1.out, strip_text]; rfl
  rw [ht1]
  clear ht1
  go_enter Tryz.func78, Tryz.ntmps78
  go_wp2_with (first
      | (go_at_call 92; refine (HNM.out _).mono ?_; rintro e wn ⟨rfl, rfl⟩; have HSN := Lib.hid (HS.out.alloc (.cells #[.int .i64 k0, .string s0, .int .i64 n0, .int .i64 a0, .slice A0 ks0.length cap0] 24 (0, 0))); clear HS)
      | (go_at_call 49; refine (HSN.out.put2 ⟨#[102, 111, 114, 32]⟩ ns (by decide) hns).mono ?_; clear HSN; rintro e w1 ⟨rfl, hh⟩
         have c0 := hh.at_ (List.mem_cons_self ..) 0 rfl
         have c1 := hh.at_ (List.mem_cons_self ..) 1 rfl
         have c2 := hh.at_ (List.mem_cons_self ..) 2 rfl
         have c3 := hh.at_ (List.mem_cons_self ..) 3 rfl
         have c4 := hh.at_ (List.mem_cons_self ..) 4 rfl
         have d00 := hh.kid hbl KC0.out.1
         have d01 := hh.kid hbl KC0.out.2.1
         have d02 := hh.kid hbl KC0.out.2.2.1
         have d03 := hh.kid hbl KC0.out.2.2.2.1
         have d04 := hh.kid hbl KC0.out.2.2.2.2
         have d10 := hh.kid hbl KC1.out.1
         have d11 := hh.kid hbl KC1.out.2.1
         have d12 := hh.kid hbl KC1.out.2.2.1
         have d13 := hh.kid hbl KC1.out.2.2.2.1
         have d14 := hh.kid hbl KC1.out.2.2.2.2
         have d20 := hh.kid hbl KC2.out.1
         have d21 := hh.kid hbl KC2.out.2.1
         have d22 := hh.kid hbl KC2.out.2.2.1
         have d23 := hh.kid hbl KC2.out.2.2.2.1
         have d24 := hh.kid hbl KC2.out.2.2.2.2
         have d30 := hh.kid hbl KC3.out.1
         have d31 := hh.kid hbl KC3.out.2.1
         have d32 := hh.kid hbl KC3.out.2.2.1
         have d33 := hh.kid hbl KC3.out.2.2.2.1
         have d34 := hh.kid hbl KC3.out.2.2.2.2
         have HS1 := Lib.hid hh
         clear hh)
      | (go_at_call 49; refine (HS1.out.put2 ⟨#[44, 32]⟩ s1 (by decide) hsz1).mono ?_; clear HS1; rintro e w2 ⟨rfl, hh⟩
         have c0 := hh.at_ (List.mem_cons_self ..) 0 rfl
         have c1 := hh.at_ (List.mem_cons_self ..) 1 rfl
         have c2 := hh.at_ (List.mem_cons_self ..) 2 rfl
         have c3 := hh.at_ (List.mem_cons_self ..) 3 rfl
         have c4 := hh.at_ (List.mem_cons_self ..) 4 rfl
         have d00 := hh.kid hbl KC0.out.1
         have d01 := hh.kid hbl KC0.out.2.1
         have d02 := hh.kid hbl KC0.out.2.2.1
         have d03 := hh.kid hbl KC0.out.2.2.2.1
         have d04 := hh.kid hbl KC0.out.2.2.2.2
         have d10 := hh.kid hbl KC1.out.1
         have d11 := hh.kid hbl KC1.out.2.1
         have d12 := hh.kid hbl KC1.out.2.2.1
         have d13 := hh.kid hbl KC1.out.2.2.2.1
         have d14 := hh.kid hbl KC1.out.2.2.2.2
         have d20 := hh.kid hbl KC2.out.1
         have d21 := hh.kid hbl KC2.out.2.1
         have d22 := hh.kid hbl KC2.out.2.2.1
         have d23 := hh.kid hbl KC2.out.2.2.2.1
         have d24 := hh.kid hbl KC2.out.2.2.2.2
         have d30 := hh.kid hbl KC3.out.1
         have d31 := hh.kid hbl KC3.out.2.1
         have d32 := hh.kid hbl KC3.out.2.2.1
         have d33 := hh.kid hbl KC3.out.2.2.2.1
         have d34 := hh.kid hbl KC3.out.2.2.2.2
         have HS2 := Lib.hid hh
         clear hh)
      | (go_at_call 49; refine (HS2.out.put1 ⟨#[32, 105, 110, 32]⟩ (by decide)).mono ?_; clear HS2; rintro e w3 ⟨rfl, hh⟩
         have c0 := hh.at_ (List.mem_cons_self ..) 0 rfl
         have c1 := hh.at_ (List.mem_cons_self ..) 1 rfl
         have c2 := hh.at_ (List.mem_cons_self ..) 2 rfl
         have c3 := hh.at_ (List.mem_cons_self ..) 3 rfl
         have c4 := hh.at_ (List.mem_cons_self ..) 4 rfl
         have d00 := hh.kid hbl KC0.out.1
         have d01 := hh.kid hbl KC0.out.2.1
         have d02 := hh.kid hbl KC0.out.2.2.1
         have d03 := hh.kid hbl KC0.out.2.2.2.1
         have d04 := hh.kid hbl KC0.out.2.2.2.2
         have d10 := hh.kid hbl KC1.out.1
         have d11 := hh.kid hbl KC1.out.2.1
         have d12 := hh.kid hbl KC1.out.2.2.1
         have d13 := hh.kid hbl KC1.out.2.2.2.1
         have d14 := hh.kid hbl KC1.out.2.2.2.2
         have d20 := hh.kid hbl KC2.out.1
         have d21 := hh.kid hbl KC2.out.2.1
         have d22 := hh.kid hbl KC2.out.2.2.1
         have d23 := hh.kid hbl KC2.out.2.2.2.1
         have d24 := hh.kid hbl KC2.out.2.2.2.2
         have d30 := hh.kid hbl KC3.out.1
         have d31 := hh.kid hbl KC3.out.2.1
         have d32 := hh.kid hbl KC3.out.2.2.1
         have d33 := hh.kid hbl KC3.out.2.2.2.1
         have d34 := hh.kid hbl KC3.out.2.2.2.2
         have HS3 := Lib.hid hh
         clear hh)
      | (go_at_call 80; refine (HS3.out.call (head_any h2 _ HY2.out _ inn _ bp _ hi HS3.out.pr HS3.out.len (HS3.out.lies HL2.out))).mono ?_; clear HS3; rintro e w4 ⟨rfl, hh⟩
         have c0 := hh.at_ (List.mem_cons_self ..) 0 rfl
         have c1 := hh.at_ (List.mem_cons_self ..) 1 rfl
         have c2 := hh.at_ (List.mem_cons_self ..) 2 rfl
         have c3 := hh.at_ (List.mem_cons_self ..) 3 rfl
         have c4 := hh.at_ (List.mem_cons_self ..) 4 rfl
         have d00 := hh.kid hbl KC0.out.1
         have d01 := hh.kid hbl KC0.out.2.1
         have d02 := hh.kid hbl KC0.out.2.2.1
         have d03 := hh.kid hbl KC0.out.2.2.2.1
         have d04 := hh.kid hbl KC0.out.2.2.2.2
         have d10 := hh.kid hbl KC1.out.1
         have d11 := hh.kid hbl KC1.out.2.1
         have d12 := hh.kid hbl KC1.out.2.2.1
         have d13 := hh.kid hbl KC1.out.2.2.2.1
         have d14 := hh.kid hbl KC1.out.2.2.2.2
         have d20 := hh.kid hbl KC2.out.1
         have d21 := hh.kid hbl KC2.out.2.1
         have d22 := hh.kid hbl KC2.out.2.2.1
         have d23 := hh.kid hbl KC2.out.2.2.2.1
         have d24 := hh.kid hbl KC2.out.2.2.2.2
         have d30 := hh.kid hbl KC3.out.1
         have d31 := hh.kid hbl KC3.out.2.1
         have d32 := hh.kid hbl KC3.out.2.2.1
         have d33 := hh.kid hbl KC3.out.2.2.2.1
         have d34 := hh.kid hbl KC3.out.2.2.2.2
         have HS4 := Lib.hid hh
         clear hh)
      | (go_at_call 79; refine (HS4.out.call (block_any h3 _ HY3.out _ inn _ bp _ hi HS4.out.pr HS4.out.len (HS4.out.lies HL3.out))).mono ?_; rintro e w5 ⟨rfl, hf⟩))
  go_end0
  exact hf.fin

set_option maxHeartbeats 4000000 in
set_option maxRecDepth 100000 in
theorem loop_switch {s : ByteArray} {n : Int} {y0 : Nd} {ys : List Nd} (h0 : y0.kind ≠ 16 → CanB y0) (hc : ∀ y ∈ ys, CanC y) (t : Nd) (htc : t.strip = .mk 25 s n 0 (y0 :: ys)) (v : Value) (inn : Int) (x : WX) (bp : Nat) (w : World) (hi : okI inn) (h : PrAt bp x.1 x.2 w) (hlen : x.1.length ≤ 60000) (hl : Lies w bp t v) :
    Calls Tryz.prog 78 #[.pointer (some ⟨bp, 0, none⟩), v, .int .i64 inn] w (WrPost bp (putL (tabs inn.toNat (casesL ys inn (putL (headF y0 inn (putL x [⟨#[115, 119, 105, 116, 99, 104, 32]⟩])) [⟨#[123, 10]⟩]))) [⟨#[125]⟩]) w) := by
  have HTC := Lib.hid htc
  have HL := Lib.hid hl
  obtain ⟨k', s', n', a, ks⟩ := t
  obtain ⟨rfl, rfl, rfl, hks⟩ := strip_mk htc
  obtain ⟨⟨k0, s0, n0, a0, ks0⟩, tr0, rfl, hy0, hks⟩ := stripL_cons hks
  have HY0 := Lib.hid hy0
  clear hy0
  have HKS := Lib.hid hks
  unfold Lies at hl
  obtain ⟨A, cap, rfl, _, _, _, hsz, hcl, hcc, hkl⟩ := hl
  obtain ⟨b, o, rfl, hbl, hkl⟩ := kids_some hkl
  obtain ⟨A0, cap0, hKC0, hL0⟩ := LiesL.kid0 rfl hkl
  have KC0 := Lib.hid hKC0
  have HL0 := Lib.hid hL0
  have hsz0 := hL0.size
  clear hKC0 hL0
  have HKL := Lib.hid hkl
  have hs := PSt.init h hlen #[.int .i64 25, .string s, .int .i64 n, .int .i64 a, .slice (some ⟨b, o, none⟩) (.mk k0 s0 n0 a0 ks0 :: tr0 : List Nd).length cap]
  simp only [List.length_cons] at hcl hs ⊢
  have c0 := hs.at_ (List.mem_cons_self ..) 0 rfl
  have c1 := hs.at_ (List.mem_cons_self ..) 1 rfl
  have c2 := hs.at_ (List.mem_cons_self ..) 2 rfl
  have c3 := hs.at_ (List.mem_cons_self ..) 3 rfl
  have c4 := hs.at_ (List.mem_cons_self ..) 4 rfl
  have d00 := hs.kid hbl KC0.out.1
  have d01 := hs.kid hbl KC0.out.2.1
  have d02 := hs.kid hbl KC0.out.2.2.1
  have d03 := hs.kid hbl KC0.out.2.2.2.1
  have d04 := hs.kid hbl KC0.out.2.2.2.2
  have HS := Lib.hid hs
  clear h hs htc hks hkl
  have b0 : (0 : Int) < (tr0.length : Int) + 1 := by omega
  have hb1 : (1 : Int) ≤ (tr0.length : Int) + 1 := by omega
  have hb2 : (tr0.length : Int) + 1 ≤ cap := by omega
  have HCP := Lib.hid (show tr0.length ≤ cap - 1 by omega)
  have hcp2 : cap - 1 ≤ 9223372036854775807 := by omega
  go_enter Tryz.func78, Tryz.ntmps78
  go_wp2_with (first
      | (go_at_call 49; refine (HS.out.put1 ⟨#[115, 119, 105, 116, 99, 104, 32]⟩ (by decide)).mono ?_; clear HS; rintro e w1 ⟨rfl, hh⟩
         have c0 := hh.at_ (List.mem_cons_self ..) 0 rfl
         have c1 := hh.at_ (List.mem_cons_self ..) 1 rfl
         have c2 := hh.at_ (List.mem_cons_self ..) 2 rfl
         have c3 := hh.at_ (List.mem_cons_self ..) 3 rfl
         have c4 := hh.at_ (List.mem_cons_self ..) 4 rfl
         have d00 := hh.kid hbl KC0.out.1
         have d01 := hh.kid hbl KC0.out.2.1
         have d02 := hh.kid hbl KC0.out.2.2.1
         have d03 := hh.kid hbl KC0.out.2.2.2.1
         have d04 := hh.kid hbl KC0.out.2.2.2.2
         have HS1 := Lib.hid hh
         clear hh)
      | (go_at_call 80; refine (HS1.out.call (head_any h0 _ HY0.out _ inn _ bp _ hi HS1.out.pr HS1.out.len (HS1.out.lies HL0.out))).mono ?_; clear HS1; rintro e w2 ⟨rfl, hh⟩
         have c0 := hh.at_ (List.mem_cons_self ..) 0 rfl
         have c1 := hh.at_ (List.mem_cons_self ..) 1 rfl
         have c2 := hh.at_ (List.mem_cons_self ..) 2 rfl
         have c3 := hh.at_ (List.mem_cons_self ..) 3 rfl
         have c4 := hh.at_ (List.mem_cons_self ..) 4 rfl
         have d00 := hh.kid hbl KC0.out.1
         have d01 := hh.kid hbl KC0.out.2.1
         have d02 := hh.kid hbl KC0.out.2.2.1
         have d03 := hh.kid hbl KC0.out.2.2.2.1
         have d04 := hh.kid hbl KC0.out.2.2.2.2
         have HS2 := Lib.hid hh
         clear hh)
      | (go_at_call 93; refine (HS2.out.call (cases_any tr0 (by rw [HKS.out]; exact hc) _ _ inn _ bp _ hi HS2.out.pr HS2.out.len HCP.out hcp2 (HS2.out.tailIn hbl HKL.out hcl))).mono ?_; rintro e w3 ⟨rfl, hf⟩))
  all_goals go_end0
  all_goals (rw [HKS.out] at hf; exact hf.fin)

set_option maxHeartbeats 4000000 in
set_option maxRecDepth 100000 in
theorem loop_tswitch1 {s : ByteArray} {n : Int} {y0 y1 : Nd} {ys : List Nd} (hn0 : y0.kind = 16) (h1 : CanB y1) (hc : ∀ y ∈ ys, CanC y) (t : Nd) (htc : t.strip = .mk 26 s n 0 (y0 :: y1 :: ys)) (v : Value) (inn : Int) (x : WX) (bp : Nat) (w : World) (hi : okI inn) (h : PrAt bp x.1 x.2 w) (hlen : x.1.length ≤ 60000) (hl : Lies w bp t v) :
    Calls Tryz.prog 78 #[.pointer (some ⟨bp, 0, none⟩), v, .int .i64 inn] w (WrPost bp (putL (tabs inn.toNat (casesL ys inn (putL (putL (exprF y1 (decide (levelB y1.kind y1.text < 7)) inn true (putL x [⟨#[115, 119, 105, 116, 99, 104, 32]⟩])) [⟨#[46, 40, 116, 121, 112, 101, 41, 32]⟩]) [⟨#[123, 10]⟩]))) [⟨#[125]⟩]) w) := by
  have HTC := Lib.hid htc
  have HL := Lib.hid hl
  obtain ⟨k', s', n', a, ks⟩ := t
  obtain ⟨rfl, rfl, rfl, hks⟩ := strip_mk htc
  obtain ⟨⟨k0, s0, n0, a0, ks0⟩, tr0, rfl, hy0, hks⟩ := stripL_cons hks
  have HY0 := Lib.hid hy0
  clear hy0
  obtain ⟨⟨k1, s1, n1, a1, ks1⟩, tr1, rfl, hy1, hks⟩ := stripL_cons hks
  have HY1 := Lib.hid hy1
  clear hy1
  have HKS := Lib.hid hks
  unfold Lies at hl
  obtain ⟨A, cap, rfl, _, _, _, hsz, hcl, hcc, hkl⟩ := hl
  obtain ⟨b, o, rfl, hbl, hkl⟩ := kids_some hkl
  obtain ⟨A0, cap0, hKC0, hL0⟩ := LiesL.kid0 rfl hkl
  have KC0 := Lib.hid hKC0
  have HL0 := Lib.hid hL0
  have hsz0 := hL0.size
  clear hKC0 hL0
  obtain ⟨A1, cap1, hKC1, hL1⟩ := LiesL.kidm 1 5 rfl rfl hkl
  have KC1 := Lib.hid hKC1
  have HL1 := Lib.hid hL1
  have hsz1 := hL1.size
  clear hKC1 hL1
  have HKL := Lib.hid hkl
  have hs := PSt.init h hlen #[.int .i64 26, .string s, .int .i64 n, .int .i64 a, .slice (some ⟨b, o, none⟩) (.mk k0 s0 n0 a0 ks0 :: .mk k1 s1 n1 a1 ks1 :: tr1 : List Nd).length cap]
  simp only [List.length_cons] at hcl hs ⊢
  have c0 := hs.at_ (List.mem_cons_self ..) 0 rfl
  have c1 := hs.at_ (List.mem_cons_self ..) 1 rfl
  have c2 := hs.at_ (List.mem_cons_self ..) 2 rfl
  have c3 := hs.at_ (List.mem_cons_self ..) 3 rfl
  have c4 := hs.at_ (List.mem_cons_self ..) 4 rfl
  have d00 := hs.kid hbl KC0.out.1
  have d01 := hs.kid hbl KC0.out.2.1
  have d02 := hs.kid hbl KC0.out.2.2.1
  have d03 := hs.kid hbl KC0.out.2.2.2.1
  have d04 := hs.kid hbl KC0.out.2.2.2.2
  have d10 := hs.kid hbl KC1.out.1
  have d11 := hs.kid hbl KC1.out.2.1
  have d12 := hs.kid hbl KC1.out.2.2.1
  have d13 := hs.kid hbl KC1.out.2.2.2.1
  have d14 := hs.kid hbl KC1.out.2.2.2.2
  have HS := Lib.hid hs
  clear h hs htc hks hkl
  have b0 : (0 : Int) < (tr1.length : Int) + 1 + 1 := by omega
  have b1 : (1 : Int) < (tr1.length : Int) + 1 + 1 := by omega
  have hk0 : (k0 == 16) = true := by have h := hn0; rw [← HY0.out, strip_kind] at h; exact beq_iff_eq.2 h
  clear hn0
  obtain ⟨lv1, HLV1⟩ : ∃ lv, Hid (levelB k1 s1 = lv) := ⟨_, rfl⟩
  have hlc := fun W => level_any k1 s1 n1 a1 A1 ks1.length cap1 W
  rw [HLV1.out] at hlc
  have HLC1 := Lib.hid hlc
  clear hlc
  have hel : levelB y1.kind y1.text = lv1 := by rw [← HY1.out, strip_kind, strip_text]; exact HLV1.out
  rw [hel]
  clear hel
  have hb2 : (2 : Int) ≤ (tr1.length : Int) + 1 + 1 := by omega
  have hb3 : (tr1.length : Int) + 1 + 1 ≤ cap := by omega
  have HCP := Lib.hid (show tr1.length ≤ cap - 2 by omega)
  have hcp2 : cap - 2 ≤ 9223372036854775807 := by omega
  obtain ⟨z, HZ⟩ : ∃ z, Hid (exprF y1 (decide (lv1 < 7)) inn true (putL x [⟨#[115, 119, 105, 116, 99, 104, 32]⟩]) = z) := ⟨_, rfl⟩
  rw [HZ.out]
  go_enter Tryz.func78, Tryz.ntmps78
  go_upto_region 21 with (first
      | (go_at_call 49; refine (HS.out.put1 ⟨#[115, 119, 105, 116, 99, 104, 32]⟩ (by decide)).mono ?_; clear HS; rintro e w1 ⟨rfl, hh⟩
         have c0 := hh.at_ (List.mem_cons_self ..) 0 rfl
         have c1 := hh.at_ (List.mem_cons_self ..) 1 rfl
         have c2 := hh.at_ (List.mem_cons_self ..) 2 rfl
         have c3 := hh.at_ (List.mem_cons_self ..) 3 rfl
         have c4 := hh.at_ (List.mem_cons_self ..) 4 rfl
         have d00 := hh.kid hbl KC0.out.1
         have d01 := hh.kid hbl KC0.out.2.1
         have d02 := hh.kid hbl KC0.out.2.2.1
         have d03 := hh.kid hbl KC0.out.2.2.2.1
         have d04 := hh.kid hbl KC0.out.2.2.2.2
         have d10 := hh.kid hbl KC1.out.1
         have d11 := hh.kid hbl KC1.out.2.1
         have d12 := hh.kid hbl KC1.out.2.2.1
         have d13 := hh.kid hbl KC1.out.2.2.2.1
         have d14 := hh.kid hbl KC1.out.2.2.2.2
         have HSA := Lib.hid hh
         clear hh))
  go_cut [] (fun wx => PSt bp w [(w.heap.size, #[.int .i64 26, .string s, .int .i64 n, .int .i64 a, .slice (some ⟨b, o, none⟩) (tr1.length + 1 + 1) cap])] z wx)
  case first =>
    have K : ∀ y W, PSt bp w [(w.heap.size, #[.int .i64 26, .string s, .int .i64 n, .int .i64 a, .slice (some ⟨b, o, none⟩) (tr1.length + 1 + 1) cap])] y W → (∃ y, PSt bp w [(w.heap.size, #[.int .i64 26, .string s, .int .i64 n, .int .i64 a, .slice (some ⟨b, o, none⟩) (tr1.length + 1 + 1) cap])] y W) ∧ W.cell? ⟨w.heap.size, 0, none⟩ = some (.int .i64 26) ∧ W.cell? ⟨w.heap.size, 1, none⟩ = some (.string s) ∧ W.cell? ⟨w.heap.size, 2, none⟩ = some (.int .i64 n) ∧ W.cell? ⟨w.heap.size, 3, none⟩ = some (.int .i64 a) ∧ W.cell? ⟨w.heap.size, 4, none⟩ = some (.slice (some ⟨b, o, none⟩) (tr1.length + 1 + 1) cap) ∧ W.cell? ⟨b, o, none⟩ = some (.int .i64 k0) ∧ W.cell? ⟨b, o + 1, none⟩ = some (.string s0) ∧ W.cell? ⟨b, o + 2, none⟩ = some (.int .i64 n0) ∧ W.cell? ⟨b, o + 3, none⟩ = some (.int .i64 a0) ∧ W.cell? ⟨b, o + 4, none⟩ = some (.slice A0 ks0.length cap0) ∧ W.cell? ⟨b, o + 5, none⟩ = some (.int .i64 k1) ∧ W.cell? ⟨b, o + 5 + 1, none⟩ = some (.string s1) ∧ W.cell? ⟨b, o + 5 + 2, none⟩ = some (.int .i64 n1) ∧ W.cell? ⟨b, o + 5 + 3, none⟩ = some (.int .i64 a1) ∧ W.cell? ⟨b, o + 5 + 4, none⟩ = some (.slice A1 ks1.length cap1) := fun y W hW => ⟨⟨_, hW⟩, hW.at_ (List.mem_cons_self ..) 0 rfl, hW.at_ (List.mem_cons_self ..) 1 rfl, hW.at_ (List.mem_cons_self ..) 2 rfl, hW.at_ (List.mem_cons_self ..) 3 rfl, hW.at_ (List.mem_cons_self ..) 4 rfl, hW.kid hbl KC0.out.1, hW.kid hbl KC0.out.2.1, hW.kid hbl KC0.out.2.2.1, hW.kid hbl KC0.out.2.2.2.1, hW.kid hbl KC0.out.2.2.2.2, hW.kid hbl KC1.out.1, hW.kid hbl KC1.out.2.1, hW.kid hbl KC1.out.2.2.1, hW.kid hbl KC1.out.2.2.2.1, hW.kid hbl KC1.out.2.2.2.2⟩
    have K' := Lib.hid K
    clear K
    go_region_held3 (fun W => (∃ y, PSt bp w [(w.heap.size, #[.int .i64 26, .string s, .int .i64 n, .int .i64 a, .slice (some ⟨b, o, none⟩) (tr1.length + 1 + 1) cap])] y W) ∧ W.cell? ⟨w.heap.size, 0, none⟩ = some (.int .i64 26) ∧ W.cell? ⟨w.heap.size, 1, none⟩ = some (.string s) ∧ W.cell? ⟨w.heap.size, 2, none⟩ = some (.int .i64 n) ∧ W.cell? ⟨w.heap.size, 3, none⟩ = some (.int .i64 a) ∧ W.cell? ⟨w.heap.size, 4, none⟩ = some (.slice (some ⟨b, o, none⟩) (tr1.length + 1 + 1) cap) ∧ W.cell? ⟨b, o, none⟩ = some (.int .i64 k0) ∧ W.cell? ⟨b, o + 1, none⟩ = some (.string s0) ∧ W.cell? ⟨b, o + 2, none⟩ = some (.int .i64 n0) ∧ W.cell? ⟨b, o + 3, none⟩ = some (.int .i64 a0) ∧ W.cell? ⟨b, o + 4, none⟩ = some (.slice A0 ks0.length cap0) ∧ W.cell? ⟨b, o + 5, none⟩ = some (.int .i64 k1) ∧ W.cell? ⟨b, o + 5 + 1, none⟩ = some (.string s1) ∧ W.cell? ⟨b, o + 5 + 2, none⟩ = some (.int .i64 n1) ∧ W.cell? ⟨b, o + 5 + 3, none⟩ = some (.int .i64 a1) ∧ W.cell? ⟨b, o + 5 + 4, none⟩ = some (.slice A1 ks1.length cap1))
      (first
        | exact K'.out _ _ HSA.out.drew
        | exact K'.out _ _ hp1
        | exact K'.out _ _ hf)
      (first
        | (go_at_call 84; refine (HLC1.out _).mono ?_; rintro e wl ⟨rfl, rfl⟩; have hp1 := HSA.out.drew.alloc (.cells #[.int .i64 k1, .string s1, .int .i64 n1, .int .i64 a1, .slice A1 ks1.length cap1] 24 (0, 0)))
        | (go_at_call 72; refine (hp1.call (expr_any h1 _ HY1.out _ _ inn true _ bp _ hi hp1.pr hp1.len (hp1.lies HL1.out))).mono ?_; rintro e w9 ⟨rfl, hf⟩))
    go_wp2_with fail
    go_meet
    rw [HZ.out] at hf
    exact hf
  case rest =>
    have hh := hcut
    clear hcut HSA
    have c0 := hh.at_ (List.mem_cons_self ..) 0 rfl
    have c1 := hh.at_ (List.mem_cons_self ..) 1 rfl
    have c2 := hh.at_ (List.mem_cons_self ..) 2 rfl
    have c3 := hh.at_ (List.mem_cons_self ..) 3 rfl
    have c4 := hh.at_ (List.mem_cons_self ..) 4 rfl
    have d00 := hh.kid hbl KC0.out.1
    have d01 := hh.kid hbl KC0.out.2.1
    have d02 := hh.kid hbl KC0.out.2.2.1
    have d03 := hh.kid hbl KC0.out.2.2.2.1
    have d04 := hh.kid hbl KC0.out.2.2.2.2
    have d10 := hh.kid hbl KC1.out.1
    have d11 := hh.kid hbl KC1.out.2.1
    have d12 := hh.kid hbl KC1.out.2.2.1
    have d13 := hh.kid hbl KC1.out.2.2.2.1
    have d14 := hh.kid hbl KC1.out.2.2.2.2
    have HSC := Lib.hid hh
    clear hh
    go_wp2_with (first
      | (go_at_call 49; refine (HSC.out.put1 ⟨#[46, 40, 116, 121, 112, 101, 41, 32]⟩ (by decide)).mono ?_; clear HSC; rintro e w1 ⟨rfl, hh⟩
         have c0 := hh.at_ (List.mem_cons_self ..) 0 rfl
         have c1 := hh.at_ (List.mem_cons_self ..) 1 rfl
         have c2 := hh.at_ (List.mem_cons_self ..) 2 rfl
         have c3 := hh.at_ (List.mem_cons_self ..) 3 rfl
         have c4 := hh.at_ (List.mem_cons_self ..) 4 rfl
         have d00 := hh.kid hbl KC0.out.1
         have d01 := hh.kid hbl KC0.out.2.1
         have d02 := hh.kid hbl KC0.out.2.2.1
         have d03 := hh.kid hbl KC0.out.2.2.2.1
         have d04 := hh.kid hbl KC0.out.2.2.2.2
         have d10 := hh.kid hbl KC1.out.1
         have d11 := hh.kid hbl KC1.out.2.1
         have d12 := hh.kid hbl KC1.out.2.2.1
         have d13 := hh.kid hbl KC1.out.2.2.2.1
         have d14 := hh.kid hbl KC1.out.2.2.2.2
         have HS1 := Lib.hid hh
         clear hh)
      | (go_at_call 93; refine (HS1.out.call (cases_any tr1 (by rw [HKS.out]; exact hc) _ _ inn _ bp _ hi HS1.out.pr HS1.out.len HCP.out hcp2 (HS1.out.tailIn2 hbl HKL.out hcl))).mono ?_; rintro e w2 ⟨rfl, hf⟩))
    all_goals go_end0
    all_goals (rw [HKS.out] at hf; exact hf.fin)

set_option maxHeartbeats 4000000 in
set_option maxRecDepth 100000 in
theorem loop_tswitch2 {s : ByteArray} {n : Int} {y0 y1 : Nd} {ys : List Nd} (hn0 : y0.kind ≠ 16) (h1 : CanB y1) (hc : ∀ y ∈ ys, CanC y) (t : Nd) (htc : t.strip = .mk 26 s n 0 (y0 :: y1 :: ys)) (v : Value) (inn : Int) (x : WX) (bp : Nat) (w : World) (hi : okI inn) (h : PrAt bp x.1 x.2 w) (hlen : x.1.length ≤ 60000) (hl : Lies w bp t v) :
    Calls Tryz.prog 78 #[.pointer (some ⟨bp, 0, none⟩), v, .int .i64 inn] w (WrPost bp (putL (tabs inn.toNat (casesL ys inn (putL (putL (exprF y1 (decide (levelB y1.kind y1.text < 7)) inn true (putL (putL x [⟨#[115, 119, 105, 116, 99, 104, 32]⟩]) [y0.text, ⟨#[32, 58, 61, 32]⟩])) [⟨#[46, 40, 116, 121, 112, 101, 41, 32]⟩]) [⟨#[123, 10]⟩]))) [⟨#[125]⟩]) w) := by
  have HTC := Lib.hid htc
  have HL := Lib.hid hl
  obtain ⟨k', s', n', a, ks⟩ := t
  obtain ⟨rfl, rfl, rfl, hks⟩ := strip_mk htc
  obtain ⟨⟨k0, s0, n0, a0, ks0⟩, tr0, rfl, hy0, hks⟩ := stripL_cons hks
  have HY0 := Lib.hid hy0
  clear hy0
  obtain ⟨⟨k1, s1, n1, a1, ks1⟩, tr1, rfl, hy1, hks⟩ := stripL_cons hks
  have HY1 := Lib.hid hy1
  clear hy1
  have HKS := Lib.hid hks
  unfold Lies at hl
  obtain ⟨A, cap, rfl, _, _, _, hsz, hcl, hcc, hkl⟩ := hl
  obtain ⟨b, o, rfl, hbl, hkl⟩ := kids_some hkl
  obtain ⟨A0, cap0, hKC0, hL0⟩ := LiesL.kid0 rfl hkl
  have KC0 := Lib.hid hKC0
  have HL0 := Lib.hid hL0
  have hsz0 := hL0.size
  clear hKC0 hL0
  obtain ⟨A1, cap1, hKC1, hL1⟩ := LiesL.kidm 1 5 rfl rfl hkl
  have KC1 := Lib.hid hKC1
  have HL1 := Lib.hid hL1
  have hsz1 := hL1.size
  clear hKC1 hL1
  have HKL := Lib.hid hkl
  have hs := PSt.init h hlen #[.int .i64 26, .string s, .int .i64 n, .int .i64 a, .slice (some ⟨b, o, none⟩) (.mk k0 s0 n0 a0 ks0 :: .mk k1 s1 n1 a1 ks1 :: tr1 : List Nd).length cap]
  simp only [List.length_cons] at hcl hs ⊢
  have c0 := hs.at_ (List.mem_cons_self ..) 0 rfl
  have c1 := hs.at_ (List.mem_cons_self ..) 1 rfl
  have c2 := hs.at_ (List.mem_cons_self ..) 2 rfl
  have c3 := hs.at_ (List.mem_cons_self ..) 3 rfl
  have c4 := hs.at_ (List.mem_cons_self ..) 4 rfl
  have d00 := hs.kid hbl KC0.out.1
  have d01 := hs.kid hbl KC0.out.2.1
  have d02 := hs.kid hbl KC0.out.2.2.1
  have d03 := hs.kid hbl KC0.out.2.2.2.1
  have d04 := hs.kid hbl KC0.out.2.2.2.2
  have d10 := hs.kid hbl KC1.out.1
  have d11 := hs.kid hbl KC1.out.2.1
  have d12 := hs.kid hbl KC1.out.2.2.1
  have d13 := hs.kid hbl KC1.out.2.2.2.1
  have d14 := hs.kid hbl KC1.out.2.2.2.2
  have HS := Lib.hid hs
  clear h hs htc hks hkl
  have b0 : (0 : Int) < (tr1.length : Int) + 1 + 1 := by omega
  have b1 : (1 : Int) < (tr1.length : Int) + 1 + 1 := by omega
  have hk0 : (k0 == 16) = false := by have h := hn0; rw [← HY0.out, strip_kind] at h; exact beq_eq_false_iff_ne.2 h
  clear hn0
  have ht0 : y0.text = s0 := by rw [← HY0.out, strip_text]; rfl
  rw [ht0]
  clear ht0
  obtain ⟨lv1, HLV1⟩ : ∃ lv, Hid (levelB k1 s1 = lv) := ⟨_, rfl⟩
  have hlc := fun W => level_any k1 s1 n1 a1 A1 ks1.length cap1 W
  rw [HLV1.out] at hlc
  have HLC1 := Lib.hid hlc
  clear hlc
  have hel : levelB y1.kind y1.text = lv1 := by rw [← HY1.out, strip_kind, strip_text]; exact HLV1.out
  rw [hel]
  clear hel
  have hb2 : (2 : Int) ≤ (tr1.length : Int) + 1 + 1 := by omega
  have hb3 : (tr1.length : Int) + 1 + 1 ≤ cap := by omega
  have HCP := Lib.hid (show tr1.length ≤ cap - 2 by omega)
  have hcp2 : cap - 2 ≤ 9223372036854775807 := by omega
  obtain ⟨z, HZ⟩ : ∃ z, Hid (exprF y1 (decide (lv1 < 7)) inn true (putL (putL x [⟨#[115, 119, 105, 116, 99, 104, 32]⟩]) [s0, ⟨#[32, 58, 61, 32]⟩]) = z) := ⟨_, rfl⟩
  rw [HZ.out]
  go_enter Tryz.func78, Tryz.ntmps78
  go_upto_region 21 with (first
      | (go_at_call 49; refine (HS.out.put1 ⟨#[115, 119, 105, 116, 99, 104, 32]⟩ (by decide)).mono ?_; clear HS; rintro e w1 ⟨rfl, hh⟩
         have c0 := hh.at_ (List.mem_cons_self ..) 0 rfl
         have c1 := hh.at_ (List.mem_cons_self ..) 1 rfl
         have c2 := hh.at_ (List.mem_cons_self ..) 2 rfl
         have c3 := hh.at_ (List.mem_cons_self ..) 3 rfl
         have c4 := hh.at_ (List.mem_cons_self ..) 4 rfl
         have d00 := hh.kid hbl KC0.out.1
         have d01 := hh.kid hbl KC0.out.2.1
         have d02 := hh.kid hbl KC0.out.2.2.1
         have d03 := hh.kid hbl KC0.out.2.2.2.1
         have d04 := hh.kid hbl KC0.out.2.2.2.2
         have d10 := hh.kid hbl KC1.out.1
         have d11 := hh.kid hbl KC1.out.2.1
         have d12 := hh.kid hbl KC1.out.2.2.1
         have d13 := hh.kid hbl KC1.out.2.2.2.1
         have d14 := hh.kid hbl KC1.out.2.2.2.2
         have HS1 := Lib.hid hh
         clear hh)
      | (go_at_call 49; refine (HS1.out.put2 s0 ⟨#[32, 58, 61, 32]⟩ hsz0 (by decide)).mono ?_; clear HS1; rintro e w2 ⟨rfl, hh⟩
         have c0 := hh.at_ (List.mem_cons_self ..) 0 rfl
         have c1 := hh.at_ (List.mem_cons_self ..) 1 rfl
         have c2 := hh.at_ (List.mem_cons_self ..) 2 rfl
         have c3 := hh.at_ (List.mem_cons_self ..) 3 rfl
         have c4 := hh.at_ (List.mem_cons_self ..) 4 rfl
         have d00 := hh.kid hbl KC0.out.1
         have d01 := hh.kid hbl KC0.out.2.1
         have d02 := hh.kid hbl KC0.out.2.2.1
         have d03 := hh.kid hbl KC0.out.2.2.2.1
         have d04 := hh.kid hbl KC0.out.2.2.2.2
         have d10 := hh.kid hbl KC1.out.1
         have d11 := hh.kid hbl KC1.out.2.1
         have d12 := hh.kid hbl KC1.out.2.2.1
         have d13 := hh.kid hbl KC1.out.2.2.2.1
         have d14 := hh.kid hbl KC1.out.2.2.2.2
         have HSA := Lib.hid hh
         clear hh))
  go_cut [] (fun wx => PSt bp w [(w.heap.size, #[.int .i64 26, .string s, .int .i64 n, .int .i64 a, .slice (some ⟨b, o, none⟩) (tr1.length + 1 + 1) cap])] z wx)
  case first =>
    have K : ∀ y W, PSt bp w [(w.heap.size, #[.int .i64 26, .string s, .int .i64 n, .int .i64 a, .slice (some ⟨b, o, none⟩) (tr1.length + 1 + 1) cap])] y W → (∃ y, PSt bp w [(w.heap.size, #[.int .i64 26, .string s, .int .i64 n, .int .i64 a, .slice (some ⟨b, o, none⟩) (tr1.length + 1 + 1) cap])] y W) ∧ W.cell? ⟨w.heap.size, 0, none⟩ = some (.int .i64 26) ∧ W.cell? ⟨w.heap.size, 1, none⟩ = some (.string s) ∧ W.cell? ⟨w.heap.size, 2, none⟩ = some (.int .i64 n) ∧ W.cell? ⟨w.heap.size, 3, none⟩ = some (.int .i64 a) ∧ W.cell? ⟨w.heap.size, 4, none⟩ = some (.slice (some ⟨b, o, none⟩) (tr1.length + 1 + 1) cap) ∧ W.cell? ⟨b, o, none⟩ = some (.int .i64 k0) ∧ W.cell? ⟨b, o + 1, none⟩ = some (.string s0) ∧ W.cell? ⟨b, o + 2, none⟩ = some (.int .i64 n0) ∧ W.cell? ⟨b, o + 3, none⟩ = some (.int .i64 a0) ∧ W.cell? ⟨b, o + 4, none⟩ = some (.slice A0 ks0.length cap0) ∧ W.cell? ⟨b, o + 5, none⟩ = some (.int .i64 k1) ∧ W.cell? ⟨b, o + 5 + 1, none⟩ = some (.string s1) ∧ W.cell? ⟨b, o + 5 + 2, none⟩ = some (.int .i64 n1) ∧ W.cell? ⟨b, o + 5 + 3, none⟩ = some (.int .i64 a1) ∧ W.cell? ⟨b, o + 5 + 4, none⟩ = some (.slice A1 ks1.length cap1) := fun y W hW => ⟨⟨_, hW⟩, hW.at_ (List.mem_cons_self ..) 0 rfl, hW.at_ (List.mem_cons_self ..) 1 rfl, hW.at_ (List.mem_cons_self ..) 2 rfl, hW.at_ (List.mem_cons_self ..) 3 rfl, hW.at_ (List.mem_cons_self ..) 4 rfl, hW.kid hbl KC0.out.1, hW.kid hbl KC0.out.2.1, hW.kid hbl KC0.out.2.2.1, hW.kid hbl KC0.out.2.2.2.1, hW.kid hbl KC0.out.2.2.2.2, hW.kid hbl KC1.out.1, hW.kid hbl KC1.out.2.1, hW.kid hbl KC1.out.2.2.1, hW.kid hbl KC1.out.2.2.2.1, hW.kid hbl KC1.out.2.2.2.2⟩
    have K' := Lib.hid K
    clear K
    go_region_held3 (fun W => (∃ y, PSt bp w [(w.heap.size, #[.int .i64 26, .string s, .int .i64 n, .int .i64 a, .slice (some ⟨b, o, none⟩) (tr1.length + 1 + 1) cap])] y W) ∧ W.cell? ⟨w.heap.size, 0, none⟩ = some (.int .i64 26) ∧ W.cell? ⟨w.heap.size, 1, none⟩ = some (.string s) ∧ W.cell? ⟨w.heap.size, 2, none⟩ = some (.int .i64 n) ∧ W.cell? ⟨w.heap.size, 3, none⟩ = some (.int .i64 a) ∧ W.cell? ⟨w.heap.size, 4, none⟩ = some (.slice (some ⟨b, o, none⟩) (tr1.length + 1 + 1) cap) ∧ W.cell? ⟨b, o, none⟩ = some (.int .i64 k0) ∧ W.cell? ⟨b, o + 1, none⟩ = some (.string s0) ∧ W.cell? ⟨b, o + 2, none⟩ = some (.int .i64 n0) ∧ W.cell? ⟨b, o + 3, none⟩ = some (.int .i64 a0) ∧ W.cell? ⟨b, o + 4, none⟩ = some (.slice A0 ks0.length cap0) ∧ W.cell? ⟨b, o + 5, none⟩ = some (.int .i64 k1) ∧ W.cell? ⟨b, o + 5 + 1, none⟩ = some (.string s1) ∧ W.cell? ⟨b, o + 5 + 2, none⟩ = some (.int .i64 n1) ∧ W.cell? ⟨b, o + 5 + 3, none⟩ = some (.int .i64 a1) ∧ W.cell? ⟨b, o + 5 + 4, none⟩ = some (.slice A1 ks1.length cap1))
      (first
        | exact K'.out _ _ HSA.out.drew
        | exact K'.out _ _ hp1
        | exact K'.out _ _ hf)
      (first
        | (go_at_call 84; refine (HLC1.out _).mono ?_; rintro e wl ⟨rfl, rfl⟩; have hp1 := HSA.out.drew.alloc (.cells #[.int .i64 k1, .string s1, .int .i64 n1, .int .i64 a1, .slice A1 ks1.length cap1] 24 (0, 0)))
        | (go_at_call 72; refine (hp1.call (expr_any h1 _ HY1.out _ _ inn true _ bp _ hi hp1.pr hp1.len (hp1.lies HL1.out))).mono ?_; rintro e w9 ⟨rfl, hf⟩))
    go_wp2_with fail
    go_meet
    rw [HZ.out] at hf
    exact hf
  case rest =>
    have hh := hcut
    clear hcut HSA
    have c0 := hh.at_ (List.mem_cons_self ..) 0 rfl
    have c1 := hh.at_ (List.mem_cons_self ..) 1 rfl
    have c2 := hh.at_ (List.mem_cons_self ..) 2 rfl
    have c3 := hh.at_ (List.mem_cons_self ..) 3 rfl
    have c4 := hh.at_ (List.mem_cons_self ..) 4 rfl
    have d00 := hh.kid hbl KC0.out.1
    have d01 := hh.kid hbl KC0.out.2.1
    have d02 := hh.kid hbl KC0.out.2.2.1
    have d03 := hh.kid hbl KC0.out.2.2.2.1
    have d04 := hh.kid hbl KC0.out.2.2.2.2
    have d10 := hh.kid hbl KC1.out.1
    have d11 := hh.kid hbl KC1.out.2.1
    have d12 := hh.kid hbl KC1.out.2.2.1
    have d13 := hh.kid hbl KC1.out.2.2.2.1
    have d14 := hh.kid hbl KC1.out.2.2.2.2
    have HSC := Lib.hid hh
    clear hh
    go_wp2_with (first
      | (go_at_call 49; refine (HSC.out.put1 ⟨#[46, 40, 116, 121, 112, 101, 41, 32]⟩ (by decide)).mono ?_; clear HSC; rintro e w1 ⟨rfl, hh⟩
         have c0 := hh.at_ (List.mem_cons_self ..) 0 rfl
         have c1 := hh.at_ (List.mem_cons_self ..) 1 rfl
         have c2 := hh.at_ (List.mem_cons_self ..) 2 rfl
         have c3 := hh.at_ (List.mem_cons_self ..) 3 rfl
         have c4 := hh.at_ (List.mem_cons_self ..) 4 rfl
         have d00 := hh.kid hbl KC0.out.1
         have d01 := hh.kid hbl KC0.out.2.1
         have d02 := hh.kid hbl KC0.out.2.2.1
         have d03 := hh.kid hbl KC0.out.2.2.2.1
         have d04 := hh.kid hbl KC0.out.2.2.2.2
         have d10 := hh.kid hbl KC1.out.1
         have d11 := hh.kid hbl KC1.out.2.1
         have d12 := hh.kid hbl KC1.out.2.2.1
         have d13 := hh.kid hbl KC1.out.2.2.2.1
         have d14 := hh.kid hbl KC1.out.2.2.2.2
         have HS1 := Lib.hid hh
         clear hh)
      | (go_at_call 93; refine (HS1.out.call (cases_any tr1 (by rw [HKS.out]; exact hc) _ _ inn _ bp _ hi HS1.out.pr HS1.out.len HCP.out hcp2 (HS1.out.tailIn2 hbl HKL.out hcl))).mono ?_; rintro e w2 ⟨rfl, hf⟩))
    all_goals go_end0
    all_goals (rw [HKS.out] at hf; exact hf.fin)
end Go.Proofs.YtjpmghgmmeemkaaGreatDoor
