/- The printer: decl, types. The printer: decl, functions, variables. -/
import Derived.Deep.RegionHeld3
import Derived.Test.YtjpmghgmmeemkaaGreatDoorJPrR
namespace Go.Proofs.YtjpmghgmmeemkaaGreatDoor
open Go.RowKit

/-- What decl writes of a tree up to its places. -/
def DeclIs (c : Nd) (f : WX → WX) : Prop := ∀ (t : Nd), t.strip = c → ∀ (v : Value) (x : WX) (bp : Nat) (w : World), PrAt bp x.1 x.2 w → x.1.length ≤ 60000 → Lies w bp t v →
  Calls Tryz.prog 48 #[.pointer (some ⟨bp, 0, none⟩), v] w (WrPost bp (f x) w)
open Classical in
noncomputable def declF (c : Nd) : WX → WX := if h : ∃ f, DeclIs c f then h.choose else fun x => x
def CanD (c : Nd) : Prop := DeclIs c (declF c)
theorem CanD.of {c : Nd} {f : WX → WX} (h : DeclIs c f) : CanD c := by
  have h' : ∃ f, DeclIs c f := ⟨f, h⟩
  unfold CanD declF
  rw [dif_pos h']
  exact h'.choose_spec
def membersF : List Nd → Bool → WX → WX
  | [], _, x => x
  | c :: r, prot, x => membersF r prot (putL (memberF c prot (putL x [⟨#[9]⟩])) [⟨#[10]⟩])

set_option maxHeartbeats 4000000 in
set_option maxRecDepth 100000 in
theorem decl_type {s : ByteArray} {n : Int} {y0 : Nd} {ys : List Nd} (t : Nd) (htc : t.strip = .mk 2 s n 0 (y0 :: ys)) (v : Value) (x : WX) (bp : Nat) (w : World) (h : PrAt bp x.1 x.2 w) (hlen : x.1.length ≤ 60000) (hl : Lies w bp t v) :
    Calls Tryz.prog 48 #[.pointer (some ⟨bp, 0, none⟩), v] w (WrPost bp (putL x [⟨#[116, 121, 112, 101, 32]⟩, s, ⟨#[32, 61, 32]⟩, y0.text]) w) := by
  have HTC := Lib.hid htc
  have HL := Lib.hid hl
  obtain ⟨k', s', n', a, ks⟩ := t
  obtain ⟨rfl, rfl, rfl, hks⟩ := strip_mk htc
  obtain ⟨⟨k0, s0, n0, a0, ks0⟩, tr0, rfl, hy0, hks⟩ := stripL_cons hks
  have HY0 := Lib.hid hy0
  clear hy0
  have HKS := Lib.hid hks
  unfold Lies at hl
  obtain ⟨A, cap, rfl, _, _, _, hsz, hcl, hcc, hkl⟩ := hl
  obtain ⟨b, o, rfl, hbl, hkl⟩ := kids_some hkl
  obtain ⟨A0, cap0, hKC0, hL0⟩ := LiesL.kid0 rfl hkl
  have KC0 := Lib.hid hKC0
  have HL0 := Lib.hid hL0
  have hsz0 := hL0.size
  clear hKC0 hL0
  have HKL := Lib.hid hkl
  have hs := PSt.init h hlen #[.int .i64 2, .string s, .int .i64 n, .int .i64 a, .slice (some ⟨b, o, none⟩) (.mk k0 s0 n0 a0 ks0 :: tr0 : List Nd).length cap]
  simp only [List.length_cons] at hcl hs ⊢
  have c0 := hs.at_ (List.mem_cons_self ..) 0 rfl
  have c1 := hs.at_ (List.mem_cons_self ..) 1 rfl
  have c2 := hs.at_ (List.mem_cons_self ..) 2 rfl
  have c3 := hs.at_ (List.mem_cons_self ..) 3 rfl
  have c4 := hs.at_ (List.mem_cons_self ..) 4 rfl
  have d00 := hs.kid hbl KC0.out.1
  have d01 := hs.kid hbl KC0.out.2.1
  have d02 := hs.kid hbl KC0.out.2.2.1
  have d03 := hs.kid hbl KC0.out.2.2.2.1
  have d04 := hs.kid hbl KC0.out.2.2.2.2
  have HS := Lib.hid hs
  clear h hs htc hks hkl
  have b0 : (0 : Int) < (tr0.length : Int) + 1 := by omega
  have ht0 : y0.text = s0 := by rw [← HY0.out, strip_text]; rfl
  rw [ht0]
  clear ht0
  go_enter Tryz.func48, Tryz.ntmps48
  go_upto_region 3 with fail
  have K : ∀ y W, PSt bp w [(w.heap.size, #[.int .i64 2, .string s, .int .i64 n, .int .i64 a, .slice (some ⟨b, o, none⟩) (tr0.length + 1) cap])] y W → (∃ y, PSt bp w [(w.heap.size, #[.int .i64 2, .string s, .int .i64 n, .int .i64 a, .slice (some ⟨b, o, none⟩) (tr0.length + 1) cap])] y W) ∧ W.cell? ⟨w.heap.size, 0, none⟩ = some (.int .i64 2) ∧ W.cell? ⟨w.heap.size, 1, none⟩ = some (.string s) ∧ W.cell? ⟨w.heap.size, 2, none⟩ = some (.int .i64 n) ∧ W.cell? ⟨w.heap.size, 3, none⟩ = some (.int .i64 a) ∧ W.cell? ⟨w.heap.size, 4, none⟩ = some (.slice (some ⟨b, o, none⟩) (tr0.length + 1) cap) ∧ W.cell? ⟨b, o, none⟩ = some (.int .i64 k0) ∧ W.cell? ⟨b, o + 1, none⟩ = some (.string s0) ∧ W.cell? ⟨b, o + 2, none⟩ = some (.int .i64 n0) ∧ W.cell? ⟨b, o + 3, none⟩ = some (.int .i64 a0) ∧ W.cell? ⟨b, o + 4, none⟩ = some (.slice A0 ks0.length cap0) := fun y W hW => ⟨⟨_, hW⟩, hW.at_ (List.mem_cons_self ..) 0 rfl, hW.at_ (List.mem_cons_self ..) 1 rfl, hW.at_ (List.mem_cons_self ..) 2 rfl, hW.at_ (List.mem_cons_self ..) 3 rfl, hW.at_ (List.mem_cons_self ..) 4 rfl, hW.kid hbl KC0.out.1, hW.kid hbl KC0.out.2.1, hW.kid hbl KC0.out.2.2.1, hW.kid hbl KC0.out.2.2.2.1, hW.kid hbl KC0.out.2.2.2.2⟩
  have K' := Lib.hid K
  clear K
  go_region_held3 (fun W => (∃ y, PSt bp w [(w.heap.size, #[.int .i64 2, .string s, .int .i64 n, .int .i64 a, .slice (some ⟨b, o, none⟩) (tr0.length + 1) cap])] y W) ∧ W.cell? ⟨w.heap.size, 0, none⟩ = some (.int .i64 2) ∧ W.cell? ⟨w.heap.size, 1, none⟩ = some (.string s) ∧ W.cell? ⟨w.heap.size, 2, none⟩ = some (.int .i64 n) ∧ W.cell? ⟨w.heap.size, 3, none⟩ = some (.int .i64 a) ∧ W.cell? ⟨w.heap.size, 4, none⟩ = some (.slice (some ⟨b, o, none⟩) (tr0.length + 1) cap) ∧ W.cell? ⟨b, o, none⟩ = some (.int .i64 k0) ∧ W.cell? ⟨b, o + 1, none⟩ = some (.string s0) ∧ W.cell? ⟨b, o + 2, none⟩ = some (.int .i64 n0) ∧ W.cell? ⟨b, o + 3, none⟩ = some (.int .i64 a0) ∧ W.cell? ⟨b, o + 4, none⟩ = some (.slice A0 ks0.length cap0))
    (first
      | exact K'.out _ _ HS.out.drew
      | exact K'.out _ _ (HS.out.drew.alloc _)
      | exact K'.out _ _ hf)
    (first
      | (go_at_call 49; refine (HS.out.drew.put4 ⟨#[116, 121, 112, 101, 32]⟩ s ⟨#[32, 61, 32]⟩ s0 (by decide) hsz (by decide) hsz0).mono ?_; rintro e w9 ⟨rfl, hf⟩))
  go_wp2_with fail
  go_end0
  exact hf.fin

set_option maxHeartbeats 4000000 in
set_option maxRecDepth 100000 in
theorem decl_members3 {s : ByteArray} {n : Int} {ys : List Nd} (hc : ∀ y ∈ ys, CanM y) (t : Nd) (htc : t.strip = .mk 3 s n 0 (ys)) (v : Value) (x : WX) (bp : Nat) (w : World) (h : PrAt bp x.1 x.2 w) (hlen : x.1.length ≤ 60000) (hl : Lies w bp t v) :
    Calls Tryz.prog 48 #[.pointer (some ⟨bp, 0, none⟩), v] w (WrPost bp (putL (membersF ys false (putL x [⟨#[116, 121, 112, 101, 32]⟩, s, ⟨#[32, 115, 116, 114, 117, 99, 116, 32, 123, 10]⟩])) [⟨#[125]⟩]) w) := by
  have HTC := Lib.hid htc
  have HL := Lib.hid hl
  obtain ⟨k', s', n', a, ks⟩ := t
  obtain ⟨rfl, rfl, rfl, hks⟩ := strip_mk htc
  have HKS := Lib.hid hks
  unfold Lies at hl
  obtain ⟨A, cap, rfl, _, _, _, hsz, hcl, hcc, hkl⟩ := hl
  have HKL := Lib.hid hkl
  have hs := PSt.init h hlen #[.int .i64 3, .string s, .int .i64 n, .int .i64 a, .slice A ks.length cap]
  have c0 := hs.at_ (List.mem_cons_self ..) 0 rfl
  have c1 := hs.at_ (List.mem_cons_self ..) 1 rfl
  have c2 := hs.at_ (List.mem_cons_self ..) 2 rfl
  have c3 := hs.at_ (List.mem_cons_self ..) 3 rfl
  have c4 := hs.at_ (List.mem_cons_self ..) 4 rfl
  have HS := Lib.hid hs
  clear h hs htc hks hkl
  obtain ⟨R, hR⟩ : ∃ R, membersF ys false (putL x [⟨#[116, 121, 112, 101, 32]⟩, s, ⟨#[32, 115, 116, 114, 117, 99, 116, 32, 123, 10]⟩]) = R := ⟨_, rfl⟩
  rw [hR]
  rw [← HKS.out] at hR
  have HR := Lib.hid hR
  clear hR
  go_enter Tryz.func48, Tryz.ntmps48
  go_wp2_with (go_at_call 49; refine (HS.out.put3 ⟨#[116, 121, 112, 101, 32]⟩ s ⟨#[32, 115, 116, 114, 117, 99, 116, 32, 123, 10]⟩ (by decide) hsz (by decide)).mono ?_; clear HS; rintro e w1 ⟨rfl, hh⟩; have c0 := hh.at_ (List.mem_cons_self ..) 0 rfl; have c1 := hh.at_ (List.mem_cons_self ..) 1 rfl; have c2 := hh.at_ (List.mem_cons_self ..) 2 rfl; have c3 := hh.at_ (List.mem_cons_self ..) 3 rfl; have c4 := hh.at_ (List.mem_cons_self ..) 4 rfl; have HSC := Lib.hid hh; clear hh)
  go_loopw [39] (fun i wr => ∃ (j : Nat) (y : WX), i = .int .i64 j ∧ j ≤ ks.length ∧ Hid (PSt bp w [(w.heap.size, #[.int .i64 3, .string s, .int .i64 n, .int .i64 a, .slice A ks.length cap])] y wr) ∧ Hid (membersF ((stripL ks).drop j) false y = R)) (fun i _ => ks.length - (intOf i).toNat)
  case atStart => exact ⟨0, _, rfl, by omega, HSC, HR⟩
  case round =>
    obtain ⟨j, y, rfl, hj, hs, hr⟩ := hrel
    by_cases hlt : j < ks.length
    · obtain ⟨b', o', rfl, hbl', hkl'⟩ : ∃ b o, A = some ⟨b, o, none⟩ ∧ b < bp ∧ LiesL w bp ks b o := by
        rcases HKL.out with h | h
        · subst h; simp at hlt
        · exact h
      obtain ⟨k', s', n', a', A2, cap2, ks', ht, f0, f1, f2, f3, f4, hLt⟩ := LiesL.get j hlt hkl'
      have hg : (stripL ks)[j]? = some (Nd.strip (.mk k' s' n' a' ks')) := by rw [stripL_get, ht]; rfl
      have hco := hc _ (by rw [← HKS.out]; exact List.mem_of_getElem? hg)
      have hd : (stripL ks).drop j = Nd.strip (.mk k' s' n' a' ks') :: (stripL ks).drop (j + 1) := drop_cons hg
      rw [hd] at hr
      have HCO := Lib.hid hco
      have HPS := Lib.hid (hs.out.push #[.int .i64 k', .string s', .int .i64 n', .int .i64 a', .slice A2 ks'.length cap2])
      have HLT := Lib.hid hLt
      have dd0 := hs.out.kid hbl' f0
      have dd1 := hs.out.kid hbl' f1
      have dd2 := hs.out.kid hbl' f2
      have dd3 := hs.out.kid hbl' f3
      have dd4 := hs.out.kid hbl' f4
      clear ht hLt hd hkl' hg hco f0 f1 f2 f3 f4
      have HR' := Lib.hid (show membersF ((stripL ks).drop (j + 1)) false (putL (memberF (Nd.strip (.mk k' s' n' a' ks')) false (putL y [⟨#[9]⟩])) [⟨#[10]⟩]) = R from hr.out)
      go_wp2_with (first
        | (go_at_call 49; refine (HPS.out.put1 ⟨#[9]⟩ (by decide)).mono ?_; rintro e w1 ⟨rfl, h1⟩
           have e0 := h1.at_ (List.mem_cons_self ..) 0 rfl
           have e1 := h1.at_ (List.mem_cons_self ..) 1 rfl
           have e2 := h1.at_ (List.mem_cons_self ..) 2 rfl
           have e3 := h1.at_ (List.mem_cons_self ..) 3 rfl
           have e4 := h1.at_ (List.mem_cons_self ..) 4 rfl
           have c0 := h1.at_ (List.mem_cons_of_mem _ (List.mem_cons_self ..)) 0 rfl
           have HS1 := Lib.hid h1
           clear h1 HPS)
        | (go_at_call 50; refine (HS1.out.call (member_any HCO.out _ rfl _ false _ bp _ HS1.out.pr HS1.out.len (HS1.out.lies HLT.out))).mono ?_; rintro e w2 ⟨rfl, h2⟩; have HS2 := Lib.hid h2; clear h2 HS1)
        | (go_at_call 49; refine (HS2.out.put1 ⟨#[10]⟩ (by decide)).mono ?_; rintro e w3 ⟨rfl, h3⟩))
      go_roundw
      case rel => exact ⟨j + 1, _, by go_num, by omega, Lib.hid ⟨h3.pr, h3.len, h3.pf, fun r hr => h3.rows r (List.mem_cons_of_mem _ hr)⟩, HR'⟩
      case measure => simp [intOf]; omega
    · obtain rfl : j = ks.length := by omega
      have hr' : y = R := by
        have h := hr.out
        rw [List.drop_of_length_le (by rw [stripL_length]; omega)] at h
        exact h
      subst hr'
      go_wp2_with (go_at_call 49; refine (hs.out.put1 ⟨#[125]⟩ (by decide)).mono ?_; rintro e w3 ⟨rfl, hf⟩)
      go_end0
      exact hf.fin

set_option maxHeartbeats 4000000 in
set_option maxRecDepth 100000 in
theorem decl_members4 {s : ByteArray} {n : Int} {ys : List Nd} (hc : ∀ y ∈ ys, CanM y) (t : Nd) (htc : t.strip = .mk 4 s n 0 (ys)) (v : Value) (x : WX) (bp : Nat) (w : World) (h : PrAt bp x.1 x.2 w) (hlen : x.1.length ≤ 60000) (hl : Lies w bp t v) :
    Calls Tryz.prog 48 #[.pointer (some ⟨bp, 0, none⟩), v] w (WrPost bp (putL (membersF ys true (putL x [⟨#[112, 114, 111, 116, 111, 99, 111, 108, 32]⟩, s, ⟨#[32, 123, 10]⟩])) [⟨#[125]⟩]) w) := by
  have HTC := Lib.hid htc
  have HL := Lib.hid hl
  obtain ⟨k', s', n', a, ks⟩ := t
  obtain ⟨rfl, rfl, rfl, hks⟩ := strip_mk htc
  have HKS := Lib.hid hks
  unfold Lies at hl
  obtain ⟨A, cap, rfl, _, _, _, hsz, hcl, hcc, hkl⟩ := hl
  have HKL := Lib.hid hkl
  have hs := PSt.init h hlen #[.int .i64 4, .string s, .int .i64 n, .int .i64 a, .slice A ks.length cap]
  have c0 := hs.at_ (List.mem_cons_self ..) 0 rfl
  have c1 := hs.at_ (List.mem_cons_self ..) 1 rfl
  have c2 := hs.at_ (List.mem_cons_self ..) 2 rfl
  have c3 := hs.at_ (List.mem_cons_self ..) 3 rfl
  have c4 := hs.at_ (List.mem_cons_self ..) 4 rfl
  have HS := Lib.hid hs
  clear h hs htc hks hkl
  obtain ⟨R, hR⟩ : ∃ R, membersF ys true (putL x [⟨#[112, 114, 111, 116, 111, 99, 111, 108, 32]⟩, s, ⟨#[32, 123, 10]⟩]) = R := ⟨_, rfl⟩
  rw [hR]
  rw [← HKS.out] at hR
  have HR := Lib.hid hR
  clear hR
  go_enter Tryz.func48, Tryz.ntmps48
  go_wp2_with (go_at_call 49; refine (HS.out.put3 ⟨#[112, 114, 111, 116, 111, 99, 111, 108, 32]⟩ s ⟨#[32, 123, 10]⟩ (by decide) hsz (by decide)).mono ?_; clear HS; rintro e w1 ⟨rfl, hh⟩; have c0 := hh.at_ (List.mem_cons_self ..) 0 rfl; have c1 := hh.at_ (List.mem_cons_self ..) 1 rfl; have c2 := hh.at_ (List.mem_cons_self ..) 2 rfl; have c3 := hh.at_ (List.mem_cons_self ..) 3 rfl; have c4 := hh.at_ (List.mem_cons_self ..) 4 rfl; have HSC := Lib.hid hh; clear hh)
  go_loopw [39] (fun i wr => ∃ (j : Nat) (y : WX), i = .int .i64 j ∧ j ≤ ks.length ∧ Hid (PSt bp w [(w.heap.size, #[.int .i64 4, .string s, .int .i64 n, .int .i64 a, .slice A ks.length cap])] y wr) ∧ Hid (membersF ((stripL ks).drop j) true y = R)) (fun i _ => ks.length - (intOf i).toNat)
  case atStart => exact ⟨0, _, rfl, by omega, HSC, HR⟩
  case round =>
    obtain ⟨j, y, rfl, hj, hs, hr⟩ := hrel
    by_cases hlt : j < ks.length
    · obtain ⟨b', o', rfl, hbl', hkl'⟩ : ∃ b o, A = some ⟨b, o, none⟩ ∧ b < bp ∧ LiesL w bp ks b o := by
        rcases HKL.out with h | h
        · subst h; simp at hlt
        · exact h
      obtain ⟨k', s', n', a', A2, cap2, ks', ht, f0, f1, f2, f3, f4, hLt⟩ := LiesL.get j hlt hkl'
      have hg : (stripL ks)[j]? = some (Nd.strip (.mk k' s' n' a' ks')) := by rw [stripL_get, ht]; rfl
      have hco := hc _ (by rw [← HKS.out]; exact List.mem_of_getElem? hg)
      have hd : (stripL ks).drop j = Nd.strip (.mk k' s' n' a' ks') :: (stripL ks).drop (j + 1) := drop_cons hg
      rw [hd] at hr
      have HCO := Lib.hid hco
      have HPS := Lib.hid (hs.out.push #[.int .i64 k', .string s', .int .i64 n', .int .i64 a', .slice A2 ks'.length cap2])
      have HLT := Lib.hid hLt
      have dd0 := hs.out.kid hbl' f0
      have dd1 := hs.out.kid hbl' f1
      have dd2 := hs.out.kid hbl' f2
      have dd3 := hs.out.kid hbl' f3
      have dd4 := hs.out.kid hbl' f4
      clear ht hLt hd hkl' hg hco f0 f1 f2 f3 f4
      have HR' := Lib.hid (show membersF ((stripL ks).drop (j + 1)) true (putL (memberF (Nd.strip (.mk k' s' n' a' ks')) true (putL y [⟨#[9]⟩])) [⟨#[10]⟩]) = R from hr.out)
      go_wp2_with (first
        | (go_at_call 49; refine (HPS.out.put1 ⟨#[9]⟩ (by decide)).mono ?_; rintro e w1 ⟨rfl, h1⟩
           have e0 := h1.at_ (List.mem_cons_self ..) 0 rfl
           have e1 := h1.at_ (List.mem_cons_self ..) 1 rfl
           have e2 := h1.at_ (List.mem_cons_self ..) 2 rfl
           have e3 := h1.at_ (List.mem_cons_self ..) 3 rfl
           have e4 := h1.at_ (List.mem_cons_self ..) 4 rfl
           have c0 := h1.at_ (List.mem_cons_of_mem _ (List.mem_cons_self ..)) 0 rfl
           have HS1 := Lib.hid h1
           clear h1 HPS)
        | (go_at_call 50; refine (HS1.out.call (member_any HCO.out _ rfl _ true _ bp _ HS1.out.pr HS1.out.len (HS1.out.lies HLT.out))).mono ?_; rintro e w2 ⟨rfl, h2⟩; have HS2 := Lib.hid h2; clear h2 HS1)
        | (go_at_call 49; refine (HS2.out.put1 ⟨#[10]⟩ (by decide)).mono ?_; rintro e w3 ⟨rfl, h3⟩))
      go_roundw
      case rel => exact ⟨j + 1, _, by go_num, by omega, Lib.hid ⟨h3.pr, h3.len, h3.pf, fun r hr => h3.rows r (List.mem_cons_of_mem _ hr)⟩, HR'⟩
      case measure => simp [intOf]; omega
    · obtain rfl : j = ks.length := by omega
      have hr' : y = R := by
        have h := hr.out
        rw [List.drop_of_length_le (by rw [stripL_length]; omega)] at h
        exact h
      subst hr'
      go_wp2_with (go_at_call 49; refine (hs.out.put1 ⟨#[125]⟩ (by decide)).mono ?_; rintro e w3 ⟨rfl, hf⟩)
      go_end0
      exact hf.fin
end Go.Proofs.YtjpmghgmmeemkaaGreatDoor

namespace Go.Proofs.YtjpmghgmmeemkaaGreatDoor
open Go.RowKit

def CanRecv (c : Nd) : Prop := ∃ y ys, c.kids = y :: ys ∧ CanB y
noncomputable def recvF (c : Nd) (x : WX) : WX := match c.kids with
  | [] => x
  | y :: _ => bareF y 0 false (putL x [c.text, ⟨#[32]⟩])
theorem recv_any {c : Nd} (hc : CanRecv c) (t : Nd) (htc : t.strip = c) (v : Value) (x : WX) (bp : Nat) (w : World) (h : PrAt bp x.1 x.2 w) (hlen : x.1.length ≤ 60000) (hl : Lies w bp t v) :
    Calls Tryz.prog 51 #[.pointer (some ⟨bp, 0, none⟩), v] w (WrPost bp (recvF c x) w) := by
  obtain ⟨k, s, n, a, cs⟩ := c
  have ha : a = 0 := by
    obtain ⟨k', s', n', a', ks'⟩ := t
    simp only [Nd.strip, Nd.mk.injEq] at htc
    exact htc.2.2.2.1.symm
  subst ha
  obtain ⟨y, ys, h1, h2⟩ := hc
  have h1' : cs = y :: ys := h1
  subst h1'
  exact receiver_any h2 t htc v x bp w h hlen hl

set_option maxHeartbeats 4000000 in
set_option maxRecDepth 100000 in
theorem decl_func {s : ByteArray} {n : Int} {y0 y1 : Nd} {ys : List Nd} (hc : ∀ y ∈ y1.kids, CanS y) (t : Nd) (htc : t.strip = .mk 5 s n 0 (y0 :: y1 :: ys)) (v : Value) (x : WX) (bp : Nat) (w : World) (h : PrAt bp x.1 x.2 w) (hlen : x.1.length ≤ 60000) (hl : Lies w bp t v) :
    Calls Tryz.prog 48 #[.pointer (some ⟨bp, 0, none⟩), v] w (WrPost bp (funcF y0 y1 0 (putL x [⟨#[102, 117, 110, 99, 32]⟩, s])) w) := by
  have HTC := Lib.hid htc
  have HL := Lib.hid hl
  obtain ⟨k', s', n', a, ks⟩ := t
  obtain ⟨rfl, rfl, rfl, hks⟩ := strip_mk htc
  obtain ⟨⟨k0, s0, n0, a0, ks0⟩, tr0, rfl, hy0, hks⟩ := stripL_cons hks
  have HY0 := Lib.hid hy0
  clear hy0
  obtain ⟨⟨k1, s1, n1, a1, ks1⟩, tr1, rfl, hy1, hks⟩ := stripL_cons hks
  have HY1 := Lib.hid hy1
  clear hy1
  have HKS := Lib.hid hks
  unfold Lies at hl
  obtain ⟨A, cap, rfl, _, _, _, hsz, hcl, hcc, hkl⟩ := hl
  obtain ⟨b, o, rfl, hbl, hkl⟩ := kids_some hkl
  obtain ⟨A0, cap0, hKC0, hL0⟩ := LiesL.kid0 rfl hkl
  have KC0 := Lib.hid hKC0
  have HL0 := Lib.hid hL0
  have hsz0 := hL0.size
  clear hKC0 hL0
  obtain ⟨A1, cap1, hKC1, hL1⟩ := LiesL.kidm 1 5 rfl rfl hkl
  have KC1 := Lib.hid hKC1
  have HL1 := Lib.hid hL1
  have hsz1 := hL1.size
  clear hKC1 hL1
  have HKL := Lib.hid hkl
  have hs := PSt.init h hlen #[.int .i64 5, .string s, .int .i64 n, .int .i64 a, .slice (some ⟨b, o, none⟩) (.mk k0 s0 n0 a0 ks0 :: .mk k1 s1 n1 a1 ks1 :: tr1 : List Nd).length cap]
  simp only [List.length_cons] at hcl hs ⊢
  have c0 := hs.at_ (List.mem_cons_self ..) 0 rfl
  have c1 := hs.at_ (List.mem_cons_self ..) 1 rfl
  have c2 := hs.at_ (List.mem_cons_self ..) 2 rfl
  have c3 := hs.at_ (List.mem_cons_self ..) 3 rfl
  have c4 := hs.at_ (List.mem_cons_self ..) 4 rfl
  have d00 := hs.kid hbl KC0.out.1
  have d01 := hs.kid hbl KC0.out.2.1
  have d02 := hs.kid hbl KC0.out.2.2.1
  have d03 := hs.kid hbl KC0.out.2.2.2.1
  have d04 := hs.kid hbl KC0.out.2.2.2.2
  have d10 := hs.kid hbl KC1.out.1
  have d11 := hs.kid hbl KC1.out.2.1
  have d12 := hs.kid hbl KC1.out.2.2.1
  have d13 := hs.kid hbl KC1.out.2.2.2.1
  have d14 := hs.kid hbl KC1.out.2.2.2.2
  have HS := Lib.hid hs
  clear h hs htc hks hkl
  have b0 : (0 : Int) < (tr1.length : Int) + 1 + 1 := by omega
  have b1 : (1 : Int) < (tr1.length : Int) + 1 + 1 := by omega
  go_enter Tryz.func48, Tryz.ntmps48
  go_upto_region 19 with (first
      | (go_at_call 49; refine (HS.out.put2 ⟨#[102, 117, 110, 99, 32]⟩ s (by decide) hsz).mono ?_; clear HS; rintro e w1 ⟨rfl, hh⟩
         have c0 := hh.at_ (List.mem_cons_self ..) 0 rfl
         have c1 := hh.at_ (List.mem_cons_self ..) 1 rfl
         have c2 := hh.at_ (List.mem_cons_self ..) 2 rfl
         have c3 := hh.at_ (List.mem_cons_self ..) 3 rfl
         have c4 := hh.at_ (List.mem_cons_self ..) 4 rfl
         have d00 := hh.kid hbl KC0.out.1
         have d01 := hh.kid hbl KC0.out.2.1
         have d02 := hh.kid hbl KC0.out.2.2.1
         have d03 := hh.kid hbl KC0.out.2.2.2.1
         have d04 := hh.kid hbl KC0.out.2.2.2.2
         have d10 := hh.kid hbl KC1.out.1
         have d11 := hh.kid hbl KC1.out.2.1
         have d12 := hh.kid hbl KC1.out.2.2.1
         have d13 := hh.kid hbl KC1.out.2.2.2.1
         have d14 := hh.kid hbl KC1.out.2.2.2.2
         have HSA := Lib.hid hh
         clear hh))
  have K : ∀ y W, PSt bp w [(w.heap.size, #[.int .i64 5, .string s, .int .i64 n, .int .i64 a, .slice (some ⟨b, o, none⟩) (tr1.length + 1 + 1) cap])] y W → (∃ y, PSt bp w [(w.heap.size, #[.int .i64 5, .string s, .int .i64 n, .int .i64 a, .slice (some ⟨b, o, none⟩) (tr1.length + 1 + 1) cap])] y W) ∧ W.cell? ⟨w.heap.size, 0, none⟩ = some (.int .i64 5) ∧ W.cell? ⟨w.heap.size, 1, none⟩ = some (.string s) ∧ W.cell? ⟨w.heap.size, 2, none⟩ = some (.int .i64 n) ∧ W.cell? ⟨w.heap.size, 3, none⟩ = some (.int .i64 a) ∧ W.cell? ⟨w.heap.size, 4, none⟩ = some (.slice (some ⟨b, o, none⟩) (tr1.length + 1 + 1) cap) ∧ W.cell? ⟨b, o, none⟩ = some (.int .i64 k0) ∧ W.cell? ⟨b, o + 1, none⟩ = some (.string s0) ∧ W.cell? ⟨b, o + 2, none⟩ = some (.int .i64 n0) ∧ W.cell? ⟨b, o + 3, none⟩ = some (.int .i64 a0) ∧ W.cell? ⟨b, o + 4, none⟩ = some (.slice A0 ks0.length cap0) ∧ W.cell? ⟨b, o + 5, none⟩ = some (.int .i64 k1) ∧ W.cell? ⟨b, o + 5 + 1, none⟩ = some (.string s1) ∧ W.cell? ⟨b, o + 5 + 2, none⟩ = some (.int .i64 n1) ∧ W.cell? ⟨b, o + 5 + 3, none⟩ = some (.int .i64 a1) ∧ W.cell? ⟨b, o + 5 + 4, none⟩ = some (.slice A1 ks1.length cap1) := fun y W hW => ⟨⟨_, hW⟩, hW.at_ (List.mem_cons_self ..) 0 rfl, hW.at_ (List.mem_cons_self ..) 1 rfl, hW.at_ (List.mem_cons_self ..) 2 rfl, hW.at_ (List.mem_cons_self ..) 3 rfl, hW.at_ (List.mem_cons_self ..) 4 rfl, hW.kid hbl KC0.out.1, hW.kid hbl KC0.out.2.1, hW.kid hbl KC0.out.2.2.1, hW.kid hbl KC0.out.2.2.2.1, hW.kid hbl KC0.out.2.2.2.2, hW.kid hbl KC1.out.1, hW.kid hbl KC1.out.2.1, hW.kid hbl KC1.out.2.2.1, hW.kid hbl KC1.out.2.2.2.1, hW.kid hbl KC1.out.2.2.2.2⟩
  have K' := Lib.hid K
  clear K
  go_region_held3 (fun W => (∃ y, PSt bp w [(w.heap.size, #[.int .i64 5, .string s, .int .i64 n, .int .i64 a, .slice (some ⟨b, o, none⟩) (tr1.length + 1 + 1) cap])] y W) ∧ W.cell? ⟨w.heap.size, 0, none⟩ = some (.int .i64 5) ∧ W.cell? ⟨w.heap.size, 1, none⟩ = some (.string s) ∧ W.cell? ⟨w.heap.size, 2, none⟩ = some (.int .i64 n) ∧ W.cell? ⟨w.heap.size, 3, none⟩ = some (.int .i64 a) ∧ W.cell? ⟨w.heap.size, 4, none⟩ = some (.slice (some ⟨b, o, none⟩) (tr1.length + 1 + 1) cap) ∧ W.cell? ⟨b, o, none⟩ = some (.int .i64 k0) ∧ W.cell? ⟨b, o + 1, none⟩ = some (.string s0) ∧ W.cell? ⟨b, o + 2, none⟩ = some (.int .i64 n0) ∧ W.cell? ⟨b, o + 3, none⟩ = some (.int .i64 a0) ∧ W.cell? ⟨b, o + 4, none⟩ = some (.slice A0 ks0.length cap0) ∧ W.cell? ⟨b, o + 5, none⟩ = some (.int .i64 k1) ∧ W.cell? ⟨b, o + 5 + 1, none⟩ = some (.string s1) ∧ W.cell? ⟨b, o + 5 + 2, none⟩ = some (.int .i64 n1) ∧ W.cell? ⟨b, o + 5 + 3, none⟩ = some (.int .i64 a1) ∧ W.cell? ⟨b, o + 5 + 4, none⟩ = some (.slice A1 ks1.length cap1))
    (first
      | exact K'.out _ _ HSA.out.drew
      | exact K'.out _ _ hf)
    (first
      | (go_at_call 71; (with_reducible refine (HSA.out.drew.call (func_any hc _ _ HY0.out HY1.out _ _ 0 _ bp _ okI0 HSA.out.drew.pr HSA.out.drew.len (HSA.out.drew.lies HL0.out) (HSA.out.drew.lies HL1.out))).mono ?_); rintro e w9 ⟨rfl, hf⟩))
  go_wp2_with fail
  go_end0
  exact hf.fin

set_option maxHeartbeats 4000000 in
set_option maxRecDepth 100000 in
theorem decl_method {s : ByteArray} {n : Int} {y0 y1 y2 : Nd} {ys : List Nd} (hr : CanRecv y0) (hc : ∀ y ∈ y2.kids, CanS y) (t : Nd) (htc : t.strip = .mk 6 s n 0 (y0 :: y1 :: y2 :: ys)) (v : Value) (x : WX) (bp : Nat) (w : World) (h : PrAt bp x.1 x.2 w) (hlen : x.1.length ≤ 60000) (hl : Lies w bp t v) :
    Calls Tryz.prog 48 #[.pointer (some ⟨bp, 0, none⟩), v] w (WrPost bp (funcF y1 y2 0 (putL (recvF y0 (putL x [⟨#[102, 117, 110, 99, 32, 40]⟩])) [⟨#[41, 32]⟩, s])) w) := by
  have HTC := Lib.hid htc
  have HL := Lib.hid hl
  obtain ⟨k', s', n', a, ks⟩ := t
  obtain ⟨rfl, rfl, rfl, hks⟩ := strip_mk htc
  obtain ⟨⟨k0, s0, n0, a0, ks0⟩, tr0, rfl, hy0, hks⟩ := stripL_cons hks
  have HY0 := Lib.hid hy0
  clear hy0
  obtain ⟨⟨k1, s1, n1, a1, ks1⟩, tr1, rfl, hy1, hks⟩ := stripL_cons hks
  have HY1 := Lib.hid hy1
  clear hy1
  obtain ⟨⟨k2, s2, n2, a2, ks2⟩, tr2, rfl, hy2, hks⟩ := stripL_cons hks
  have HY2 := Lib.hid hy2
  clear hy2
  have HKS := Lib.hid hks
  unfold Lies at hl
  obtain ⟨A, cap, rfl, _, _, _, hsz, hcl, hcc, hkl⟩ := hl
  obtain ⟨b, o, rfl, hbl, hkl⟩ := kids_some hkl
  obtain ⟨A0, cap0, hKC0, hL0⟩ := LiesL.kid0 rfl hkl
  have KC0 := Lib.hid hKC0
  have HL0 := Lib.hid hL0
  have hsz0 := hL0.size
  clear hKC0 hL0
  obtain ⟨A1, cap1, hKC1, hL1⟩ := LiesL.kidm 1 5 rfl rfl hkl
  have KC1 := Lib.hid hKC1
  have HL1 := Lib.hid hL1
  have hsz1 := hL1.size
  clear hKC1 hL1
  obtain ⟨A2, cap2, hKC2, hL2⟩ := LiesL.kidm 2 10 rfl rfl hkl
  have KC2 := Lib.hid hKC2
  have HL2 := Lib.hid hL2
  have hsz2 := hL2.size
  clear hKC2 hL2
  have HKL := Lib.hid hkl
  have hs := PSt.init h hlen #[.int .i64 6, .string s, .int .i64 n, .int .i64 a, .slice (some ⟨b, o, none⟩) (.mk k0 s0 n0 a0 ks0 :: .mk k1 s1 n1 a1 ks1 :: .mk k2 s2 n2 a2 ks2 :: tr2 : List Nd).length cap]
  simp only [List.length_cons] at hcl hs ⊢
  have c0 := hs.at_ (List.mem_cons_self ..) 0 rfl
  have c1 := hs.at_ (List.mem_cons_self ..) 1 rfl
  have c2 := hs.at_ (List.mem_cons_self ..) 2 rfl
  have c3 := hs.at_ (List.mem_cons_self ..) 3 rfl
  have c4 := hs.at_ (List.mem_cons_self ..) 4 rfl
  have d00 := hs.kid hbl KC0.out.1
  have d01 := hs.kid hbl KC0.out.2.1
  have d02 := hs.kid hbl KC0.out.2.2.1
  have d03 := hs.kid hbl KC0.out.2.2.2.1
  have d04 := hs.kid hbl KC0.out.2.2.2.2
  have d10 := hs.kid hbl KC1.out.1
  have d11 := hs.kid hbl KC1.out.2.1
  have d12 := hs.kid hbl KC1.out.2.2.1
  have d13 := hs.kid hbl KC1.out.2.2.2.1
  have d14 := hs.kid hbl KC1.out.2.2.2.2
  have d20 := hs.kid hbl KC2.out.1
  have d21 := hs.kid hbl KC2.out.2.1
  have d22 := hs.kid hbl KC2.out.2.2.1
  have d23 := hs.kid hbl KC2.out.2.2.2.1
  have d24 := hs.kid hbl KC2.out.2.2.2.2
  have HS := Lib.hid hs
  clear h hs htc hks hkl
  have b0 : (0 : Int) < (tr2.length : Int) + 1 + 1 + 1 := by omega
  have b1 : (1 : Int) < (tr2.length : Int) + 1 + 1 + 1 := by omega
  have b2 : (2 : Int) < (tr2.length : Int) + 1 + 1 + 1 := by omega
  go_enter Tryz.func48, Tryz.ntmps48
  go_upto_region 24 with (first
      | (go_at_call 49; refine (HS.out.put1 ⟨#[102, 117, 110, 99, 32, 40]⟩ (by decide)).mono ?_; clear HS; rintro e w1 ⟨rfl, hh⟩
         have c0 := hh.at_ (List.mem_cons_self ..) 0 rfl
         have c1 := hh.at_ (List.mem_cons_self ..) 1 rfl
         have c2 := hh.at_ (List.mem_cons_self ..) 2 rfl
         have c3 := hh.at_ (List.mem_cons_self ..) 3 rfl
         have c4 := hh.at_ (List.mem_cons_self ..) 4 rfl
         have d00 := hh.kid hbl KC0.out.1
         have d01 := hh.kid hbl KC0.out.2.1
         have d02 := hh.kid hbl KC0.out.2.2.1
         have d03 := hh.kid hbl KC0.out.2.2.2.1
         have d04 := hh.kid hbl KC0.out.2.2.2.2
         have d10 := hh.kid hbl KC1.out.1
         have d11 := hh.kid hbl KC1.out.2.1
         have d12 := hh.kid hbl KC1.out.2.2.1
         have d13 := hh.kid hbl KC1.out.2.2.2.1
         have d14 := hh.kid hbl KC1.out.2.2.2.2
         have d20 := hh.kid hbl KC2.out.1
         have d21 := hh.kid hbl KC2.out.2.1
         have d22 := hh.kid hbl KC2.out.2.2.1
         have d23 := hh.kid hbl KC2.out.2.2.2.1
         have d24 := hh.kid hbl KC2.out.2.2.2.2
         have HS1 := Lib.hid hh
         clear hh)
      | (go_at_call 51; refine (HS1.out.call (recv_any hr _ HY0.out _ _ bp _ HS1.out.pr HS1.out.len (HS1.out.lies HL0.out))).mono ?_; clear HS1; rintro e w2 ⟨rfl, hh⟩
         have c0 := hh.at_ (List.mem_cons_self ..) 0 rfl
         have c1 := hh.at_ (List.mem_cons_self ..) 1 rfl
         have c2 := hh.at_ (List.mem_cons_self ..) 2 rfl
         have c3 := hh.at_ (List.mem_cons_self ..) 3 rfl
         have c4 := hh.at_ (List.mem_cons_self ..) 4 rfl
         have d00 := hh.kid hbl KC0.out.1
         have d01 := hh.kid hbl KC0.out.2.1
         have d02 := hh.kid hbl KC0.out.2.2.1
         have d03 := hh.kid hbl KC0.out.2.2.2.1
         have d04 := hh.kid hbl KC0.out.2.2.2.2
         have d10 := hh.kid hbl KC1.out.1
         have d11 := hh.kid hbl KC1.out.2.1
         have d12 := hh.kid hbl KC1.out.2.2.1
         have d13 := hh.kid hbl KC1.out.2.2.2.1
         have d14 := hh.kid hbl KC1.out.2.2.2.2
         have d20 := hh.kid hbl KC2.out.1
         have d21 := hh.kid hbl KC2.out.2.1
         have d22 := hh.kid hbl KC2.out.2.2.1
         have d23 := hh.kid hbl KC2.out.2.2.2.1
         have d24 := hh.kid hbl KC2.out.2.2.2.2
         have HS2 := Lib.hid hh
         clear hh)
      | (go_at_call 49; refine (HS2.out.put2 ⟨#[41, 32]⟩ s (by decide) hsz).mono ?_; clear HS2; rintro e w3 ⟨rfl, hh⟩
         have c0 := hh.at_ (List.mem_cons_self ..) 0 rfl
         have c1 := hh.at_ (List.mem_cons_self ..) 1 rfl
         have c2 := hh.at_ (List.mem_cons_self ..) 2 rfl
         have c3 := hh.at_ (List.mem_cons_self ..) 3 rfl
         have c4 := hh.at_ (List.mem_cons_self ..) 4 rfl
         have d00 := hh.kid hbl KC0.out.1
         have d01 := hh.kid hbl KC0.out.2.1
         have d02 := hh.kid hbl KC0.out.2.2.1
         have d03 := hh.kid hbl KC0.out.2.2.2.1
         have d04 := hh.kid hbl KC0.out.2.2.2.2
         have d10 := hh.kid hbl KC1.out.1
         have d11 := hh.kid hbl KC1.out.2.1
         have d12 := hh.kid hbl KC1.out.2.2.1
         have d13 := hh.kid hbl KC1.out.2.2.2.1
         have d14 := hh.kid hbl KC1.out.2.2.2.2
         have d20 := hh.kid hbl KC2.out.1
         have d21 := hh.kid hbl KC2.out.2.1
         have d22 := hh.kid hbl KC2.out.2.2.1
         have d23 := hh.kid hbl KC2.out.2.2.2.1
         have d24 := hh.kid hbl KC2.out.2.2.2.2
         have HSA := Lib.hid hh
         clear hh))
  have K : ∀ y W, PSt bp w [(w.heap.size, #[.int .i64 6, .string s, .int .i64 n, .int .i64 a, .slice (some ⟨b, o, none⟩) (tr2.length + 1 + 1 + 1) cap])] y W → (∃ y, PSt bp w [(w.heap.size, #[.int .i64 6, .string s, .int .i64 n, .int .i64 a, .slice (some ⟨b, o, none⟩) (tr2.length + 1 + 1 + 1) cap])] y W) ∧ W.cell? ⟨w.heap.size, 0, none⟩ = some (.int .i64 6) ∧ W.cell? ⟨w.heap.size, 1, none⟩ = some (.string s) ∧ W.cell? ⟨w.heap.size, 2, none⟩ = some (.int .i64 n) ∧ W.cell? ⟨w.heap.size, 3, none⟩ = some (.int .i64 a) ∧ W.cell? ⟨w.heap.size, 4, none⟩ = some (.slice (some ⟨b, o, none⟩) (tr2.length + 1 + 1 + 1) cap) ∧ W.cell? ⟨b, o, none⟩ = some (.int .i64 k0) ∧ W.cell? ⟨b, o + 1, none⟩ = some (.string s0) ∧ W.cell? ⟨b, o + 2, none⟩ = some (.int .i64 n0) ∧ W.cell? ⟨b, o + 3, none⟩ = some (.int .i64 a0) ∧ W.cell? ⟨b, o + 4, none⟩ = some (.slice A0 ks0.length cap0) ∧ W.cell? ⟨b, o + 5, none⟩ = some (.int .i64 k1) ∧ W.cell? ⟨b, o + 5 + 1, none⟩ = some (.string s1) ∧ W.cell? ⟨b, o + 5 + 2, none⟩ = some (.int .i64 n1) ∧ W.cell? ⟨b, o + 5 + 3, none⟩ = some (.int .i64 a1) ∧ W.cell? ⟨b, o + 5 + 4, none⟩ = some (.slice A1 ks1.length cap1) ∧ W.cell? ⟨b, o + 10, none⟩ = some (.int .i64 k2) ∧ W.cell? ⟨b, o + 10 + 1, none⟩ = some (.string s2) ∧ W.cell? ⟨b, o + 10 + 2, none⟩ = some (.int .i64 n2) ∧ W.cell? ⟨b, o + 10 + 3, none⟩ = some (.int .i64 a2) ∧ W.cell? ⟨b, o + 10 + 4, none⟩ = some (.slice A2 ks2.length cap2) := fun y W hW => ⟨⟨_, hW⟩, hW.at_ (List.mem_cons_self ..) 0 rfl, hW.at_ (List.mem_cons_self ..) 1 rfl, hW.at_ (List.mem_cons_self ..) 2 rfl, hW.at_ (List.mem_cons_self ..) 3 rfl, hW.at_ (List.mem_cons_self ..) 4 rfl, hW.kid hbl KC0.out.1, hW.kid hbl KC0.out.2.1, hW.kid hbl KC0.out.2.2.1, hW.kid hbl KC0.out.2.2.2.1, hW.kid hbl KC0.out.2.2.2.2, hW.kid hbl KC1.out.1, hW.kid hbl KC1.out.2.1, hW.kid hbl KC1.out.2.2.1, hW.kid hbl KC1.out.2.2.2.1, hW.kid hbl KC1.out.2.2.2.2, hW.kid hbl KC2.out.1, hW.kid hbl KC2.out.2.1, hW.kid hbl KC2.out.2.2.1, hW.kid hbl KC2.out.2.2.2.1, hW.kid hbl KC2.out.2.2.2.2⟩
  have K' := Lib.hid K
  clear K
  go_region_held3 (fun W => (∃ y, PSt bp w [(w.heap.size, #[.int .i64 6, .string s, .int .i64 n, .int .i64 a, .slice (some ⟨b, o, none⟩) (tr2.length + 1 + 1 + 1) cap])] y W) ∧ W.cell? ⟨w.heap.size, 0, none⟩ = some (.int .i64 6) ∧ W.cell? ⟨w.heap.size, 1, none⟩ = some (.string s) ∧ W.cell? ⟨w.heap.size, 2, none⟩ = some (.int .i64 n) ∧ W.cell? ⟨w.heap.size, 3, none⟩ = some (.int .i64 a) ∧ W.cell? ⟨w.heap.size, 4, none⟩ = some (.slice (some ⟨b, o, none⟩) (tr2.length + 1 + 1 + 1) cap) ∧ W.cell? ⟨b, o, none⟩ = some (.int .i64 k0) ∧ W.cell? ⟨b, o + 1, none⟩ = some (.string s0) ∧ W.cell? ⟨b, o + 2, none⟩ = some (.int .i64 n0) ∧ W.cell? ⟨b, o + 3, none⟩ = some (.int .i64 a0) ∧ W.cell? ⟨b, o + 4, none⟩ = some (.slice A0 ks0.length cap0) ∧ W.cell? ⟨b, o + 5, none⟩ = some (.int .i64 k1) ∧ W.cell? ⟨b, o + 5 + 1, none⟩ = some (.string s1) ∧ W.cell? ⟨b, o + 5 + 2, none⟩ = some (.int .i64 n1) ∧ W.cell? ⟨b, o + 5 + 3, none⟩ = some (.int .i64 a1) ∧ W.cell? ⟨b, o + 5 + 4, none⟩ = some (.slice A1 ks1.length cap1) ∧ W.cell? ⟨b, o + 10, none⟩ = some (.int .i64 k2) ∧ W.cell? ⟨b, o + 10 + 1, none⟩ = some (.string s2) ∧ W.cell? ⟨b, o + 10 + 2, none⟩ = some (.int .i64 n2) ∧ W.cell? ⟨b, o + 10 + 3, none⟩ = some (.int .i64 a2) ∧ W.cell? ⟨b, o + 10 + 4, none⟩ = some (.slice A2 ks2.length cap2))
    (first
      | exact K'.out _ _ HSA.out.drew
      | exact K'.out _ _ hf)
    (first
      | (go_at_call 71; (with_reducible refine (HSA.out.drew.call (func_any hc _ _ HY1.out HY2.out _ _ 0 _ bp _ okI0 HSA.out.drew.pr HSA.out.drew.len (HSA.out.drew.lies HL1.out) (HSA.out.drew.lies HL2.out))).mono ?_); rintro e w9 ⟨rfl, hf⟩))
  go_wp2_with fail
  go_end0
  exact hf.fin

set_option maxHeartbeats 4000000 in
set_option maxRecDepth 100000 in
theorem decl_var {s : ByteArray} {n : Int} {y0 : Nd} {ys : List Nd} (h0 : CanB y0) (t : Nd) (htc : t.strip = .mk 7 s n 0 (y0 :: ys)) (v : Value) (x : WX) (bp : Nat) (w : World) (h : PrAt bp x.1 x.2 w) (hlen : x.1.length ≤ 60000) (hl : Lies w bp t v) :
    Calls Tryz.prog 48 #[.pointer (some ⟨bp, 0, none⟩), v] w (WrPost bp (exprF y0 false 0 false (putL x [⟨#[118, 97, 114, 32]⟩, s, ⟨#[32, 61, 32]⟩])) w) := by
  have HTC := Lib.hid htc
  have HL := Lib.hid hl
  obtain ⟨k', s', n', a, ks⟩ := t
  obtain ⟨rfl, rfl, rfl, hks⟩ := strip_mk htc
  obtain ⟨⟨k0, s0, n0, a0, ks0⟩, tr0, rfl, hy0, hks⟩ := stripL_cons hks
  have HY0 := Lib.hid hy0
  clear hy0
  have HKS := Lib.hid hks
  unfold Lies at hl
  obtain ⟨A, cap, rfl, _, _, _, hsz, hcl, hcc, hkl⟩ := hl
  obtain ⟨b, o, rfl, hbl, hkl⟩ := kids_some hkl
  obtain ⟨A0, cap0, hKC0, hL0⟩ := LiesL.kid0 rfl hkl
  have KC0 := Lib.hid hKC0
  have HL0 := Lib.hid hL0
  have hsz0 := hL0.size
  clear hKC0 hL0
  have HKL := Lib.hid hkl
  have hs := PSt.init h hlen #[.int .i64 7, .string s, .int .i64 n, .int .i64 a, .slice (some ⟨b, o, none⟩) (.mk k0 s0 n0 a0 ks0 :: tr0 : List Nd).length cap]
  simp only [List.length_cons] at hcl hs ⊢
  have c0 := hs.at_ (List.mem_cons_self ..) 0 rfl
  have c1 := hs.at_ (List.mem_cons_self ..) 1 rfl
  have c2 := hs.at_ (List.mem_cons_self ..) 2 rfl
  have c3 := hs.at_ (List.mem_cons_self ..) 3 rfl
  have c4 := hs.at_ (List.mem_cons_self ..) 4 rfl
  have d00 := hs.kid hbl KC0.out.1
  have d01 := hs.kid hbl KC0.out.2.1
  have d02 := hs.kid hbl KC0.out.2.2.1
  have d03 := hs.kid hbl KC0.out.2.2.2.1
  have d04 := hs.kid hbl KC0.out.2.2.2.2
  have HS := Lib.hid hs
  clear h hs htc hks hkl
  have b0 : (0 : Int) < (tr0.length : Int) + 1 := by omega
  go_enter Tryz.func48, Tryz.ntmps48
  go_wp2_with (first
      | (go_at_call 49; refine (HS.out.put3 ⟨#[118, 97, 114, 32]⟩ s ⟨#[32, 61, 32]⟩ (by decide) hsz (by decide)).mono ?_; clear HS; rintro e w1 ⟨rfl, hh⟩
         have c0 := hh.at_ (List.mem_cons_self ..) 0 rfl
         have c1 := hh.at_ (List.mem_cons_self ..) 1 rfl
         have c2 := hh.at_ (List.mem_cons_self ..) 2 rfl
         have c3 := hh.at_ (List.mem_cons_self ..) 3 rfl
         have c4 := hh.at_ (List.mem_cons_self ..) 4 rfl
         have d00 := hh.kid hbl KC0.out.1
         have d01 := hh.kid hbl KC0.out.2.1
         have d02 := hh.kid hbl KC0.out.2.2.1
         have d03 := hh.kid hbl KC0.out.2.2.2.1
         have d04 := hh.kid hbl KC0.out.2.2.2.2
         have HS1 := Lib.hid hh
         clear hh)
      | (go_at_call 72; refine (HS1.out.call (expr_any h0 _ HY0.out _ false 0 false _ bp _ okI0 HS1.out.pr HS1.out.len (HS1.out.lies HL0.out))).mono ?_; rintro e w2 ⟨rfl, hf⟩))
  go_end0
  exact hf.fin
end Go.Proofs.YtjpmghgmmeemkaaGreatDoor
