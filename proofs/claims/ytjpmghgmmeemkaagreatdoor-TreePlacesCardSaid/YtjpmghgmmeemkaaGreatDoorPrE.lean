/- The printer: bare, the branches in which nothing draws. -/
import Derived.Test.YtjpmghgmmeemkaaGreatDoorJPrA
namespace Go.Proofs.YtjpmghgmmeemkaaGreatDoor
open Go.RowKit

theorem PSt.kidsIn {bp : Nat} {w W : World} {rows : List (Nat × Array Value)} {x : WX} (h : PSt bp w rows x W) {ts : List Nd} {A : Option Addr} (hk : ts = [] ∨ ∃ b o, A = some ⟨b, o, none⟩ ∧ b < bp ∧ LiesL w bp ts b o) :
    ts = [] ∨ ∃ b o, A = some ⟨b, o, none⟩ ∧ b < bp ∧ LiesL W bp ts b o := hk.imp id (fun ⟨b, o, h1, h2, h3⟩ => ⟨b, o, h1, h2, h.liesL h2 h3⟩)

set_option maxHeartbeats 4000000 in
set_option maxRecDepth 100000 in
theorem bare_w_name {s : ByteArray} {n : Int} {ys : List Nd} (t : Nd) (htc : t.strip = .mk 14 s n 0 (ys)) (v : Value) (inn : Int) (head : Bool) (x : WX) (bp : Nat) (w : World) (_hi : okI inn) (h : PrAt bp x.1 x.2 w) (hlen : x.1.length ≤ 60000) (hl : Lies w bp t v) :
    Calls Tryz.prog 57 #[.pointer (some ⟨bp, 0, none⟩), v, .int .i64 inn, .bool head] w (WrPost bp (putL x [s]) w) := by
  have HTC := Lib.hid htc
  have HL := Lib.hid hl
  obtain ⟨k', s', n', a, ks⟩ := t
  obtain ⟨rfl, rfl, rfl, hks⟩ := strip_mk htc
  have HKS := Lib.hid hks
  unfold Lies at hl
  obtain ⟨A, cap, rfl, _, _, _, hsz, hcl, hcc, hkl⟩ := hl
  have HKL := Lib.hid hkl
  have hs := PSt.init h hlen #[.int .i64 14, .string s, .int .i64 n, .int .i64 a, .slice A ks.length cap]
  have c0 := hs.at_ (List.mem_cons_self ..) 0 rfl
  have c1 := hs.at_ (List.mem_cons_self ..) 1 rfl
  have c2 := hs.at_ (List.mem_cons_self ..) 2 rfl
  have c3 := hs.at_ (List.mem_cons_self ..) 3 rfl
  have c4 := hs.at_ (List.mem_cons_self ..) 4 rfl
  have HS := Lib.hid hs
  clear h hs htc hks hkl
  go_enter Tryz.func57, Tryz.ntmps57
  go_wp2_with (go_at_call 49; refine (HS.out.put1 s hsz).mono ?_; rintro e w1 ⟨rfl, hf⟩)
  go_end0
  exact hf.fin

set_option maxHeartbeats 4000000 in
set_option maxRecDepth 100000 in
theorem bare_w_int {s : ByteArray} {n : Int} {ys : List Nd} (t : Nd) (htc : t.strip = .mk 35 s n 0 (ys)) (v : Value) (inn : Int) (head : Bool) (x : WX) (bp : Nat) (w : World) (_hi : okI inn) (h : PrAt bp x.1 x.2 w) (hlen : x.1.length ≤ 60000) (hl : Lies w bp t v) :
    Calls Tryz.prog 57 #[.pointer (some ⟨bp, 0, none⟩), v, .int .i64 inn, .bool head] w (WrPost bp (putL x [s]) w) := by
  have HTC := Lib.hid htc
  have HL := Lib.hid hl
  obtain ⟨k', s', n', a, ks⟩ := t
  obtain ⟨rfl, rfl, rfl, hks⟩ := strip_mk htc
  have HKS := Lib.hid hks
  unfold Lies at hl
  obtain ⟨A, cap, rfl, _, _, _, hsz, hcl, hcc, hkl⟩ := hl
  have HKL := Lib.hid hkl
  have hs := PSt.init h hlen #[.int .i64 35, .string s, .int .i64 n, .int .i64 a, .slice A ks.length cap]
  have c0 := hs.at_ (List.mem_cons_self ..) 0 rfl
  have c1 := hs.at_ (List.mem_cons_self ..) 1 rfl
  have c2 := hs.at_ (List.mem_cons_self ..) 2 rfl
  have c3 := hs.at_ (List.mem_cons_self ..) 3 rfl
  have c4 := hs.at_ (List.mem_cons_self ..) 4 rfl
  have HS := Lib.hid hs
  clear h hs htc hks hkl
  go_enter Tryz.func57, Tryz.ntmps57
  go_wp2_with (go_at_call 49; refine (HS.out.put1 s hsz).mono ?_; rintro e w1 ⟨rfl, hf⟩)
  go_end0
  exact hf.fin

set_option maxHeartbeats 4000000 in
set_option maxRecDepth 100000 in
theorem bare_w_float {s : ByteArray} {n : Int} {ys : List Nd} (t : Nd) (htc : t.strip = .mk 36 s n 0 (ys)) (v : Value) (inn : Int) (head : Bool) (x : WX) (bp : Nat) (w : World) (_hi : okI inn) (h : PrAt bp x.1 x.2 w) (hlen : x.1.length ≤ 60000) (hl : Lies w bp t v) :
    Calls Tryz.prog 57 #[.pointer (some ⟨bp, 0, none⟩), v, .int .i64 inn, .bool head] w (WrPost bp (putL x [s]) w) := by
  have HTC := Lib.hid htc
  have HL := Lib.hid hl
  obtain ⟨k', s', n', a, ks⟩ := t
  obtain ⟨rfl, rfl, rfl, hks⟩ := strip_mk htc
  have HKS := Lib.hid hks
  unfold Lies at hl
  obtain ⟨A, cap, rfl, _, _, _, hsz, hcl, hcc, hkl⟩ := hl
  have HKL := Lib.hid hkl
  have hs := PSt.init h hlen #[.int .i64 36, .string s, .int .i64 n, .int .i64 a, .slice A ks.length cap]
  have c0 := hs.at_ (List.mem_cons_self ..) 0 rfl
  have c1 := hs.at_ (List.mem_cons_self ..) 1 rfl
  have c2 := hs.at_ (List.mem_cons_self ..) 2 rfl
  have c3 := hs.at_ (List.mem_cons_self ..) 3 rfl
  have c4 := hs.at_ (List.mem_cons_self ..) 4 rfl
  have HS := Lib.hid hs
  clear h hs htc hks hkl
  go_enter Tryz.func57, Tryz.ntmps57
  go_wp2_with (go_at_call 49; refine (HS.out.put1 s hsz).mono ?_; rintro e w1 ⟨rfl, hf⟩)
  go_end0
  exact hf.fin

set_option maxHeartbeats 4000000 in
set_option maxRecDepth 100000 in
theorem bare_w_pointer {s : ByteArray} {n : Int} {y0 : Nd} {ys : List Nd} (t : Nd) (htc : t.strip = .mk 15 s n 0 (y0 :: ys)) (v : Value) (inn : Int) (head : Bool) (x : WX) (bp : Nat) (w : World) (_hi : okI inn) (h : PrAt bp x.1 x.2 w) (hlen : x.1.length ≤ 60000) (hl : Lies w bp t v) :
    Calls Tryz.prog 57 #[.pointer (some ⟨bp, 0, none⟩), v, .int .i64 inn, .bool head] w (WrPost bp (putL x [⟨#[42]⟩, y0.text]) w) := by
  have HTC := Lib.hid htc
  have HL := Lib.hid hl
  obtain ⟨k', s', n', a, ks⟩ := t
  obtain ⟨rfl, rfl, rfl, hks⟩ := strip_mk htc
  obtain ⟨⟨k0, s0, n0, a0, ks0⟩, tr0, rfl, hy0, hks⟩ := stripL_cons hks
  have HY0 := Lib.hid hy0
  clear hy0
  have HKS := Lib.hid hks
  unfold Lies at hl
  obtain ⟨A, cap, rfl, _, _, _, hsz, hcl, hcc, hkl⟩ := hl
  obtain ⟨b, o, rfl, hbl, hkl⟩ := kids_some hkl
  obtain ⟨A0, cap0, hKC0, hL0⟩ := LiesL.kid0 rfl hkl
  have KC0 := Lib.hid hKC0
  have HL0 := Lib.hid hL0
  have hsz0 := hL0.size
  clear hKC0 hL0
  have HKL := Lib.hid hkl
  have hs := PSt.init h hlen #[.int .i64 15, .string s, .int .i64 n, .int .i64 a, .slice (some ⟨b, o, none⟩) (.mk k0 s0 n0 a0 ks0 :: tr0 : List Nd).length cap]
  simp only [List.length_cons] at hcl hs ⊢
  have c0 := hs.at_ (List.mem_cons_self ..) 0 rfl
  have c1 := hs.at_ (List.mem_cons_self ..) 1 rfl
  have c2 := hs.at_ (List.mem_cons_self ..) 2 rfl
  have c3 := hs.at_ (List.mem_cons_self ..) 3 rfl
  have c4 := hs.at_ (List.mem_cons_self ..) 4 rfl
  have d00 := hs.kid hbl KC0.out.1
  have d01 := hs.kid hbl KC0.out.2.1
  have d02 := hs.kid hbl KC0.out.2.2.1
  have d03 := hs.kid hbl KC0.out.2.2.2.1
  have d04 := hs.kid hbl KC0.out.2.2.2.2
  have HS := Lib.hid hs
  clear h hs htc hks hkl
  go_enter Tryz.func57, Tryz.ntmps57
  go_wp2_with (go_at_call 49; refine (HS.out.put2 ⟨#[42]⟩ s0 (by decide) hsz0).mono ?_; rintro e w1 ⟨rfl, hf⟩)
  go_end0
  have e : y0.text = s0 := by rw [← HY0.out, strip_text]; rfl
  rw [e]
  exact hf.fin

set_option maxHeartbeats 4000000 in
set_option maxRecDepth 100000 in
theorem bare_w_list {s : ByteArray} {n : Int} {ys : List Nd} (hc : ∀ y ∈ ys, CanO y) (t : Nd) (htc : t.strip = .mk 38 s n 0 (ys)) (v : Value) (inn : Int) (head : Bool) (x : WX) (bp : Nat) (w : World) (hi : okI inn) (h : PrAt bp x.1 x.2 w) (hlen : x.1.length ≤ 60000) (hl : Lies w bp t v) :
    Calls Tryz.prog 57 #[.pointer (some ⟨bp, 0, none⟩), v, .int .i64 inn, .bool head] w (WrPost bp (putL (rowF true ys inn (putL x [⟨#[91]⟩])) [⟨#[93]⟩]) w) := by
  have HTC := Lib.hid htc
  have HL := Lib.hid hl
  obtain ⟨k', s', n', a, ks⟩ := t
  obtain ⟨rfl, rfl, rfl, hks⟩ := strip_mk htc
  have HKS := Lib.hid hks
  unfold Lies at hl
  obtain ⟨A, cap, rfl, _, _, _, hsz, hcl, hcc, hkl⟩ := hl
  have HKL := Lib.hid hkl
  have hs := PSt.init h hlen #[.int .i64 38, .string s, .int .i64 n, .int .i64 a, .slice A ks.length cap]
  have c0 := hs.at_ (List.mem_cons_self ..) 0 rfl
  have c1 := hs.at_ (List.mem_cons_self ..) 1 rfl
  have c2 := hs.at_ (List.mem_cons_self ..) 2 rfl
  have c3 := hs.at_ (List.mem_cons_self ..) 3 rfl
  have c4 := hs.at_ (List.mem_cons_self ..) 4 rfl
  have HS := Lib.hid hs
  clear h hs htc hks hkl
  go_enter Tryz.func57, Tryz.ntmps57
  go_wp2_with (first
      | (go_at_call 49; refine (HS.out.put1 ⟨#[91]⟩ (by decide)).mono ?_; clear HS; rintro e w1 ⟨rfl, hh⟩
         have c0 := hh.at_ (List.mem_cons_self ..) 0 rfl
         have c1 := hh.at_ (List.mem_cons_self ..) 1 rfl
         have c2 := hh.at_ (List.mem_cons_self ..) 2 rfl
         have c3 := hh.at_ (List.mem_cons_self ..) 3 rfl
         have c4 := hh.at_ (List.mem_cons_self ..) 4 rfl
         have HS1 := Lib.hid hh
         clear hh)
      | (go_at_call 83; refine (HS1.out.call (row_any' _ (by rw [HKS.out]; exact hc) _ _ inn _ bp _ hi HS1.out.pr HS1.out.len hcl hcc (HS1.out.kidsIn HKL.out))).mono ?_; clear HS1; rintro e w2 ⟨rfl, hh⟩
         have c0 := hh.at_ (List.mem_cons_self ..) 0 rfl
         have c1 := hh.at_ (List.mem_cons_self ..) 1 rfl
         have c2 := hh.at_ (List.mem_cons_self ..) 2 rfl
         have c3 := hh.at_ (List.mem_cons_self ..) 3 rfl
         have c4 := hh.at_ (List.mem_cons_self ..) 4 rfl
         have HS2 := Lib.hid hh
         clear hh)
      | (go_at_call 49; refine (HS2.out.put1 ⟨#[93]⟩ (by decide)).mono ?_; rintro e w3 ⟨rfl, hf⟩))
  go_end0
  rw [HKS.out] at hf
  exact hf.fin

set_option maxHeartbeats 4000000 in
set_option maxRecDepth 100000 in
theorem bare_w_map {s : ByteArray} {n : Int} {ys : List Nd} (hc : ∀ y ∈ ys, CanO y) (t : Nd) (htc : t.strip = .mk 39 s n 0 (ys)) (v : Value) (inn : Int) (head : Bool) (x : WX) (bp : Nat) (w : World) (hi : okI inn) (h : PrAt bp x.1 x.2 w) (hlen : x.1.length ≤ 60000) (hl : Lies w bp t v) :
    Calls Tryz.prog 57 #[.pointer (some ⟨bp, 0, none⟩), v, .int .i64 inn, .bool head] w (WrPost bp (putL (rowF true ys inn (putL x [⟨#[109, 97, 112, 123]⟩])) [⟨#[125]⟩]) w) := by
  have HTC := Lib.hid htc
  have HL := Lib.hid hl
  obtain ⟨k', s', n', a, ks⟩ := t
  obtain ⟨rfl, rfl, rfl, hks⟩ := strip_mk htc
  have HKS := Lib.hid hks
  unfold Lies at hl
  obtain ⟨A, cap, rfl, _, _, _, hsz, hcl, hcc, hkl⟩ := hl
  have HKL := Lib.hid hkl
  have hs := PSt.init h hlen #[.int .i64 39, .string s, .int .i64 n, .int .i64 a, .slice A ks.length cap]
  have c0 := hs.at_ (List.mem_cons_self ..) 0 rfl
  have c1 := hs.at_ (List.mem_cons_self ..) 1 rfl
  have c2 := hs.at_ (List.mem_cons_self ..) 2 rfl
  have c3 := hs.at_ (List.mem_cons_self ..) 3 rfl
  have c4 := hs.at_ (List.mem_cons_self ..) 4 rfl
  have HS := Lib.hid hs
  clear h hs htc hks hkl
  go_enter Tryz.func57, Tryz.ntmps57
  go_wp2_with (first
      | (go_at_call 49; refine (HS.out.put1 ⟨#[109, 97, 112, 123]⟩ (by decide)).mono ?_; clear HS; rintro e w1 ⟨rfl, hh⟩
         have c0 := hh.at_ (List.mem_cons_self ..) 0 rfl
         have c1 := hh.at_ (List.mem_cons_self ..) 1 rfl
         have c2 := hh.at_ (List.mem_cons_self ..) 2 rfl
         have c3 := hh.at_ (List.mem_cons_self ..) 3 rfl
         have c4 := hh.at_ (List.mem_cons_self ..) 4 rfl
         have HS1 := Lib.hid hh
         clear hh)
      | (go_at_call 83; refine (HS1.out.call (row_any' _ (by rw [HKS.out]; exact hc) _ _ inn _ bp _ hi HS1.out.pr HS1.out.len hcl hcc (HS1.out.kidsIn HKL.out))).mono ?_; clear HS1; rintro e w2 ⟨rfl, hh⟩
         have c0 := hh.at_ (List.mem_cons_self ..) 0 rfl
         have c1 := hh.at_ (List.mem_cons_self ..) 1 rfl
         have c2 := hh.at_ (List.mem_cons_self ..) 2 rfl
         have c3 := hh.at_ (List.mem_cons_self ..) 3 rfl
         have c4 := hh.at_ (List.mem_cons_self ..) 4 rfl
         have HS2 := Lib.hid hh
         clear hh)
      | (go_at_call 49; refine (HS2.out.put1 ⟨#[125]⟩ (by decide)).mono ?_; rintro e w3 ⟨rfl, hf⟩))
  go_end0
  rw [HKS.out] at hf
  exact hf.fin

set_option maxHeartbeats 4000000 in
set_option maxRecDepth 100000 in
theorem bare_w_make {s : ByteArray} {n : Int} {ys : List Nd} (hc : ∀ y ∈ ys, CanO y) (t : Nd) (htc : t.strip = .mk 41 s n 0 (ys)) (v : Value) (inn : Int) (head : Bool) (x : WX) (bp : Nat) (w : World) (hi : okI inn) (h : PrAt bp x.1 x.2 w) (hlen : x.1.length ≤ 60000) (hl : Lies w bp t v) :
    Calls Tryz.prog 57 #[.pointer (some ⟨bp, 0, none⟩), v, .int .i64 inn, .bool head] w (WrPost bp (putL (rowF true ys inn (putL x [s, ⟨#[123]⟩])) [⟨#[125]⟩]) w) := by
  have HTC := Lib.hid htc
  have HL := Lib.hid hl
  obtain ⟨k', s', n', a, ks⟩ := t
  obtain ⟨rfl, rfl, rfl, hks⟩ := strip_mk htc
  have HKS := Lib.hid hks
  unfold Lies at hl
  obtain ⟨A, cap, rfl, _, _, _, hsz, hcl, hcc, hkl⟩ := hl
  have HKL := Lib.hid hkl
  have hs := PSt.init h hlen #[.int .i64 41, .string s, .int .i64 n, .int .i64 a, .slice A ks.length cap]
  have c0 := hs.at_ (List.mem_cons_self ..) 0 rfl
  have c1 := hs.at_ (List.mem_cons_self ..) 1 rfl
  have c2 := hs.at_ (List.mem_cons_self ..) 2 rfl
  have c3 := hs.at_ (List.mem_cons_self ..) 3 rfl
  have c4 := hs.at_ (List.mem_cons_self ..) 4 rfl
  have HS := Lib.hid hs
  clear h hs htc hks hkl
  go_enter Tryz.func57, Tryz.ntmps57
  go_wp2_with (first
      | (go_at_call 49; refine (HS.out.put2 s ⟨#[123]⟩ hsz (by decide)).mono ?_; clear HS; rintro e w1 ⟨rfl, hh⟩
         have c0 := hh.at_ (List.mem_cons_self ..) 0 rfl
         have c1 := hh.at_ (List.mem_cons_self ..) 1 rfl
         have c2 := hh.at_ (List.mem_cons_self ..) 2 rfl
         have c3 := hh.at_ (List.mem_cons_self ..) 3 rfl
         have c4 := hh.at_ (List.mem_cons_self ..) 4 rfl
         have HS1 := Lib.hid hh
         clear hh)
      | (go_at_call 83; refine (HS1.out.call (row_any' _ (by rw [HKS.out]; exact hc) _ _ inn _ bp _ hi HS1.out.pr HS1.out.len hcl hcc (HS1.out.kidsIn HKL.out))).mono ?_; clear HS1; rintro e w2 ⟨rfl, hh⟩
         have c0 := hh.at_ (List.mem_cons_self ..) 0 rfl
         have c1 := hh.at_ (List.mem_cons_self ..) 1 rfl
         have c2 := hh.at_ (List.mem_cons_self ..) 2 rfl
         have c3 := hh.at_ (List.mem_cons_self ..) 3 rfl
         have c4 := hh.at_ (List.mem_cons_self ..) 4 rfl
         have HS2 := Lib.hid hh
         clear hh)
      | (go_at_call 49; refine (HS2.out.put1 ⟨#[125]⟩ (by decide)).mono ?_; rintro e w3 ⟨rfl, hf⟩))
  go_end0
  rw [HKS.out] at hf
  exact hf.fin

set_option maxHeartbeats 4000000 in
set_option maxRecDepth 100000 in
theorem bare_w_new {s : ByteArray} {n : Int} {y0 : Nd} {ys : List Nd} (h0 : CanB y0) (t : Nd) (htc : t.strip = .mk 42 s n 0 (y0 :: ys)) (v : Value) (inn : Int) (head : Bool) (x : WX) (bp : Nat) (w : World) (hi : okI inn) (h : PrAt bp x.1 x.2 w) (hlen : x.1.length ≤ 60000) (hl : Lies w bp t v) :
    Calls Tryz.prog 57 #[.pointer (some ⟨bp, 0, none⟩), v, .int .i64 inn, .bool head] w (WrPost bp (bareF y0 inn false (putL x [⟨#[38]⟩])) w) := by
  have HTC := Lib.hid htc
  have HL := Lib.hid hl
  obtain ⟨k', s', n', a, ks⟩ := t
  obtain ⟨rfl, rfl, rfl, hks⟩ := strip_mk htc
  obtain ⟨⟨k0, s0, n0, a0, ks0⟩, tr0, rfl, hy0, hks⟩ := stripL_cons hks
  have HY0 := Lib.hid hy0
  clear hy0
  have HKS := Lib.hid hks
  unfold Lies at hl
  obtain ⟨A, cap, rfl, _, _, _, hsz, hcl, hcc, hkl⟩ := hl
  obtain ⟨b, o, rfl, hbl, hkl⟩ := kids_some hkl
  obtain ⟨A0, cap0, hKC0, hL0⟩ := LiesL.kid0 rfl hkl
  have KC0 := Lib.hid hKC0
  have HL0 := Lib.hid hL0
  have hsz0 := hL0.size
  clear hKC0 hL0
  have HKL := Lib.hid hkl
  have hs := PSt.init h hlen #[.int .i64 42, .string s, .int .i64 n, .int .i64 a, .slice (some ⟨b, o, none⟩) (.mk k0 s0 n0 a0 ks0 :: tr0 : List Nd).length cap]
  simp only [List.length_cons] at hcl hs ⊢
  have c0 := hs.at_ (List.mem_cons_self ..) 0 rfl
  have c1 := hs.at_ (List.mem_cons_self ..) 1 rfl
  have c2 := hs.at_ (List.mem_cons_self ..) 2 rfl
  have c3 := hs.at_ (List.mem_cons_self ..) 3 rfl
  have c4 := hs.at_ (List.mem_cons_self ..) 4 rfl
  have d00 := hs.kid hbl KC0.out.1
  have d01 := hs.kid hbl KC0.out.2.1
  have d02 := hs.kid hbl KC0.out.2.2.1
  have d03 := hs.kid hbl KC0.out.2.2.2.1
  have d04 := hs.kid hbl KC0.out.2.2.2.2
  have HS := Lib.hid hs
  clear h hs htc hks hkl
  go_enter Tryz.func57, Tryz.ntmps57
  go_wp2_with (first
      | (go_at_call 49; refine (HS.out.put1 ⟨#[38]⟩ (by decide)).mono ?_; clear HS; rintro e w1 ⟨rfl, hh⟩
         have c0 := hh.at_ (List.mem_cons_self ..) 0 rfl
         have c1 := hh.at_ (List.mem_cons_self ..) 1 rfl
         have c2 := hh.at_ (List.mem_cons_self ..) 2 rfl
         have c3 := hh.at_ (List.mem_cons_self ..) 3 rfl
         have c4 := hh.at_ (List.mem_cons_self ..) 4 rfl
         have d00 := hh.kid hbl KC0.out.1
         have d01 := hh.kid hbl KC0.out.2.1
         have d02 := hh.kid hbl KC0.out.2.2.1
         have d03 := hh.kid hbl KC0.out.2.2.2.1
         have d04 := hh.kid hbl KC0.out.2.2.2.2
         have HS1 := Lib.hid hh
         clear hh)
      | (go_at_call 57; refine (HS1.out.call (h0 _ HY0.out _ inn false _ bp _ hi HS1.out.pr HS1.out.len (HS1.out.lies HL0.out))).mono ?_; rintro e w2 ⟨rfl, hf⟩))
  go_end0
  exact hf.fin

set_option maxHeartbeats 4000000 in
set_option maxRecDepth 100000 in
theorem bare_w_nil {s : ByteArray} {n : Int} {y0 : Nd} {ys : List Nd} (h0 : CanB y0) (t : Nd) (htc : t.strip = .mk 44 s n 0 (y0 :: ys)) (v : Value) (inn : Int) (head : Bool) (x : WX) (bp : Nat) (w : World) (hi : okI inn) (h : PrAt bp x.1 x.2 w) (hlen : x.1.length ≤ 60000) (hl : Lies w bp t v) :
    Calls Tryz.prog 57 #[.pointer (some ⟨bp, 0, none⟩), v, .int .i64 inn, .bool head] w (WrPost bp (putL (bareF y0 inn false (putL x [⟨#[110, 105, 108, 40]⟩])) [⟨#[41]⟩]) w) := by
  have HTC := Lib.hid htc
  have HL := Lib.hid hl
  obtain ⟨k', s', n', a, ks⟩ := t
  obtain ⟨rfl, rfl, rfl, hks⟩ := strip_mk htc
  obtain ⟨⟨k0, s0, n0, a0, ks0⟩, tr0, rfl, hy0, hks⟩ := stripL_cons hks
  have HY0 := Lib.hid hy0
  clear hy0
  have HKS := Lib.hid hks
  unfold Lies at hl
  obtain ⟨A, cap, rfl, _, _, _, hsz, hcl, hcc, hkl⟩ := hl
  obtain ⟨b, o, rfl, hbl, hkl⟩ := kids_some hkl
  obtain ⟨A0, cap0, hKC0, hL0⟩ := LiesL.kid0 rfl hkl
  have KC0 := Lib.hid hKC0
  have HL0 := Lib.hid hL0
  have hsz0 := hL0.size
  clear hKC0 hL0
  have HKL := Lib.hid hkl
  have hs := PSt.init h hlen #[.int .i64 44, .string s, .int .i64 n, .int .i64 a, .slice (some ⟨b, o, none⟩) (.mk k0 s0 n0 a0 ks0 :: tr0 : List Nd).length cap]
  simp only [List.length_cons] at hcl hs ⊢
  have c0 := hs.at_ (List.mem_cons_self ..) 0 rfl
  have c1 := hs.at_ (List.mem_cons_self ..) 1 rfl
  have c2 := hs.at_ (List.mem_cons_self ..) 2 rfl
  have c3 := hs.at_ (List.mem_cons_self ..) 3 rfl
  have c4 := hs.at_ (List.mem_cons_self ..) 4 rfl
  have d00 := hs.kid hbl KC0.out.1
  have d01 := hs.kid hbl KC0.out.2.1
  have d02 := hs.kid hbl KC0.out.2.2.1
  have d03 := hs.kid hbl KC0.out.2.2.2.1
  have d04 := hs.kid hbl KC0.out.2.2.2.2
  have HS := Lib.hid hs
  clear h hs htc hks hkl
  go_enter Tryz.func57, Tryz.ntmps57
  go_wp2_with (first
      | (go_at_call 49; refine (HS.out.put1 ⟨#[110, 105, 108, 40]⟩ (by decide)).mono ?_; clear HS; rintro e w1 ⟨rfl, hh⟩
         have c0 := hh.at_ (List.mem_cons_self ..) 0 rfl
         have c1 := hh.at_ (List.mem_cons_self ..) 1 rfl
         have c2 := hh.at_ (List.mem_cons_self ..) 2 rfl
         have c3 := hh.at_ (List.mem_cons_self ..) 3 rfl
         have c4 := hh.at_ (List.mem_cons_self ..) 4 rfl
         have d00 := hh.kid hbl KC0.out.1
         have d01 := hh.kid hbl KC0.out.2.1
         have d02 := hh.kid hbl KC0.out.2.2.1
         have d03 := hh.kid hbl KC0.out.2.2.2.1
         have d04 := hh.kid hbl KC0.out.2.2.2.2
         have HS1 := Lib.hid hh
         clear hh)
      | (go_at_call 57; refine (HS1.out.call (h0 _ HY0.out _ inn false _ bp _ hi HS1.out.pr HS1.out.len (HS1.out.lies HL0.out))).mono ?_; clear HS1; rintro e w2 ⟨rfl, hh⟩
         have c0 := hh.at_ (List.mem_cons_self ..) 0 rfl
         have c1 := hh.at_ (List.mem_cons_self ..) 1 rfl
         have c2 := hh.at_ (List.mem_cons_self ..) 2 rfl
         have c3 := hh.at_ (List.mem_cons_self ..) 3 rfl
         have c4 := hh.at_ (List.mem_cons_self ..) 4 rfl
         have d00 := hh.kid hbl KC0.out.1
         have d01 := hh.kid hbl KC0.out.2.1
         have d02 := hh.kid hbl KC0.out.2.2.1
         have d03 := hh.kid hbl KC0.out.2.2.2.1
         have d04 := hh.kid hbl KC0.out.2.2.2.2
         have HS2 := Lib.hid hh
         clear hh)
      | (go_at_call 49; refine (HS2.out.put1 ⟨#[41]⟩ (by decide)).mono ?_; rintro e w3 ⟨rfl, hf⟩))
  go_end0
  exact hf.fin
end Go.Proofs.YtjpmghgmmeemkaaGreatDoor
