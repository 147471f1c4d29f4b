/- The printer: strconv.Itoa of a number that a method may have; isStmt. The printer: member, receiver. -/
import Derived.Deep.RegionHeld3
import Derived.Test.YtjpmghgmmeemkaaGreatDoorPrE
namespace Go.Proofs.YtjpmghgmmeemkaaGreatDoor
open Go.RowKit

/-- A small number as it is written. -/
def itoaS (n : Nat) : ByteArray := if n < 10 then ⟨#[48 + n.toUInt8]⟩ else ⟨#[49, 38 + n.toUInt8]⟩
theorem itoaS_size (n : Nat) : (itoaS n).size ≤ 140737488351232 := by
  unfold itoaS
  split
  · exact (by decide : 1 ≤ 140737488351232)
  · exact (by decide : 2 ≤ 140737488351232)

set_option maxHeartbeats 4000000 in
set_option maxRecDepth 100000 in
theorem small_any (n : Nat) (h : n ≤ 12) (w : World) : Calls Tryz.prog 114 #[.int .i64 n] w fun e w' => e = .returned (.string (itoaS n)) ∧ w' = w := by
  have h' : n = 0 ∨ n = 1 ∨ n = 2 ∨ n = 3 ∨ n = 4 ∨ n = 5 ∨ n = 6 ∨ n = 7 ∨ n = 8 ∨ n = 9 ∨ n = 10 ∨ n = 11 ∨ n = 12 := by omega
  clear h
  rcases h' with rfl | rfl | rfl | rfl | rfl | rfl | rfl | rfl | rfl | rfl | rfl | rfl | rfl
  all_goals go_enter Tryz.func114, Tryz.ntmps114
  all_goals go_wp2_with fail
  all_goals go_ret
  all_goals exact ⟨rfl, rfl⟩
set_option maxHeartbeats 1000000 in
set_option maxRecDepth 100000 in
theorem formatInt_any (n : Nat) (h : n ≤ 12) (w : World) : Calls Tryz.prog 104 #[.int .i64 n, .int .i64 10] w fun e w' => e = .returned (.string (itoaS n)) ∧ w' = w := by
  have h1 : (0 : Int) ≤ n := by omega
  have h2 : (n : Int) < 100 := by omega
  have hc := small_any n h w
  go_enter Tryz.func104, Tryz.ntmps104
  go_wp2_with (go_at_call 114; refine hc.mono ?_; rintro e w1 ⟨rfl, rfl⟩)
  go_ret
  exact ⟨rfl, rfl⟩
set_option maxHeartbeats 1000000 in
set_option maxRecDepth 100000 in
theorem itoa1_any (n : Nat) (h : n ≤ 12) (w : World) : Calls Tryz.prog 91 #[.int .i64 n] w fun e w' => e = .returned (.string (itoaS n)) ∧ w' = w := by
  have hc := formatInt_any n h w
  go_enter Tryz.func91, Tryz.ntmps91
  go_wp2_with (go_at_call 104; refine hc.mono ?_; rintro e w1 ⟨rfl, rfl⟩)
  go_ret
  exact ⟨rfl, rfl⟩
set_option maxHeartbeats 1000000 in
set_option maxRecDepth 100000 in
theorem itoa_any (n : Nat) (h : n ≤ 12) (w : World) : Calls Tryz.prog 75 #[.int .i64 n] w fun e w' => e = .returned (.string (itoaS n)) ∧ w' = w := by
  have hc := itoa1_any n h w
  go_enter Tryz.func75, Tryz.ntmps75
  go_wp2_with (go_at_call 91; refine hc.mono ?_; rintro e w1 ⟨rfl, rfl⟩)
  go_ret
  exact ⟨rfl, rfl⟩

/-- Is it a statement? -/
def stmtK (k : Int) : Bool := decide (17 ≤ k) && (decide (k ≤ 34) && (k != 27))
set_option maxHeartbeats 1000000 in
set_option maxRecDepth 100000 in
theorem isStmtK_any (k : Int) (w : World) : Calls Tryz.prog 54 #[.int .i64 k] w fun e w' => e = .returned (.bool (stmtK k)) ∧ w' = w := by
  obtain ⟨r, HR⟩ : ∃ r, Hid (stmtK k = r) := ⟨_, rfl⟩
  rw [HR.out]
  by_cases h1 : 17 ≤ k
  · by_cases h2 : k ≤ 34
    · obtain rfl : r = (k != 27) := by rw [← HR.out, stmtK]; simp [h1, h2]
      clear HR
      go_enter Tryz.func54, Tryz.ntmps54
      go_wp2_with fail
      go_ret
      exact ⟨rfl, rfl⟩
    · obtain rfl : r = false := by rw [← HR.out, stmtK]; simp [h2]
      have h2' : (k ≤ 34) = False := by simp; omega
      go_enter Tryz.func54, Tryz.ntmps54
      go_wp2_with fail
      go_ret
      exact ⟨rfl, rfl⟩
  · obtain rfl : r = false := by rw [← HR.out, stmtK]; simp [h1]
    have h1' : (17 ≤ k) = False := by simp; omega
    go_enter Tryz.func54, Tryz.ntmps54
    go_wp2_with fail
    go_ret
    exact ⟨rfl, rfl⟩
end Go.Proofs.YtjpmghgmmeemkaaGreatDoor

namespace Go.Proofs.YtjpmghgmmeemkaaGreatDoor
open Go.RowKit

/-- What member writes. -/
def memberF : Nd → Bool → WX → WX
  | .mk k s n _ _, prot, x => if k = 11 then putL x [s, ⟨#[40]⟩, itoaS n.toNat, ⟨#[41]⟩] else if k = 9 ∧ prot = false then putL x [⟨#[46]⟩, s] else if k = 10 then putL x [⟨#[46, 42]⟩, s] else putL x [s]
/-- member prints it. -/
def CanM (c : Nd) : Prop := c.kind = 11 → 0 ≤ c.num ∧ c.num ≤ 12

set_option maxHeartbeats 4000000 in
set_option maxRecDepth 100000 in
theorem member_method {s : ByteArray} {m : Nat} (hm : m ≤ 12) {ys : List Nd} (t : Nd) (htc : t.strip = .mk 11 s m 0 (ys)) (v : Value) (prot : Bool) (x : WX) (bp : Nat) (w : World) (h : PrAt bp x.1 x.2 w) (hlen : x.1.length ≤ 60000) (hl : Lies w bp t v) :
    Calls Tryz.prog 50 #[.pointer (some ⟨bp, 0, none⟩), v, .bool prot] w (WrPost bp (putL x [s, ⟨#[40]⟩, itoaS m, ⟨#[41]⟩]) w) := by
  have HTC := Lib.hid htc
  have HL := Lib.hid hl
  obtain ⟨k', s', n', a, ks⟩ := t
  obtain ⟨rfl, rfl, rfl, hks⟩ := strip_mk htc
  have HKS := Lib.hid hks
  unfold Lies at hl
  obtain ⟨A, cap, rfl, _, _, _, hsz, hcl, hcc, hkl⟩ := hl
  have HKL := Lib.hid hkl
  have hs := PSt.init h hlen #[.int .i64 11, .string s, .int .i64 m, .int .i64 a, .slice A ks.length cap]
  have c0 := hs.at_ (List.mem_cons_self ..) 0 rfl
  have c1 := hs.at_ (List.mem_cons_self ..) 1 rfl
  have c2 := hs.at_ (List.mem_cons_self ..) 2 rfl
  have c3 := hs.at_ (List.mem_cons_self ..) 3 rfl
  have c4 := hs.at_ (List.mem_cons_self ..) 4 rfl
  have HS := Lib.hid hs
  clear h hs htc hks hkl
  have hit := fun W => itoa_any m hm W
  have HIT := Lib.hid hit
  clear hit
  go_enter Tryz.func50, Tryz.ntmps50
  go_upto_region 3 with fail
  have K : ∀ y W, PSt bp w [(w.heap.size, #[.int .i64 11, .string s, .int .i64 m, .int .i64 a, .slice A ks.length cap])] y W → (∃ y, PSt bp w [(w.heap.size, #[.int .i64 11, .string s, .int .i64 m, .int .i64 a, .slice A ks.length cap])] y W) ∧ W.cell? ⟨w.heap.size, 0, none⟩ = some (.int .i64 11) ∧ W.cell? ⟨w.heap.size, 1, none⟩ = some (.string s) ∧ W.cell? ⟨w.heap.size, 2, none⟩ = some (.int .i64 m) ∧ W.cell? ⟨w.heap.size, 3, none⟩ = some (.int .i64 a) ∧ W.cell? ⟨w.heap.size, 4, none⟩ = some (.slice A ks.length cap) := fun y W hW => ⟨⟨_, hW⟩, hW.at_ (List.mem_cons_self ..) 0 rfl, hW.at_ (List.mem_cons_self ..) 1 rfl, hW.at_ (List.mem_cons_self ..) 2 rfl, hW.at_ (List.mem_cons_self ..) 3 rfl, hW.at_ (List.mem_cons_self ..) 4 rfl⟩
  have K' := Lib.hid K
  clear K
  go_region_held3 (fun W => (∃ y, PSt bp w [(w.heap.size, #[.int .i64 11, .string s, .int .i64 m, .int .i64 a, .slice A ks.length cap])] y W) ∧ W.cell? ⟨w.heap.size, 0, none⟩ = some (.int .i64 11) ∧ W.cell? ⟨w.heap.size, 1, none⟩ = some (.string s) ∧ W.cell? ⟨w.heap.size, 2, none⟩ = some (.int .i64 m) ∧ W.cell? ⟨w.heap.size, 3, none⟩ = some (.int .i64 a) ∧ W.cell? ⟨w.heap.size, 4, none⟩ = some (.slice A ks.length cap))
    (first
      | exact K'.out _ _ HS.out.drew
      | exact K'.out _ _ (HS.out.drew.alloc _)
      | exact K'.out _ _ hf)
    (first
      | (go_at_call 75; refine (HIT.out _).mono ?_; rintro e wi ⟨rfl, rfl⟩)
      | (go_at_call 49; refine (HS.out.drew.put4 s ⟨#[40]⟩ (itoaS m) ⟨#[41]⟩ hsz (by decide) (itoaS_size m) (by decide)).mono ?_; rintro e w9 ⟨rfl, hf⟩))
  go_wp2_with fail
  go_end0
  exact hf.fin

set_option maxHeartbeats 4000000 in
set_option maxRecDepth 100000 in
theorem member_embed {s : ByteArray} {n : Int} {ys : List Nd} (t : Nd) (htc : t.strip = .mk 9 s n 0 (ys)) (v : Value) (x : WX) (bp : Nat) (w : World) (h : PrAt bp x.1 x.2 w) (hlen : x.1.length ≤ 60000) (hl : Lies w bp t v) :
    Calls Tryz.prog 50 #[.pointer (some ⟨bp, 0, none⟩), v, .bool false] w (WrPost bp (putL x [⟨#[46]⟩, s]) w) := by
  have HTC := Lib.hid htc
  have HL := Lib.hid hl
  obtain ⟨k', s', n', a, ks⟩ := t
  obtain ⟨rfl, rfl, rfl, hks⟩ := strip_mk htc
  have HKS := Lib.hid hks
  unfold Lies at hl
  obtain ⟨A, cap, rfl, _, _, _, hsz, hcl, hcc, hkl⟩ := hl
  have HKL := Lib.hid hkl
  have hs := PSt.init h hlen #[.int .i64 9, .string s, .int .i64 n, .int .i64 a, .slice A ks.length cap]
  have c0 := hs.at_ (List.mem_cons_self ..) 0 rfl
  have c1 := hs.at_ (List.mem_cons_self ..) 1 rfl
  have c2 := hs.at_ (List.mem_cons_self ..) 2 rfl
  have c3 := hs.at_ (List.mem_cons_self ..) 3 rfl
  have c4 := hs.at_ (List.mem_cons_self ..) 4 rfl
  have HS := Lib.hid hs
  clear h hs htc hks hkl
  go_enter Tryz.func50, Tryz.ntmps50
  go_wp2_with (go_at_call 49; refine (HS.out.put2 ⟨#[46]⟩ s (by decide) hsz).mono ?_; rintro e w1 ⟨rfl, hf⟩)
  go_end0
  exact hf.fin

set_option maxHeartbeats 4000000 in
set_option maxRecDepth 100000 in
theorem member_name9 {s : ByteArray} {n : Int} {ys : List Nd} (t : Nd) (htc : t.strip = .mk 9 s n 0 (ys)) (v : Value) (x : WX) (bp : Nat) (w : World) (h : PrAt bp x.1 x.2 w) (hlen : x.1.length ≤ 60000) (hl : Lies w bp t v) :
    Calls Tryz.prog 50 #[.pointer (some ⟨bp, 0, none⟩), v, .bool true] w (WrPost bp (putL x [s]) w) := by
  have HTC := Lib.hid htc
  have HL := Lib.hid hl
  obtain ⟨k', s', n', a, ks⟩ := t
  obtain ⟨rfl, rfl, rfl, hks⟩ := strip_mk htc
  have HKS := Lib.hid hks
  unfold Lies at hl
  obtain ⟨A, cap, rfl, _, _, _, hsz, hcl, hcc, hkl⟩ := hl
  have HKL := Lib.hid hkl
  have hs := PSt.init h hlen #[.int .i64 9, .string s, .int .i64 n, .int .i64 a, .slice A ks.length cap]
  have c0 := hs.at_ (List.mem_cons_self ..) 0 rfl
  have c1 := hs.at_ (List.mem_cons_self ..) 1 rfl
  have c2 := hs.at_ (List.mem_cons_self ..) 2 rfl
  have c3 := hs.at_ (List.mem_cons_self ..) 3 rfl
  have c4 := hs.at_ (List.mem_cons_self ..) 4 rfl
  have HS := Lib.hid hs
  clear h hs htc hks hkl
  go_enter Tryz.func50, Tryz.ntmps50
  go_wp2_with (go_at_call 49; refine (HS.out.put1 s hsz).mono ?_; rintro e w1 ⟨rfl, hf⟩)
  go_end0
  exact hf.fin

set_option maxHeartbeats 4000000 in
set_option maxRecDepth 100000 in
theorem member_embedp {s : ByteArray} {n : Int} {ys : List Nd} (t : Nd) (htc : t.strip = .mk 10 s n 0 (ys)) (v : Value) (prot : Bool) (x : WX) (bp : Nat) (w : World) (h : PrAt bp x.1 x.2 w) (hlen : x.1.length ≤ 60000) (hl : Lies w bp t v) :
    Calls Tryz.prog 50 #[.pointer (some ⟨bp, 0, none⟩), v, .bool prot] w (WrPost bp (putL x [⟨#[46, 42]⟩, s]) w) := by
  have HTC := Lib.hid htc
  have HL := Lib.hid hl
  obtain ⟨k', s', n', a, ks⟩ := t
  obtain ⟨rfl, rfl, rfl, hks⟩ := strip_mk htc
  have HKS := Lib.hid hks
  unfold Lies at hl
  obtain ⟨A, cap, rfl, _, _, _, hsz, hcl, hcc, hkl⟩ := hl
  have HKL := Lib.hid hkl
  have hs := PSt.init h hlen #[.int .i64 10, .string s, .int .i64 n, .int .i64 a, .slice A ks.length cap]
  have c0 := hs.at_ (List.mem_cons_self ..) 0 rfl
  have c1 := hs.at_ (List.mem_cons_self ..) 1 rfl
  have c2 := hs.at_ (List.mem_cons_self ..) 2 rfl
  have c3 := hs.at_ (List.mem_cons_self ..) 3 rfl
  have c4 := hs.at_ (List.mem_cons_self ..) 4 rfl
  have HS := Lib.hid hs
  clear h hs htc hks hkl
  go_enter Tryz.func50, Tryz.ntmps50
  go_wp2_with (go_at_call 49; refine (HS.out.put2 ⟨#[46, 42]⟩ s (by decide) hsz).mono ?_; rintro e w1 ⟨rfl, hf⟩)
  go_end0
  exact hf.fin

set_option maxHeartbeats 4000000 in
set_option maxRecDepth 100000 in
theorem member_name {k : Int} {s : ByteArray} {n : Int} {ys : List Nd} (h11 : k ≠ 11) (h9 : k ≠ 9) (h10 : k ≠ 10) (t : Nd) (htc : t.strip = .mk k s n 0 (ys)) (v : Value) (prot : Bool) (x : WX) (bp : Nat) (w : World) (h : PrAt bp x.1 x.2 w) (hlen : x.1.length ≤ 60000) (hl : Lies w bp t v) :
    Calls Tryz.prog 50 #[.pointer (some ⟨bp, 0, none⟩), v, .bool prot] w (WrPost bp (putL x [s]) w) := by
  have HTC := Lib.hid htc
  have HL := Lib.hid hl
  obtain ⟨k', s', n', a, ks⟩ := t
  obtain ⟨rfl, rfl, rfl, hks⟩ := strip_mk htc
  have HKS := Lib.hid hks
  unfold Lies at hl
  obtain ⟨A, cap, rfl, _, _, _, hsz, hcl, hcc, hkl⟩ := hl
  have HKL := Lib.hid hkl
  have hs := PSt.init h hlen #[.int .i64 k, .string s, .int .i64 n, .int .i64 a, .slice A ks.length cap]
  have c0 := hs.at_ (List.mem_cons_self ..) 0 rfl
  have c1 := hs.at_ (List.mem_cons_self ..) 1 rfl
  have c2 := hs.at_ (List.mem_cons_self ..) 2 rfl
  have c3 := hs.at_ (List.mem_cons_self ..) 3 rfl
  have c4 := hs.at_ (List.mem_cons_self ..) 4 rfl
  have HS := Lib.hid hs
  clear h hs htc hks hkl
  have n11 : (k == 11) = false := beq_eq_false_iff_ne.2 h11
  have n9 : (k == 9) = false := beq_eq_false_iff_ne.2 h9
  have n10 : (k == 10) = false := beq_eq_false_iff_ne.2 h10
  clear h11 h9 h10
  go_enter Tryz.func50, Tryz.ntmps50
  go_wp2_with (go_at_call 49; refine (HS.out.put1 s hsz).mono ?_; rintro e w1 ⟨rfl, hf⟩)
  go_end0
  exact hf.fin

theorem member_any {c : Nd} (hc : CanM c) (t : Nd) (htc : t.strip = c) (v : Value) (prot : Bool) (x : WX) (bp : Nat) (w : World) (h : PrAt bp x.1 x.2 w) (hlen : x.1.length ≤ 60000) (hl : Lies w bp t v) :
    Calls Tryz.prog 50 #[.pointer (some ⟨bp, 0, none⟩), v, .bool prot] w (WrPost bp (memberF c prot x) w) := by
  obtain ⟨k, s, n, a, cs⟩ := c
  have ha : a = 0 := by
    obtain ⟨k', s', n', a', ks'⟩ := t
    simp only [Nd.strip, Nd.mk.injEq] at htc
    exact htc.2.2.2.1.symm
  subst ha
  by_cases h11 : k = 11
  · subst h11
    obtain ⟨m, rfl⟩ : ∃ m : Nat, n = m := ⟨n.toNat, by have := (hc rfl).1; exact (Int.toNat_of_nonneg this).symm⟩
    have hm : m ≤ 12 := by have := (hc rfl).2; have e : (Nd.mk 11 s (m : Int) 0 cs).num = m := rfl; omega
    rw [memberF, if_pos rfl, Int.toNat_natCast]
    exact member_method hm t htc v prot x bp w h hlen hl
  · by_cases h9 : k = 9
    · subst h9
      cases prot with
      | true =>
        rw [memberF, if_neg (by decide), if_neg (by simp), if_neg (by decide)]
        exact member_name9 t htc v x bp w h hlen hl
      | false =>
        rw [memberF, if_neg (by decide), if_pos ⟨rfl, rfl⟩]
        exact member_embed t htc v x bp w h hlen hl
    · by_cases h10 : k = 10
      · subst h10
        rw [memberF, if_neg (by decide), if_neg (by simp), if_pos rfl]
        exact member_embedp t htc v prot x bp w h hlen hl
      · rw [memberF, if_neg h11, if_neg (by simp [h9]), if_neg h10]
        exact member_name h11 h9 h10 t htc v prot x bp w h hlen hl

theorem okI0 : okI 0 := by unfold okI; omega

set_option maxHeartbeats 4000000 in
set_option maxRecDepth 100000 in
theorem receiver_any {k : Int} {s : ByteArray} {n : Int} {y0 : Nd} {ys : List Nd} (h0 : CanB y0) (t : Nd) (htc : t.strip = .mk k s n 0 (y0 :: ys)) (v : Value) (x : WX) (bp : Nat) (w : World) (h : PrAt bp x.1 x.2 w) (hlen : x.1.length ≤ 60000) (hl : Lies w bp t v) :
    Calls Tryz.prog 51 #[.pointer (some ⟨bp, 0, none⟩), v] w (WrPost bp (bareF y0 0 false (putL x [s, ⟨#[32]⟩])) w) := by
  have HTC := Lib.hid htc
  have HL := Lib.hid hl
  obtain ⟨k', s', n', a, ks⟩ := t
  obtain ⟨rfl, rfl, rfl, hks⟩ := strip_mk htc
  obtain ⟨⟨k0, s0, n0, a0, ks0⟩, tr0, rfl, hy0, hks⟩ := stripL_cons hks
  have HY0 := Lib.hid hy0
  clear hy0
  have HKS := Lib.hid hks
  unfold Lies at hl
  obtain ⟨A, cap, rfl, _, _, _, hsz, hcl, hcc, hkl⟩ := hl
  obtain ⟨b, o, rfl, hbl, hkl⟩ := kids_some hkl
  obtain ⟨A0, cap0, hKC0, hL0⟩ := LiesL.kid0 rfl hkl
  have KC0 := Lib.hid hKC0
  have HL0 := Lib.hid hL0
  have hsz0 := hL0.size
  clear hKC0 hL0
  have HKL := Lib.hid hkl
  have hs := PSt.init h hlen #[.int .i64 k, .string s, .int .i64 n, .int .i64 a, .slice (some ⟨b, o, none⟩) (.mk k0 s0 n0 a0 ks0 :: tr0 : List Nd).length cap]
  simp only [List.length_cons] at hcl hs ⊢
  have c0 := hs.at_ (List.mem_cons_self ..) 0 rfl
  have c1 := hs.at_ (List.mem_cons_self ..) 1 rfl
  have c2 := hs.at_ (List.mem_cons_self ..) 2 rfl
  have c3 := hs.at_ (List.mem_cons_self ..) 3 rfl
  have c4 := hs.at_ (List.mem_cons_self ..) 4 rfl
  have d00 := hs.kid hbl KC0.out.1
  have d01 := hs.kid hbl KC0.out.2.1
  have d02 := hs.kid hbl KC0.out.2.2.1
  have d03 := hs.kid hbl KC0.out.2.2.2.1
  have d04 := hs.kid hbl KC0.out.2.2.2.2
  have HS := Lib.hid hs
  clear h hs htc hks hkl
  have b0 : (0 : Int) < (tr0.length : Int) + 1 := by omega
  go_enter Tryz.func51, Tryz.ntmps51
  go_wp2_with (first
      | (go_at_call 49; refine (HS.out.put2 s ⟨#[32]⟩ hsz (by decide)).mono ?_; clear HS; rintro e w1 ⟨rfl, hh⟩
         have c0 := hh.at_ (List.mem_cons_self ..) 0 rfl
         have c1 := hh.at_ (List.mem_cons_self ..) 1 rfl
         have c2 := hh.at_ (List.mem_cons_self ..) 2 rfl
         have c3 := hh.at_ (List.mem_cons_self ..) 3 rfl
         have c4 := hh.at_ (List.mem_cons_self ..) 4 rfl
         have d00 := hh.kid hbl KC0.out.1
         have d01 := hh.kid hbl KC0.out.2.1
         have d02 := hh.kid hbl KC0.out.2.2.1
         have d03 := hh.kid hbl KC0.out.2.2.2.1
         have d04 := hh.kid hbl KC0.out.2.2.2.2
         have HS1 := Lib.hid hh
         clear hh)
      | (go_at_call 57; refine (HS1.out.call (h0 _ HY0.out _ 0 false _ bp _ okI0 HS1.out.pr HS1.out.len (HS1.out.lies HL0.out))).mono ?_; rintro e w2 ⟨rfl, hf⟩))
  go_end0
  exact hf.fin
end Go.Proofs.YtjpmghgmmeemkaaGreatDoor
