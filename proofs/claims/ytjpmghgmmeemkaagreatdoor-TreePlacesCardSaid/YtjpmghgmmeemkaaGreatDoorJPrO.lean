/- The printer: stmt, the loops. The printer: whole. -/
import Derived.Test.YtjpmghgmmeemkaaGreatDoorPrN
import Derived.Test.YtjpmghgmmeemkaaGreatDoorJPrT
import Derived.Test.YtjpmghgmmeemkaaGreatDoorPrP
namespace Go.Proofs.YtjpmghgmmeemkaaGreatDoor
open Go.RowKit

/-- What loop writes of a tree up to its places. -/
def LoopIs (c : Nd) (f : Int → WX → WX) : Prop := ∀ (t : Nd), t.strip = c → ∀ (v : Value) (inn : Int) (x : WX) (bp : Nat) (w : World), okI inn → PrAt bp x.1 x.2 w → x.1.length ≤ 60000 → Lies w bp t v →
  Calls Tryz.prog 78 #[.pointer (some ⟨bp, 0, none⟩), v, .int .i64 inn] w (WrPost bp (f inn x) w)

set_option maxHeartbeats 4000000 in
set_option maxRecDepth 100000 in
theorem stmt_loop23 {s : ByteArray} {n : Int} {ys : List Nd} {f : Int → WX → WX} (hlp : LoopIs (.mk 23 s n 0 ys) f) (hs0 : (s.toList == []) = true) (t : Nd) (htc : t.strip = .mk 23 s n 0 (ys)) (v : Value) (inn : Int) (x : WX) (bp : Nat) (w : World) (hi : okI inn) (h : PrAt bp x.1 x.2 w) (hlen : x.1.length ≤ 60000) (hl : Lies w bp t v) :
    Calls Tryz.prog 55 #[.pointer (some ⟨bp, 0, none⟩), v, .int .i64 inn] w (WrPost bp (f inn x) w) := by
  have HTC := Lib.hid htc
  have HL := Lib.hid hl
  obtain ⟨k', s', n', a, ks⟩ := t
  obtain ⟨rfl, rfl, rfl, hks⟩ := strip_mk htc
  have HKS := Lib.hid hks
  unfold Lies at hl
  obtain ⟨A, cap, rfl, _, _, _, hsz, hcl, hcc, hkl⟩ := hl
  have HKL := Lib.hid hkl
  have hs := PSt.init h hlen #[.int .i64 23, .string s, .int .i64 n, .int .i64 a, .slice A ks.length cap]
  have c0 := hs.at_ (List.mem_cons_self ..) 0 rfl
  have c1 := hs.at_ (List.mem_cons_self ..) 1 rfl
  have c2 := hs.at_ (List.mem_cons_self ..) 2 rfl
  have c3 := hs.at_ (List.mem_cons_self ..) 3 rfl
  have c4 := hs.at_ (List.mem_cons_self ..) 4 rfl
  have HS := Lib.hid hs
  clear h hs htc hks hkl
  go_enter Tryz.func55, Tryz.ntmps55
  go_wp2_with (go_at_call 78; refine (HS.out.call (hlp _ HTC.out _ inn _ bp _ hi HS.out.pr HS.out.len (HS.out.lies HL.out))).mono ?_; rintro e w1 ⟨rfl, hf⟩)
  go_end0
  exact hf.fin

set_option maxHeartbeats 4000000 in
set_option maxRecDepth 100000 in
theorem stmt_label23 {s : ByteArray} {n : Int} {ys : List Nd} {f : Int → WX → WX} (hlp : LoopIs (.mk 23 s n 0 ys) f) (hs0 : (s.toList == []) = false) (t : Nd) (htc : t.strip = .mk 23 s n 0 (ys)) (v : Value) (inn : Int) (x : WX) (bp : Nat) (w : World) (hi : okI inn) (h : PrAt bp x.1 x.2 w) (hlen : x.1.length ≤ 60000) (hl : Lies w bp t v) :
    Calls Tryz.prog 55 #[.pointer (some ⟨bp, 0, none⟩), v, .int .i64 inn] w (WrPost bp (f inn (putL x [s, ⟨#[58, 32]⟩])) w) := by
  have HTC := Lib.hid htc
  have HL := Lib.hid hl
  obtain ⟨k', s', n', a, ks⟩ := t
  obtain ⟨rfl, rfl, rfl, hks⟩ := strip_mk htc
  have HKS := Lib.hid hks
  unfold Lies at hl
  obtain ⟨A, cap, rfl, _, _, _, hsz, hcl, hcc, hkl⟩ := hl
  have HKL := Lib.hid hkl
  have hs := PSt.init h hlen #[.int .i64 23, .string s, .int .i64 n, .int .i64 a, .slice A ks.length cap]
  have c0 := hs.at_ (List.mem_cons_self ..) 0 rfl
  have c1 := hs.at_ (List.mem_cons_self ..) 1 rfl
  have c2 := hs.at_ (List.mem_cons_self ..) 2 rfl
  have c3 := hs.at_ (List.mem_cons_self ..) 3 rfl
  have c4 := hs.at_ (List.mem_cons_self ..) 4 rfl
  have HS := Lib.hid hs
  clear h hs htc hks hkl
  go_enter Tryz.func55, Tryz.ntmps55
  go_wp2_with (first
      | (go_at_call 49; refine (HS.out.put2 s ⟨#[58, 32]⟩ hsz (by decide)).mono ?_; clear HS; rintro e w1 ⟨rfl, hh⟩
         have c0 := hh.at_ (List.mem_cons_self ..) 0 rfl
         have c1 := hh.at_ (List.mem_cons_self ..) 1 rfl
         have c2 := hh.at_ (List.mem_cons_self ..) 2 rfl
         have c3 := hh.at_ (List.mem_cons_self ..) 3 rfl
         have c4 := hh.at_ (List.mem_cons_self ..) 4 rfl
         have HS1 := Lib.hid hh
         clear hh)
      | (go_at_call 78; refine (HS1.out.call (hlp _ HTC.out _ inn _ bp _ hi HS1.out.pr HS1.out.len (HS1.out.lies HL.out))).mono ?_; rintro e w2 ⟨rfl, hf⟩))
  go_end0
  exact hf.fin

set_option maxHeartbeats 4000000 in
set_option maxRecDepth 100000 in
theorem stmt_loop24 {s : ByteArray} {n : Int} {ys : List Nd} {f : Int → WX → WX} (hlp : LoopIs (.mk 24 s n 0 ys) f) (hs0 : (s.toList == []) = true) (t : Nd) (htc : t.strip = .mk 24 s n 0 (ys)) (v : Value) (inn : Int) (x : WX) (bp : Nat) (w : World) (hi : okI inn) (h : PrAt bp x.1 x.2 w) (hlen : x.1.length ≤ 60000) (hl : Lies w bp t v) :
    Calls Tryz.prog 55 #[.pointer (some ⟨bp, 0, none⟩), v, .int .i64 inn] w (WrPost bp (f inn x) w) := by
  have HTC := Lib.hid htc
  have HL := Lib.hid hl
  obtain ⟨k', s', n', a, ks⟩ := t
  obtain ⟨rfl, rfl, rfl, hks⟩ := strip_mk htc
  have HKS := Lib.hid hks
  unfold Lies at hl
  obtain ⟨A, cap, rfl, _, _, _, hsz, hcl, hcc, hkl⟩ := hl
  have HKL := Lib.hid hkl
  have hs := PSt.init h hlen #[.int .i64 24, .string s, .int .i64 n, .int .i64 a, .slice A ks.length cap]
  have c0 := hs.at_ (List.mem_cons_self ..) 0 rfl
  have c1 := hs.at_ (List.mem_cons_self ..) 1 rfl
  have c2 := hs.at_ (List.mem_cons_self ..) 2 rfl
  have c3 := hs.at_ (List.mem_cons_self ..) 3 rfl
  have c4 := hs.at_ (List.mem_cons_self ..) 4 rfl
  have HS := Lib.hid hs
  clear h hs htc hks hkl
  go_enter Tryz.func55, Tryz.ntmps55
  go_wp2_with (go_at_call 78; refine (HS.out.call (hlp _ HTC.out _ inn _ bp _ hi HS.out.pr HS.out.len (HS.out.lies HL.out))).mono ?_; rintro e w1 ⟨rfl, hf⟩)
  go_end0
  exact hf.fin

set_option maxHeartbeats 4000000 in
set_option maxRecDepth 100000 in
theorem stmt_label24 {s : ByteArray} {n : Int} {ys : List Nd} {f : Int → WX → WX} (hlp : LoopIs (.mk 24 s n 0 ys) f) (hs0 : (s.toList == []) = false) (t : Nd) (htc : t.strip = .mk 24 s n 0 (ys)) (v : Value) (inn : Int) (x : WX) (bp : Nat) (w : World) (hi : okI inn) (h : PrAt bp x.1 x.2 w) (hlen : x.1.length ≤ 60000) (hl : Lies w bp t v) :
    Calls Tryz.prog 55 #[.pointer (some ⟨bp, 0, none⟩), v, .int .i64 inn] w (WrPost bp (f inn (putL x [s, ⟨#[58, 32]⟩])) w) := by
  have HTC := Lib.hid htc
  have HL := Lib.hid hl
  obtain ⟨k', s', n', a, ks⟩ := t
  obtain ⟨rfl, rfl, rfl, hks⟩ := strip_mk htc
  have HKS := Lib.hid hks
  unfold Lies at hl
  obtain ⟨A, cap, rfl, _, _, _, hsz, hcl, hcc, hkl⟩ := hl
  have HKL := Lib.hid hkl
  have hs := PSt.init h hlen #[.int .i64 24, .string s, .int .i64 n, .int .i64 a, .slice A ks.length cap]
  have c0 := hs.at_ (List.mem_cons_self ..) 0 rfl
  have c1 := hs.at_ (List.mem_cons_self ..) 1 rfl
  have c2 := hs.at_ (List.mem_cons_self ..) 2 rfl
  have c3 := hs.at_ (List.mem_cons_self ..) 3 rfl
  have c4 := hs.at_ (List.mem_cons_self ..) 4 rfl
  have HS := Lib.hid hs
  clear h hs htc hks hkl
  go_enter Tryz.func55, Tryz.ntmps55
  go_wp2_with (first
      | (go_at_call 49; refine (HS.out.put2 s ⟨#[58, 32]⟩ hsz (by decide)).mono ?_; clear HS; rintro e w1 ⟨rfl, hh⟩
         have c0 := hh.at_ (List.mem_cons_self ..) 0 rfl
         have c1 := hh.at_ (List.mem_cons_self ..) 1 rfl
         have c2 := hh.at_ (List.mem_cons_self ..) 2 rfl
         have c3 := hh.at_ (List.mem_cons_self ..) 3 rfl
         have c4 := hh.at_ (List.mem_cons_self ..) 4 rfl
         have HS1 := Lib.hid hh
         clear hh)
      | (go_at_call 78; refine (HS1.out.call (hlp _ HTC.out _ inn _ bp _ hi HS1.out.pr HS1.out.len (HS1.out.lies HL.out))).mono ?_; rintro e w2 ⟨rfl, hf⟩))
  go_end0
  exact hf.fin

set_option maxHeartbeats 4000000 in
set_option maxRecDepth 100000 in
theorem stmt_loop25 {s : ByteArray} {n : Int} {ys : List Nd} {f : Int → WX → WX} (hlp : LoopIs (.mk 25 s n 0 ys) f) (hs0 : (s.toList == []) = true) (t : Nd) (htc : t.strip = .mk 25 s n 0 (ys)) (v : Value) (inn : Int) (x : WX) (bp : Nat) (w : World) (hi : okI inn) (h : PrAt bp x.1 x.2 w) (hlen : x.1.length ≤ 60000) (hl : Lies w bp t v) :
    Calls Tryz.prog 55 #[.pointer (some ⟨bp, 0, none⟩), v, .int .i64 inn] w (WrPost bp (f inn x) w) := by
  have HTC := Lib.hid htc
  have HL := Lib.hid hl
  obtain ⟨k', s', n', a, ks⟩ := t
  obtain ⟨rfl, rfl, rfl, hks⟩ := strip_mk htc
  have HKS := Lib.hid hks
  unfold Lies at hl
  obtain ⟨A, cap, rfl, _, _, _, hsz, hcl, hcc, hkl⟩ := hl
  have HKL := Lib.hid hkl
  have hs := PSt.init h hlen #[.int .i64 25, .string s, .int .i64 n, .int .i64 a, .slice A ks.length cap]
  have c0 := hs.at_ (List.mem_cons_self ..) 0 rfl
  have c1 := hs.at_ (List.mem_cons_self ..) 1 rfl
  have c2 := hs.at_ (List.mem_cons_self ..) 2 rfl
  have c3 := hs.at_ (List.mem_cons_self ..) 3 rfl
  have c4 := hs.at_ (List.mem_cons_self ..) 4 rfl
  have HS := Lib.hid hs
  clear h hs htc hks hkl
  go_enter Tryz.func55, Tryz.ntmps55
  go_wp2_with (go_at_call 78; refine (HS.out.call (hlp _ HTC.out _ inn _ bp _ hi HS.out.pr HS.out.len (HS.out.lies HL.out))).mono ?_; rintro e w1 ⟨rfl, hf⟩)
  go_end0
  exact hf.fin

set_option maxHeartbeats 4000000 in
set_option maxRecDepth 100000 in
theorem stmt_label25 {s : ByteArray} {n : Int} {ys : List Nd} {f : Int → WX → WX} (hlp : LoopIs (.mk 25 s n 0 ys) f) (hs0 : (s.toList == []) = false) (t : Nd) (htc : t.strip = .mk 25 s n 0 (ys)) (v : Value) (inn : Int) (x : WX) (bp : Nat) (w : World) (hi : okI inn) (h : PrAt bp x.1 x.2 w) (hlen : x.1.length ≤ 60000) (hl : Lies w bp t v) :
    Calls Tryz.prog 55 #[.pointer (some ⟨bp, 0, none⟩), v, .int .i64 inn] w (WrPost bp (f inn (putL x [s, ⟨#[58, 32]⟩])) w) := by
  have HTC := Lib.hid htc
  have HL := Lib.hid hl
  obtain ⟨k', s', n', a, ks⟩ := t
  obtain ⟨rfl, rfl, rfl, hks⟩ := strip_mk htc
  have HKS := Lib.hid hks
  unfold Lies at hl
  obtain ⟨A, cap, rfl, _, _, _, hsz, hcl, hcc, hkl⟩ := hl
  have HKL := Lib.hid hkl
  have hs := PSt.init h hlen #[.int .i64 25, .string s, .int .i64 n, .int .i64 a, .slice A ks.length cap]
  have c0 := hs.at_ (List.mem_cons_self ..) 0 rfl
  have c1 := hs.at_ (List.mem_cons_self ..) 1 rfl
  have c2 := hs.at_ (List.mem_cons_self ..) 2 rfl
  have c3 := hs.at_ (List.mem_cons_self ..) 3 rfl
  have c4 := hs.at_ (List.mem_cons_self ..) 4 rfl
  have HS := Lib.hid hs
  clear h hs htc hks hkl
  go_enter Tryz.func55, Tryz.ntmps55
  go_wp2_with (first
      | (go_at_call 49; refine (HS.out.put2 s ⟨#[58, 32]⟩ hsz (by decide)).mono ?_; clear HS; rintro e w1 ⟨rfl, hh⟩
         have c0 := hh.at_ (List.mem_cons_self ..) 0 rfl
         have c1 := hh.at_ (List.mem_cons_self ..) 1 rfl
         have c2 := hh.at_ (List.mem_cons_self ..) 2 rfl
         have c3 := hh.at_ (List.mem_cons_self ..) 3 rfl
         have c4 := hh.at_ (List.mem_cons_self ..) 4 rfl
         have HS1 := Lib.hid hh
         clear hh)
      | (go_at_call 78; refine (HS1.out.call (hlp _ HTC.out _ inn _ bp _ hi HS1.out.pr HS1.out.len (HS1.out.lies HL.out))).mono ?_; rintro e w2 ⟨rfl, hf⟩))
  go_end0
  exact hf.fin

set_option maxHeartbeats 4000000 in
set_option maxRecDepth 100000 in
theorem stmt_loop26 {s : ByteArray} {n : Int} {ys : List Nd} {f : Int → WX → WX} (hlp : LoopIs (.mk 26 s n 0 ys) f) (hs0 : (s.toList == []) = true) (t : Nd) (htc : t.strip = .mk 26 s n 0 (ys)) (v : Value) (inn : Int) (x : WX) (bp : Nat) (w : World) (hi : okI inn) (h : PrAt bp x.1 x.2 w) (hlen : x.1.length ≤ 60000) (hl : Lies w bp t v) :
    Calls Tryz.prog 55 #[.pointer (some ⟨bp, 0, none⟩), v, .int .i64 inn] w (WrPost bp (f inn x) w) := by
  have HTC := Lib.hid htc
  have HL := Lib.hid hl
  obtain ⟨k', s', n', a, ks⟩ := t
  obtain ⟨rfl, rfl, rfl, hks⟩ := strip_mk htc
  have HKS := Lib.hid hks
  unfold Lies at hl
  obtain ⟨A, cap, rfl, _, _, _, hsz, hcl, hcc, hkl⟩ := hl
  have HKL := Lib.hid hkl
  have hs := PSt.init h hlen #[.int .i64 26, .string s, .int .i64 n, .int .i64 a, .slice A ks.length cap]
  have c0 := hs.at_ (List.mem_cons_self ..) 0 rfl
  have c1 := hs.at_ (List.mem_cons_self ..) 1 rfl
  have c2 := hs.at_ (List.mem_cons_self ..) 2 rfl
  have c3 := hs.at_ (List.mem_cons_self ..) 3 rfl
  have c4 := hs.at_ (List.mem_cons_self ..) 4 rfl
  have HS := Lib.hid hs
  clear h hs htc hks hkl
  go_enter Tryz.func55, Tryz.ntmps55
  go_wp2_with (go_at_call 78; refine (HS.out.call (hlp _ HTC.out _ inn _ bp _ hi HS.out.pr HS.out.len (HS.out.lies HL.out))).mono ?_; rintro e w1 ⟨rfl, hf⟩)
  go_end0
  exact hf.fin

set_option maxHeartbeats 4000000 in
set_option maxRecDepth 100000 in
theorem stmt_label26 {s : ByteArray} {n : Int} {ys : List Nd} {f : Int → WX → WX} (hlp : LoopIs (.mk 26 s n 0 ys) f) (hs0 : (s.toList == []) = false) (t : Nd) (htc : t.strip = .mk 26 s n 0 (ys)) (v : Value) (inn : Int) (x : WX) (bp : Nat) (w : World) (hi : okI inn) (h : PrAt bp x.1 x.2 w) (hlen : x.1.length ≤ 60000) (hl : Lies w bp t v) :
    Calls Tryz.prog 55 #[.pointer (some ⟨bp, 0, none⟩), v, .int .i64 inn] w (WrPost bp (f inn (putL x [s, ⟨#[58, 32]⟩])) w) := by
  have HTC := Lib.hid htc
  have HL := Lib.hid hl
  obtain ⟨k', s', n', a, ks⟩ := t
  obtain ⟨rfl, rfl, rfl, hks⟩ := strip_mk htc
  have HKS := Lib.hid hks
  unfold Lies at hl
  obtain ⟨A, cap, rfl, _, _, _, hsz, hcl, hcc, hkl⟩ := hl
  have HKL := Lib.hid hkl
  have hs := PSt.init h hlen #[.int .i64 26, .string s, .int .i64 n, .int .i64 a, .slice A ks.length cap]
  have c0 := hs.at_ (List.mem_cons_self ..) 0 rfl
  have c1 := hs.at_ (List.mem_cons_self ..) 1 rfl
  have c2 := hs.at_ (List.mem_cons_self ..) 2 rfl
  have c3 := hs.at_ (List.mem_cons_self ..) 3 rfl
  have c4 := hs.at_ (List.mem_cons_self ..) 4 rfl
  have HS := Lib.hid hs
  clear h hs htc hks hkl
  go_enter Tryz.func55, Tryz.ntmps55
  go_wp2_with (first
      | (go_at_call 49; refine (HS.out.put2 s ⟨#[58, 32]⟩ hsz (by decide)).mono ?_; clear HS; rintro e w1 ⟨rfl, hh⟩
         have c0 := hh.at_ (List.mem_cons_self ..) 0 rfl
         have c1 := hh.at_ (List.mem_cons_self ..) 1 rfl
         have c2 := hh.at_ (List.mem_cons_self ..) 2 rfl
         have c3 := hh.at_ (List.mem_cons_self ..) 3 rfl
         have c4 := hh.at_ (List.mem_cons_self ..) 4 rfl
         have HS1 := Lib.hid hh
         clear hh)
      | (go_at_call 78; refine (HS1.out.call (hlp _ HTC.out _ inn _ bp _ hi HS1.out.pr HS1.out.len (HS1.out.lies HL.out))).mono ?_; rintro e w2 ⟨rfl, hf⟩))
  go_end0
  exact hf.fin
end Go.Proofs.YtjpmghgmmeemkaaGreatDoor

namespace Go.Proofs.YtjpmghgmmeemkaaGreatDoor
open Go.RowKit

/-- What whole writes of a tree up to its places. -/
def WholeIs (c : Nd) (f : WX → WX) : Prop := ∀ (t : Nd), t.strip = c → ∀ (v : Value) (x : WX) (bp : Nat) (w : World), PrAt bp x.1 x.2 w → x.1.length ≤ 60000 → Lies w bp t v →
  Calls Tryz.prog 31 #[.pointer (some ⟨bp, 0, none⟩), v] w (WrPost bp (f x) w)
noncomputable def declsF : List Nd → WX → WX
  | [], x => x
  | c :: r, x => declsF r (putL (declF c x) [⟨#[10]⟩])

set_option maxHeartbeats 4000000 in
set_option maxRecDepth 100000 in
theorem whole_program {s : ByteArray} {n : Int} {ys : List Nd} (hc : ∀ y ∈ ys, CanD y) (t : Nd) (htc : t.strip = .mk 1 s n 0 (ys)) (v : Value) (x : WX) (bp : Nat) (w : World) (h : PrAt bp x.1 x.2 w) (hlen : x.1.length ≤ 60000) (hl : Lies w bp t v) :
    Calls Tryz.prog 31 #[.pointer (some ⟨bp, 0, none⟩), v] w (WrPost bp (declsF ys x) w) := by
  have HTC := Lib.hid htc
  have HL := Lib.hid hl
  obtain ⟨k', s', n', a, ks⟩ := t
  obtain ⟨rfl, rfl, rfl, hks⟩ := strip_mk htc
  have HKS := Lib.hid hks
  unfold Lies at hl
  obtain ⟨A, cap, rfl, _, _, _, hsz, hcl, hcc, hkl⟩ := hl
  have HKL := Lib.hid hkl
  have hs := PSt.init h hlen #[.int .i64 1, .string s, .int .i64 n, .int .i64 a, .slice A ks.length cap]
  have c0 := hs.at_ (List.mem_cons_self ..) 0 rfl
  have c1 := hs.at_ (List.mem_cons_self ..) 1 rfl
  have c2 := hs.at_ (List.mem_cons_self ..) 2 rfl
  have c3 := hs.at_ (List.mem_cons_self ..) 3 rfl
  have c4 := hs.at_ (List.mem_cons_self ..) 4 rfl
  have HS := Lib.hid hs
  clear h hs htc hks hkl
  obtain ⟨R, hR⟩ : ∃ R, declsF ys x = R := ⟨_, rfl⟩
  rw [hR]
  rw [← HKS.out] at hR
  have HR := Lib.hid hR
  clear hR
  go_enter Tryz.func31, Tryz.ntmps31
  go_wp2_with fail
  go_loopw [18] (fun i wr => ∃ (j : Nat) (y : WX), i = .int .i64 j ∧ j ≤ ks.length ∧ Hid (PSt bp w [] y wr) ∧ Hid (declsF ((stripL ks).drop j) y = R)) (fun i _ => ks.length - (intOf i).toNat)
  case atStart => exact ⟨0, _, rfl, by omega, Lib.hid ⟨HS.out.pr, HS.out.len, HS.out.pf, fun r hr => by simp at hr⟩, HR⟩
  case round =>
    obtain ⟨j, y, rfl, hj, hs, hr⟩ := hrel
    by_cases hlt : j < ks.length
    · obtain ⟨b', o', rfl, hbl', hkl'⟩ : ∃ b o, A = some ⟨b, o, none⟩ ∧ b < bp ∧ LiesL w bp ks b o := by
        rcases HKL.out with h | h
        · subst h; simp at hlt
        · exact h
      obtain ⟨k', s', n', a', A2, cap2, ks', ht, f0, f1, f2, f3, f4, hLt⟩ := LiesL.get j hlt hkl'
      have hg : (stripL ks)[j]? = some (Nd.strip (.mk k' s' n' a' ks')) := by rw [stripL_get, ht]; rfl
      have hco := hc _ (by rw [← HKS.out]; exact List.mem_of_getElem? hg)
      have hd : (stripL ks).drop j = Nd.strip (.mk k' s' n' a' ks') :: (stripL ks).drop (j + 1) := drop_cons hg
      rw [hd] at hr
      have HCO := Lib.hid hco
      have HPS := Lib.hid (hs.out.push #[.int .i64 k', .string s', .int .i64 n', .int .i64 a', .slice A2 ks'.length cap2])
      have HLT := Lib.hid hLt
      have dd0 := hs.out.kid hbl' f0
      have dd1 := hs.out.kid hbl' f1
      have dd2 := hs.out.kid hbl' f2
      have dd3 := hs.out.kid hbl' f3
      have dd4 := hs.out.kid hbl' f4
      clear ht hLt hd hkl' hg hco f0 f1 f2 f3 f4
      have HR' := Lib.hid (show declsF ((stripL ks).drop (j + 1)) (putL (declF (Nd.strip (.mk k' s' n' a' ks')) y) [⟨#[10]⟩]) = R from hr.out)
      go_wp2_with (first
        | (go_at_call 48; refine (HPS.out.call (HCO.out _ rfl _ _ bp _ HPS.out.pr HPS.out.len (HPS.out.lies HLT.out))).mono ?_; rintro e w2 ⟨rfl, h2⟩; have HS2 := Lib.hid h2; clear h2 HPS)
        | (go_at_call 49; refine (HS2.out.put1 ⟨#[10]⟩ (by decide)).mono ?_; rintro e w3 ⟨rfl, h3⟩))
      go_roundw
      case rel => exact ⟨j + 1, _, by go_num, by omega, Lib.hid ⟨h3.pr, h3.len, h3.pf, fun r hr => by simp at hr⟩, HR'⟩
      case measure => simp [intOf]; omega
    · obtain rfl : j = ks.length := by omega
      have hr' : y = R := by
        have h := hr.out
        rw [List.drop_of_length_le (by rw [stripL_length]; omega)] at h
        exact h
      subst hr'
      go_wp2_with fail
      go_end0
      exact hs.out.fin

set_option maxHeartbeats 4000000 in
set_option maxRecDepth 100000 in
theorem whole_decl {k : Int} {s : ByteArray} {n : Int} {ys : List Nd} (h2 : 2 ≤ k) (h7 : k ≤ 7) {f : WX → WX} (hd : DeclIs (.mk k s n 0 ys) f) (t : Nd) (htc : t.strip = .mk k s n 0 (ys)) (v : Value) (x : WX) (bp : Nat) (w : World) (h : PrAt bp x.1 x.2 w) (hlen : x.1.length ≤ 60000) (hl : Lies w bp t v) :
    Calls Tryz.prog 31 #[.pointer (some ⟨bp, 0, none⟩), v] w (WrPost bp (f x) w) := by
  have HTC := Lib.hid htc
  have HL := Lib.hid hl
  obtain ⟨k', s', n', a, ks⟩ := t
  obtain ⟨rfl, rfl, rfl, hks⟩ := strip_mk htc
  have HKS := Lib.hid hks
  unfold Lies at hl
  obtain ⟨A, cap, rfl, _, _, _, hsz, hcl, hcc, hkl⟩ := hl
  have HKL := Lib.hid hkl
  have hs := PSt.init h hlen #[.int .i64 k, .string s, .int .i64 n, .int .i64 a, .slice A ks.length cap]
  have c0 := hs.at_ (List.mem_cons_self ..) 0 rfl
  have c1 := hs.at_ (List.mem_cons_self ..) 1 rfl
  have c2 := hs.at_ (List.mem_cons_self ..) 2 rfl
  have c3 := hs.at_ (List.mem_cons_self ..) 3 rfl
  have c4 := hs.at_ (List.mem_cons_self ..) 4 rfl
  have HS := Lib.hid hs
  clear h hs htc hks hkl
  have e1 : (k == 1) = false := beq_eq_false_iff_ne.2 (by omega)
  have le1 : ((2 : Int) ≤ k) = True := by simp; omega
  have le2 : ((k : Int) ≤ 7) = True := by simp; omega
  go_enter Tryz.func31, Tryz.ntmps31
  go_wp2_with (go_at_call 48; refine (HS.out.call (hd _ HTC.out _ _ bp _ HS.out.pr HS.out.len (HS.out.lies HL.out))).mono ?_; rintro e w1 ⟨rfl, hf⟩)
  go_end0
  exact hf.fin

set_option maxHeartbeats 4000000 in
set_option maxRecDepth 100000 in
theorem whole_member {k : Int} {s : ByteArray} {n : Int} {ys : List Nd} (h8 : 8 ≤ k) (h11 : k ≤ 11) (hm : CanM (.mk k s n 0 ys)) (t : Nd) (htc : t.strip = .mk k s n 0 (ys)) (v : Value) (x : WX) (bp : Nat) (w : World) (h : PrAt bp x.1 x.2 w) (hlen : x.1.length ≤ 60000) (hl : Lies w bp t v) :
    Calls Tryz.prog 31 #[.pointer (some ⟨bp, 0, none⟩), v] w (WrPost bp (memberF (.mk k s n 0 ys) false x) w) := by
  have HTC := Lib.hid htc
  have HL := Lib.hid hl
  obtain ⟨k', s', n', a, ks⟩ := t
  obtain ⟨rfl, rfl, rfl, hks⟩ := strip_mk htc
  have HKS := Lib.hid hks
  unfold Lies at hl
  obtain ⟨A, cap, rfl, _, _, _, hsz, hcl, hcc, hkl⟩ := hl
  have HKL := Lib.hid hkl
  have hs := PSt.init h hlen #[.int .i64 k, .string s, .int .i64 n, .int .i64 a, .slice A ks.length cap]
  have c0 := hs.at_ (List.mem_cons_self ..) 0 rfl
  have c1 := hs.at_ (List.mem_cons_self ..) 1 rfl
  have c2 := hs.at_ (List.mem_cons_self ..) 2 rfl
  have c3 := hs.at_ (List.mem_cons_self ..) 3 rfl
  have c4 := hs.at_ (List.mem_cons_self ..) 4 rfl
  have HS := Lib.hid hs
  clear h hs htc hks hkl
  have e1 : (k == 1) = false := beq_eq_false_iff_ne.2 (by omega)
  have le1 : ((2 : Int) ≤ k) = True := by simp; omega
  have le2 : ((k : Int) ≤ 7) = False := by simp; omega
  have le3 : ((8 : Int) ≤ k) = True := by simp; omega
  have le4 : ((k : Int) ≤ 11) = True := by simp; omega
  go_enter Tryz.func31, Tryz.ntmps31
  go_wp2_with (go_at_call 50; refine (HS.out.call (member_any hm _ HTC.out _ false _ bp _ HS.out.pr HS.out.len (HS.out.lies HL.out))).mono ?_; rintro e w1 ⟨rfl, hf⟩)
  go_end0
  exact hf.fin

set_option maxHeartbeats 4000000 in
set_option maxRecDepth 100000 in
theorem whole_recv {s : ByteArray} {n : Int} {ys : List Nd} (hr : CanRecv (.mk 12 s n 0 ys)) (t : Nd) (htc : t.strip = .mk 12 s n 0 (ys)) (v : Value) (x : WX) (bp : Nat) (w : World) (h : PrAt bp x.1 x.2 w) (hlen : x.1.length ≤ 60000) (hl : Lies w bp t v) :
    Calls Tryz.prog 31 #[.pointer (some ⟨bp, 0, none⟩), v] w (WrPost bp (recvF (.mk 12 s n 0 ys) x) w) := by
  have HTC := Lib.hid htc
  have HL := Lib.hid hl
  obtain ⟨k', s', n', a, ks⟩ := t
  obtain ⟨rfl, rfl, rfl, hks⟩ := strip_mk htc
  have HKS := Lib.hid hks
  unfold Lies at hl
  obtain ⟨A, cap, rfl, _, _, _, hsz, hcl, hcc, hkl⟩ := hl
  have HKL := Lib.hid hkl
  have hs := PSt.init h hlen #[.int .i64 12, .string s, .int .i64 n, .int .i64 a, .slice A ks.length cap]
  have c0 := hs.at_ (List.mem_cons_self ..) 0 rfl
  have c1 := hs.at_ (List.mem_cons_self ..) 1 rfl
  have c2 := hs.at_ (List.mem_cons_self ..) 2 rfl
  have c3 := hs.at_ (List.mem_cons_self ..) 3 rfl
  have c4 := hs.at_ (List.mem_cons_self ..) 4 rfl
  have HS := Lib.hid hs
  clear h hs htc hks hkl
  go_enter Tryz.func31, Tryz.ntmps31
  go_wp2_with (go_at_call 51; refine (HS.out.call (recv_any hr _ HTC.out _ _ bp _ HS.out.pr HS.out.len (HS.out.lies HL.out))).mono ?_; rintro e w1 ⟨rfl, hf⟩)
  go_end0
  exact hf.fin

set_option maxHeartbeats 4000000 in
set_option maxRecDepth 100000 in
theorem whole_names {s : ByteArray} {n : Int} {ys : List Nd} (t : Nd) (htc : t.strip = .mk 13 s n 0 (ys)) (v : Value) (x : WX) (bp : Nat) (w : World) (h : PrAt bp x.1 x.2 w) (hlen : x.1.length ≤ 60000) (hl : Lies w bp t v) :
    Calls Tryz.prog 31 #[.pointer (some ⟨bp, 0, none⟩), v] w (WrPost bp (namesW true (Nd.mk 13 s n 0 ys).kids x) w) := by
  have HTC := Lib.hid htc
  have HL := Lib.hid hl
  obtain ⟨k', s', n', a, ks⟩ := t
  obtain ⟨rfl, rfl, rfl, hks⟩ := strip_mk htc
  have HKS := Lib.hid hks
  unfold Lies at hl
  obtain ⟨A, cap, rfl, _, _, _, hsz, hcl, hcc, hkl⟩ := hl
  have HKL := Lib.hid hkl
  have hs := PSt.init h hlen #[.int .i64 13, .string s, .int .i64 n, .int .i64 a, .slice A ks.length cap]
  have c0 := hs.at_ (List.mem_cons_self ..) 0 rfl
  have c1 := hs.at_ (List.mem_cons_self ..) 1 rfl
  have c2 := hs.at_ (List.mem_cons_self ..) 2 rfl
  have c3 := hs.at_ (List.mem_cons_self ..) 3 rfl
  have c4 := hs.at_ (List.mem_cons_self ..) 4 rfl
  have HS := Lib.hid hs
  clear h hs htc hks hkl
  go_enter Tryz.func31, Tryz.ntmps31
  go_wp2_with (go_at_call 52; refine (HS.out.call (names_any _ _ _ bp _ HS.out.pr HS.out.len (HS.out.lies HL.out))).mono ?_; rintro e w1 ⟨rfl, hf⟩)
  go_end0
  rw [HTC.out] at hf
  exact hf.fin

set_option maxHeartbeats 4000000 in
set_option maxRecDepth 100000 in
theorem whole_none {s : ByteArray} {n : Int} {ys : List Nd} (t : Nd) (htc : t.strip = .mk 16 s n 0 (ys)) (v : Value) (x : WX) (bp : Nat) (w : World) (h : PrAt bp x.1 x.2 w) (hlen : x.1.length ≤ 60000) (hl : Lies w bp t v) :
    Calls Tryz.prog 31 #[.pointer (some ⟨bp, 0, none⟩), v] w (WrPost bp (x) w) := by
  have HTC := Lib.hid htc
  have HL := Lib.hid hl
  obtain ⟨k', s', n', a, ks⟩ := t
  obtain ⟨rfl, rfl, rfl, hks⟩ := strip_mk htc
  have HKS := Lib.hid hks
  unfold Lies at hl
  obtain ⟨A, cap, rfl, _, _, _, hsz, hcl, hcc, hkl⟩ := hl
  have HKL := Lib.hid hkl
  have hs := PSt.init h hlen #[.int .i64 16, .string s, .int .i64 n, .int .i64 a, .slice A ks.length cap]
  have c0 := hs.at_ (List.mem_cons_self ..) 0 rfl
  have c1 := hs.at_ (List.mem_cons_self ..) 1 rfl
  have c2 := hs.at_ (List.mem_cons_self ..) 2 rfl
  have c3 := hs.at_ (List.mem_cons_self ..) 3 rfl
  have c4 := hs.at_ (List.mem_cons_self ..) 4 rfl
  have HS := Lib.hid hs
  clear h hs htc hks hkl
  go_enter Tryz.func31, Tryz.ntmps31
  go_wp2_with fail
  go_end0
  exact HS.out.fin

set_option maxHeartbeats 4000000 in
set_option maxRecDepth 100000 in
theorem whole_case {s : ByteArray} {n : Int} {ys : List Nd} {f : Int → WX → WX} (hk : CaseIs (.mk 27 s n 0 ys) f) (t : Nd) (htc : t.strip = .mk 27 s n 0 (ys)) (v : Value) (x : WX) (bp : Nat) (w : World) (h : PrAt bp x.1 x.2 w) (hlen : x.1.length ≤ 60000) (hl : Lies w bp t v) :
    Calls Tryz.prog 31 #[.pointer (some ⟨bp, 0, none⟩), v] w (WrPost bp (f 0 x) w) := by
  have HTC := Lib.hid htc
  have HL := Lib.hid hl
  obtain ⟨k', s', n', a, ks⟩ := t
  obtain ⟨rfl, rfl, rfl, hks⟩ := strip_mk htc
  have HKS := Lib.hid hks
  unfold Lies at hl
  obtain ⟨A, cap, rfl, _, _, _, hsz, hcl, hcc, hkl⟩ := hl
  have HKL := Lib.hid hkl
  have hs := PSt.init h hlen #[.int .i64 27, .string s, .int .i64 n, .int .i64 a, .slice A ks.length cap]
  have c0 := hs.at_ (List.mem_cons_self ..) 0 rfl
  have c1 := hs.at_ (List.mem_cons_self ..) 1 rfl
  have c2 := hs.at_ (List.mem_cons_self ..) 2 rfl
  have c3 := hs.at_ (List.mem_cons_self ..) 3 rfl
  have c4 := hs.at_ (List.mem_cons_self ..) 4 rfl
  have HS := Lib.hid hs
  clear h hs htc hks hkl
  go_enter Tryz.func31, Tryz.ntmps31
  go_wp2_with (go_at_call 53; refine (HS.out.call (hk _ HTC.out _ 0 _ bp _ okI0 HS.out.pr HS.out.len (HS.out.lies HL.out))).mono ?_; rintro e w1 ⟨rfl, hf⟩)
  go_end0
  exact hf.fin

set_option maxHeartbeats 4000000 in
set_option maxRecDepth 100000 in
theorem whole_stmt {k : Int} {s : ByteArray} {n : Int} {ys : List Nd} (h17 : 17 ≤ k) (h34 : k ≤ 34) (h27 : k ≠ 27) {f : Int → WX → WX} (hs : StmtIs (.mk k s n 0 ys) f) (t : Nd) (htc : t.strip = .mk k s n 0 (ys)) (v : Value) (x : WX) (bp : Nat) (w : World) (h : PrAt bp x.1 x.2 w) (hlen : x.1.length ≤ 60000) (hl : Lies w bp t v) :
    Calls Tryz.prog 31 #[.pointer (some ⟨bp, 0, none⟩), v] w (WrPost bp (f 0 x) w) := by
  have HTC := Lib.hid htc
  have HL := Lib.hid hl
  obtain ⟨k', s', n', a, ks⟩ := t
  obtain ⟨rfl, rfl, rfl, hks⟩ := strip_mk htc
  have HKS := Lib.hid hks
  unfold Lies at hl
  obtain ⟨A, cap, rfl, _, _, _, hsz, hcl, hcc, hkl⟩ := hl
  have HKL := Lib.hid hkl
  have hs' := hs
  have hs := PSt.init h hlen #[.int .i64 k, .string s, .int .i64 n, .int .i64 a, .slice A ks.length cap]
  have c0 := hs.at_ (List.mem_cons_self ..) 0 rfl
  have c1 := hs.at_ (List.mem_cons_self ..) 1 rfl
  have c2 := hs.at_ (List.mem_cons_self ..) 2 rfl
  have c3 := hs.at_ (List.mem_cons_self ..) 3 rfl
  have c4 := hs.at_ (List.mem_cons_self ..) 4 rfl
  have HS := Lib.hid hs
  clear h hs htc hks hkl
  have e1 : (k == 1) = false := beq_eq_false_iff_ne.2 (by omega)
  have le1 : ((2 : Int) ≤ k) = True := by simp; omega
  have le2 : ((k : Int) ≤ 7) = False := by simp; omega
  have le3 : ((8 : Int) ≤ k) = True := by simp; omega
  have le4 : ((k : Int) ≤ 11) = False := by simp; omega
  have e12 : (k == 12) = false := beq_eq_false_iff_ne.2 (by omega)
  have e13 : (k == 13) = false := beq_eq_false_iff_ne.2 (by omega)
  have e16 : (k == 16) = false := beq_eq_false_iff_ne.2 (by omega)
  have e27 : (k == 27) = false := beq_eq_false_iff_ne.2 (by omega)
  have hst : ∀ W, Calls Tryz.prog 54 #[.int .i64 k] W fun e w' => e = .returned (.bool true) ∧ w' = W := fun W => by
    have h := isStmtK_any k W
    have e : stmtK k = true := by simp [stmtK]; omega
    rw [e] at h
    exact h
  have HST := Lib.hid hst
  clear hst
  go_enter Tryz.func31, Tryz.ntmps31
  go_wp2_with (first
      | (go_at_call 54; refine (HST.out _).mono ?_; rintro e ws ⟨rfl, rfl⟩)
      | (go_at_call 55; refine (HS.out.call (hs' _ HTC.out _ 0 _ bp _ okI0 HS.out.pr HS.out.len (HS.out.lies HL.out))).mono ?_; rintro e w9 ⟨rfl, hf⟩))
  go_end0
  exact hf.fin

set_option maxHeartbeats 4000000 in
set_option maxRecDepth 100000 in
theorem whole_expr {k : Int} {s : ByteArray} {n : Int} {ys : List Nd} (h12 : k = 14 ∨ k = 15 ∨ (35 ≤ k ∧ k ≠ 40)) (hB : CanB (.mk k s n 0 ys)) (t : Nd) (htc : t.strip = .mk k s n 0 (ys)) (v : Value) (x : WX) (bp : Nat) (w : World) (h : PrAt bp x.1 x.2 w) (hlen : x.1.length ≤ 60000) (hl : Lies w bp t v) :
    Calls Tryz.prog 31 #[.pointer (some ⟨bp, 0, none⟩), v] w (WrPost bp (bareF (.mk k s n 0 ys) 0 false x) w) := by
  have HTC := Lib.hid htc
  have HL := Lib.hid hl
  obtain ⟨k', s', n', a, ks⟩ := t
  obtain ⟨rfl, rfl, rfl, hks⟩ := strip_mk htc
  have HKS := Lib.hid hks
  unfold Lies at hl
  obtain ⟨A, cap, rfl, _, _, _, hsz, hcl, hcc, hkl⟩ := hl
  have HKL := Lib.hid hkl
  have hs := PSt.init h hlen #[.int .i64 k, .string s, .int .i64 n, .int .i64 a, .slice A ks.length cap]
  have c0 := hs.at_ (List.mem_cons_self ..) 0 rfl
  have c1 := hs.at_ (List.mem_cons_self ..) 1 rfl
  have c2 := hs.at_ (List.mem_cons_self ..) 2 rfl
  have c3 := hs.at_ (List.mem_cons_self ..) 3 rfl
  have c4 := hs.at_ (List.mem_cons_self ..) 4 rfl
  have HS := Lib.hid hs
  clear h hs htc hks hkl
  have e1 : (k == 1) = false := beq_eq_false_iff_ne.2 (by omega)
  have le1 : ((2 : Int) ≤ k) = True := by simp; omega
  have le2 : ((k : Int) ≤ 7) = False := by simp; omega
  have le3 : ((8 : Int) ≤ k) = True := by simp; omega
  have le4 : ((k : Int) ≤ 11) = False := by simp; omega
  have e12 : (k == 12) = false := beq_eq_false_iff_ne.2 (by omega)
  have e13 : (k == 13) = false := beq_eq_false_iff_ne.2 (by omega)
  have e16 : (k == 16) = false := beq_eq_false_iff_ne.2 (by omega)
  have e27 : (k == 27) = false := beq_eq_false_iff_ne.2 (by omega)
  have e40 : (k == 40) = false := beq_eq_false_iff_ne.2 (by omega)
  have hst : ∀ W, Calls Tryz.prog 54 #[.int .i64 k] W fun e w' => e = .returned (.bool false) ∧ w' = W := fun W => by
    have h := isStmtK_any k W
    have e : stmtK k = false := by simp [stmtK]; omega
    rw [e] at h
    exact h
  have HST := Lib.hid hst
  clear hst
  go_enter Tryz.func31, Tryz.ntmps31
  go_wp2_with (first
      | (go_at_call 54; refine (HST.out _).mono ?_; rintro e ws ⟨rfl, rfl⟩)
      | (go_at_call 57; refine (HS.out.call (hB _ HTC.out _ 0 false _ bp _ okI0 HS.out.pr HS.out.len (HS.out.lies HL.out))).mono ?_; rintro e w9 ⟨rfl, hf⟩))
  go_end0
  exact hf.fin

set_option maxHeartbeats 4000000 in
set_option maxRecDepth 100000 in
theorem whole_pair {s : ByteArray} {n : Int} {ys : List Nd} (hO : CanO (.mk 40 s n 0 ys)) (t : Nd) (htc : t.strip = .mk 40 s n 0 (ys)) (v : Value) (x : WX) (bp : Nat) (w : World) (h : PrAt bp x.1 x.2 w) (hlen : x.1.length ≤ 60000) (hl : Lies w bp t v) :
    Calls Tryz.prog 31 #[.pointer (some ⟨bp, 0, none⟩), v] w (WrPost bp (oneF (.mk 40 s n 0 ys) 0 x) w) := by
  have HTC := Lib.hid htc
  have HL := Lib.hid hl
  obtain ⟨k', s', n', a, ks⟩ := t
  obtain ⟨rfl, rfl, rfl, hks⟩ := strip_mk htc
  have HKS := Lib.hid hks
  unfold Lies at hl
  obtain ⟨A, cap, rfl, _, _, _, hsz, hcl, hcc, hkl⟩ := hl
  have HKL := Lib.hid hkl
  have hs := PSt.init h hlen #[.int .i64 40, .string s, .int .i64 n, .int .i64 a, .slice A ks.length cap]
  have c0 := hs.at_ (List.mem_cons_self ..) 0 rfl
  have c1 := hs.at_ (List.mem_cons_self ..) 1 rfl
  have c2 := hs.at_ (List.mem_cons_self ..) 2 rfl
  have c3 := hs.at_ (List.mem_cons_self ..) 3 rfl
  have c4 := hs.at_ (List.mem_cons_self ..) 4 rfl
  have HS := Lib.hid hs
  clear h hs htc hks hkl
  have HST := Lib.hid (fun W => isStmtK_any 40 W)
  go_enter Tryz.func31, Tryz.ntmps31
  go_wp2_with (first
      | (go_at_call 54; refine (HST.out _).mono ?_; rintro e ws ⟨rfl, rfl⟩)
      | (go_at_call 56; refine (HS.out.call (prOne_any hO _ HTC.out _ 0 _ bp _ okI0 HS.out.pr HS.out.len (HS.out.lies HL.out))).mono ?_; rintro e w9 ⟨rfl, hf⟩))
  go_end0
  exact hf.fin
end Go.Proofs.YtjpmghgmmeemkaaGreatDoor
