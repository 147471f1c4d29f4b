/- The printer: bare of texts, and of what has something behind. -/
import Derived.Test.YtjpmghgmmeemkaaGreatDoorPrE
import Derived.Test.YtjpmghgmmeemkaaGreatDoorQuote
namespace Go.Proofs.YtjpmghgmmeemkaaGreatDoor
open Go.RowKit

theorem quoteC_len (c : UInt8) : (quoteC c).length ≤ 4 := by
  unfold quoteC
  repeat' split
  all_goals simp
theorem quoteL_len : ∀ l : List UInt8, (quoteL l).length ≤ 4 * l.length
  | [] => by simp [quoteL]
  | c :: r => by
    have h1 := quoteC_len c
    have h2 := quoteL_len r
    simp only [quoteL, List.length_append, List.length_cons]
    omega
/-- A text as a literal. -/
def quoteS (s : ByteArray) : ByteArray := ⟨⟨34 :: quoteL s.data.toList ++ [34]⟩⟩
theorem quoteS_size {s : ByteArray} (h : s.size ≤ 65536) : (quoteS s).size ≤ 140737488351232 := by
  have h1 := quoteL_len s.data.toList
  have h2 : s.data.toList.length = s.size := by simp
  have h3 : (quoteS s).size = (34 :: quoteL s.data.toList ++ [34]).length := rfl
  simp only [List.length_append, List.length_cons, List.length_nil] at h3
  omega
theorem quoteS_any (s : ByteArray) (h : s.size ≤ 65536) (w : World) : Calls Tryz.prog 82 #[.string s] w fun e w' => e = .returned (.string (quoteS s)) ∧ Below w.heap.size w w' :=
  Quote_any s.data.toList w (by have : s.data.toList.length = s.size := by simp
                                omega)
/-- What behind writes of a tree up to its places. -/
def BehIs (c : Nd) (f : Int → Bool → WX → WX) : Prop := ∀ (t : Nd), t.strip = c → ∀ (v : Value) (inn : Int) (head : Bool) (x : WX) (bp : Nat) (w : World), okI inn → PrAt bp x.1 x.2 w → x.1.length ≤ 60000 → Lies w bp t v →
  Calls Tryz.prog 85 #[.pointer (some ⟨bp, 0, none⟩), v, .int .i64 inn, .bool head] w (WrPost bp (f inn head x) w)

set_option maxHeartbeats 4000000 in
set_option maxRecDepth 100000 in
theorem bare_w_beh45 {s : ByteArray} {n : Int} {ys : List Nd} {f : Int → Bool → WX → WX} (hb : BehIs (.mk 45 s n 0 ys) f) (t : Nd) (htc : t.strip = .mk 45 s n 0 (ys)) (v : Value) (inn : Int) (head : Bool) (x : WX) (bp : Nat) (w : World) (hi : okI inn) (h : PrAt bp x.1 x.2 w) (hlen : x.1.length ≤ 60000) (hl : Lies w bp t v) :
    Calls Tryz.prog 57 #[.pointer (some ⟨bp, 0, none⟩), v, .int .i64 inn, .bool head] w (WrPost bp (f inn head x) w) := by
  have HTC := Lib.hid htc
  have HL := Lib.hid hl
  obtain ⟨k', s', n', a, ks⟩ := t
  obtain ⟨rfl, rfl, rfl, hks⟩ := strip_mk htc
  have HKS := Lib.hid hks
  unfold Lies at hl
  obtain ⟨A, cap, rfl, _, _, _, hsz, hcl, hcc, hkl⟩ := hl
  have HKL := Lib.hid hkl
  have hs := PSt.init h hlen #[.int .i64 45, .string s, .int .i64 n, .int .i64 a, .slice A ks.length cap]
  have c0 := hs.at_ (List.mem_cons_self ..) 0 rfl
  have c1 := hs.at_ (List.mem_cons_self ..) 1 rfl
  have c2 := hs.at_ (List.mem_cons_self ..) 2 rfl
  have c3 := hs.at_ (List.mem_cons_self ..) 3 rfl
  have c4 := hs.at_ (List.mem_cons_self ..) 4 rfl
  have HS := Lib.hid hs
  clear h hs htc hks hkl
  go_enter Tryz.func57, Tryz.ntmps57
  go_wp2_with (go_at_call 85; refine (HS.out.call (hb _ HTC.out _ inn head _ bp _ hi HS.out.pr HS.out.len (HS.out.lies HL.out))).mono ?_; rintro e w1 ⟨rfl, hf⟩)
  go_end0
  exact hf.fin

set_option maxHeartbeats 4000000 in
set_option maxRecDepth 100000 in
theorem bare_w_beh46 {s : ByteArray} {n : Int} {ys : List Nd} {f : Int → Bool → WX → WX} (hb : BehIs (.mk 46 s n 0 ys) f) (t : Nd) (htc : t.strip = .mk 46 s n 0 (ys)) (v : Value) (inn : Int) (head : Bool) (x : WX) (bp : Nat) (w : World) (hi : okI inn) (h : PrAt bp x.1 x.2 w) (hlen : x.1.length ≤ 60000) (hl : Lies w bp t v) :
    Calls Tryz.prog 57 #[.pointer (some ⟨bp, 0, none⟩), v, .int .i64 inn, .bool head] w (WrPost bp (f inn head x) w) := by
  have HTC := Lib.hid htc
  have HL := Lib.hid hl
  obtain ⟨k', s', n', a, ks⟩ := t
  obtain ⟨rfl, rfl, rfl, hks⟩ := strip_mk htc
  have HKS := Lib.hid hks
  unfold Lies at hl
  obtain ⟨A, cap, rfl, _, _, _, hsz, hcl, hcc, hkl⟩ := hl
  have HKL := Lib.hid hkl
  have hs := PSt.init h hlen #[.int .i64 46, .string s, .int .i64 n, .int .i64 a, .slice A ks.length cap]
  have c0 := hs.at_ (List.mem_cons_self ..) 0 rfl
  have c1 := hs.at_ (List.mem_cons_self ..) 1 rfl
  have c2 := hs.at_ (List.mem_cons_self ..) 2 rfl
  have c3 := hs.at_ (List.mem_cons_self ..) 3 rfl
  have c4 := hs.at_ (List.mem_cons_self ..) 4 rfl
  have HS := Lib.hid hs
  clear h hs htc hks hkl
  go_enter Tryz.func57, Tryz.ntmps57
  go_wp2_with (go_at_call 85; refine (HS.out.call (hb _ HTC.out _ inn head _ bp _ hi HS.out.pr HS.out.len (HS.out.lies HL.out))).mono ?_; rintro e w1 ⟨rfl, hf⟩)
  go_end0
  exact hf.fin

set_option maxHeartbeats 4000000 in
set_option maxRecDepth 100000 in
theorem bare_w_beh47 {s : ByteArray} {n : Int} {ys : List Nd} {f : Int → Bool → WX → WX} (hb : BehIs (.mk 47 s n 0 ys) f) (t : Nd) (htc : t.strip = .mk 47 s n 0 (ys)) (v : Value) (inn : Int) (head : Bool) (x : WX) (bp : Nat) (w : World) (hi : okI inn) (h : PrAt bp x.1 x.2 w) (hlen : x.1.length ≤ 60000) (hl : Lies w bp t v) :
    Calls Tryz.prog 57 #[.pointer (some ⟨bp, 0, none⟩), v, .int .i64 inn, .bool head] w (WrPost bp (f inn head x) w) := by
  have HTC := Lib.hid htc
  have HL := Lib.hid hl
  obtain ⟨k', s', n', a, ks⟩ := t
  obtain ⟨rfl, rfl, rfl, hks⟩ := strip_mk htc
  have HKS := Lib.hid hks
  unfold Lies at hl
  obtain ⟨A, cap, rfl, _, _, _, hsz, hcl, hcc, hkl⟩ := hl
  have HKL := Lib.hid hkl
  have hs := PSt.init h hlen #[.int .i64 47, .string s, .int .i64 n, .int .i64 a, .slice A ks.length cap]
  have c0 := hs.at_ (List.mem_cons_self ..) 0 rfl
  have c1 := hs.at_ (List.mem_cons_self ..) 1 rfl
  have c2 := hs.at_ (List.mem_cons_self ..) 2 rfl
  have c3 := hs.at_ (List.mem_cons_self ..) 3 rfl
  have c4 := hs.at_ (List.mem_cons_self ..) 4 rfl
  have HS := Lib.hid hs
  clear h hs htc hks hkl
  go_enter Tryz.func57, Tryz.ntmps57
  go_wp2_with (go_at_call 85; refine (HS.out.call (hb _ HTC.out _ inn head _ bp _ hi HS.out.pr HS.out.len (HS.out.lies HL.out))).mono ?_; rintro e w1 ⟨rfl, hf⟩)
  go_end0
  exact hf.fin

set_option maxHeartbeats 4000000 in
set_option maxRecDepth 100000 in
theorem bare_w_beh48 {s : ByteArray} {n : Int} {ys : List Nd} {f : Int → Bool → WX → WX} (hb : BehIs (.mk 48 s n 0 ys) f) (t : Nd) (htc : t.strip = .mk 48 s n 0 (ys)) (v : Value) (inn : Int) (head : Bool) (x : WX) (bp : Nat) (w : World) (hi : okI inn) (h : PrAt bp x.1 x.2 w) (hlen : x.1.length ≤ 60000) (hl : Lies w bp t v) :
    Calls Tryz.prog 57 #[.pointer (some ⟨bp, 0, none⟩), v, .int .i64 inn, .bool head] w (WrPost bp (f inn head x) w) := by
  have HTC := Lib.hid htc
  have HL := Lib.hid hl
  obtain ⟨k', s', n', a, ks⟩ := t
  obtain ⟨rfl, rfl, rfl, hks⟩ := strip_mk htc
  have HKS := Lib.hid hks
  unfold Lies at hl
  obtain ⟨A, cap, rfl, _, _, _, hsz, hcl, hcc, hkl⟩ := hl
  have HKL := Lib.hid hkl
  have hs := PSt.init h hlen #[.int .i64 48, .string s, .int .i64 n, .int .i64 a, .slice A ks.length cap]
  have c0 := hs.at_ (List.mem_cons_self ..) 0 rfl
  have c1 := hs.at_ (List.mem_cons_self ..) 1 rfl
  have c2 := hs.at_ (List.mem_cons_self ..) 2 rfl
  have c3 := hs.at_ (List.mem_cons_self ..) 3 rfl
  have c4 := hs.at_ (List.mem_cons_self ..) 4 rfl
  have HS := Lib.hid hs
  clear h hs htc hks hkl
  go_enter Tryz.func57, Tryz.ntmps57
  go_wp2_with (go_at_call 85; refine (HS.out.call (hb _ HTC.out _ inn head _ bp _ hi HS.out.pr HS.out.len (HS.out.lies HL.out))).mono ?_; rintro e w1 ⟨rfl, hf⟩)
  go_end0
  exact hf.fin

set_option maxHeartbeats 4000000 in
set_option maxRecDepth 100000 in
theorem bare_w_beh49 {s : ByteArray} {n : Int} {ys : List Nd} {f : Int → Bool → WX → WX} (hb : BehIs (.mk 49 s n 0 ys) f) (t : Nd) (htc : t.strip = .mk 49 s n 0 (ys)) (v : Value) (inn : Int) (head : Bool) (x : WX) (bp : Nat) (w : World) (hi : okI inn) (h : PrAt bp x.1 x.2 w) (hlen : x.1.length ≤ 60000) (hl : Lies w bp t v) :
    Calls Tryz.prog 57 #[.pointer (some ⟨bp, 0, none⟩), v, .int .i64 inn, .bool head] w (WrPost bp (f inn head x) w) := by
  have HTC := Lib.hid htc
  have HL := Lib.hid hl
  obtain ⟨k', s', n', a, ks⟩ := t
  obtain ⟨rfl, rfl, rfl, hks⟩ := strip_mk htc
  have HKS := Lib.hid hks
  unfold Lies at hl
  obtain ⟨A, cap, rfl, _, _, _, hsz, hcl, hcc, hkl⟩ := hl
  have HKL := Lib.hid hkl
  have hs := PSt.init h hlen #[.int .i64 49, .string s, .int .i64 n, .int .i64 a, .slice A ks.length cap]
  have c0 := hs.at_ (List.mem_cons_self ..) 0 rfl
  have c1 := hs.at_ (List.mem_cons_self ..) 1 rfl
  have c2 := hs.at_ (List.mem_cons_self ..) 2 rfl
  have c3 := hs.at_ (List.mem_cons_self ..) 3 rfl
  have c4 := hs.at_ (List.mem_cons_self ..) 4 rfl
  have HS := Lib.hid hs
  clear h hs htc hks hkl
  go_enter Tryz.func57, Tryz.ntmps57
  go_wp2_with (go_at_call 85; refine (HS.out.call (hb _ HTC.out _ inn head _ bp _ hi HS.out.pr HS.out.len (HS.out.lies HL.out))).mono ?_; rintro e w1 ⟨rfl, hf⟩)
  go_end0
  exact hf.fin

set_option maxHeartbeats 4000000 in
set_option maxRecDepth 100000 in
theorem bare_w_text {s : ByteArray} {n : Int} {ys : List Nd} (hq : s.size ≤ 65536) (t : Nd) (htc : t.strip = .mk 37 s n 0 (ys)) (v : Value) (inn : Int) (head : Bool) (x : WX) (bp : Nat) (w : World) (_hi : okI inn) (h : PrAt bp x.1 x.2 w) (hlen : x.1.length ≤ 60000) (hl : Lies w bp t v) :
    Calls Tryz.prog 57 #[.pointer (some ⟨bp, 0, none⟩), v, .int .i64 inn, .bool head] w (WrPost bp (putL x [quoteS s]) w) := by
  have HTC := Lib.hid htc
  have HL := Lib.hid hl
  obtain ⟨k', s', n', a, ks⟩ := t
  obtain ⟨rfl, rfl, rfl, hks⟩ := strip_mk htc
  have HKS := Lib.hid hks
  unfold Lies at hl
  obtain ⟨A, cap, rfl, _, _, _, hsz, hcl, hcc, hkl⟩ := hl
  have HKL := Lib.hid hkl
  have hs := PSt.init h hlen #[.int .i64 37, .string s, .int .i64 n, .int .i64 a, .slice A ks.length cap]
  have c0 := hs.at_ (List.mem_cons_self ..) 0 rfl
  have c1 := hs.at_ (List.mem_cons_self ..) 1 rfl
  have c2 := hs.at_ (List.mem_cons_self ..) 2 rfl
  have c3 := hs.at_ (List.mem_cons_self ..) 3 rfl
  have c4 := hs.at_ (List.mem_cons_self ..) 4 rfl
  have HS := Lib.hid hs
  clear h hs htc hks hkl
  go_enter Tryz.func57, Tryz.ntmps57
  go_wp2_with (first
      | (go_at_call 82; refine (quoteS_any s hq _).mono ?_; rintro e w1 ⟨rfl, hb1⟩; have HSQ := Lib.hid (HS.out.below hb1); clear hb1)
      | (go_at_call 49; refine (HSQ.out.put1 (quoteS s) (quoteS_size hq)).mono ?_; rintro e w9 ⟨rfl, hf⟩))
  go_end0
  exact hf.fin
end Go.Proofs.YtjpmghgmmeemkaaGreatDoor
