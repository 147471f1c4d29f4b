/- strconv.ParseUint at the base sixteen; code.float. code.headed of any function of any program. code.Right of a program of one function, all of whose instructions are plain. -/
import Derived.Test.YtdjbkppdppdcgaaGreatDoorMCwG
import Derived.Test.YtdjbkppdppdcgaaGreatDoorCwT
import Derived.Test.YtdjbkppdppdcgaaGreatDoorMCxB
import Derived.Test.YtdjbkppdppdcgaaGreatDoorMCwX
import Derived.Test.YtdjbkppdppdcgaaGreatDoorCwQ
import Derived.Test.YtdjbkppdppdcgaaGreatDoorMScanA
namespace Go.Proofs.YtdjbkppdppdcgaaGreatDoor
open Go.RowKit

def hexCheck (n : Nat) : Bool :=
  (match hexV (UInt8.ofNat n) with | some d => hexA n == some d && Lib.lowerB (UInt8.ofNat n) == UInt8.ofNat n | none => true) &&
  (match hexA n with | some d => decide (n < 128) && (!(n == 43) && (decide (d < 16) && (!(Lib.lowerB (UInt8.ofNat n) == UInt8.ofNat n) || hexV (UInt8.ofNat n) == some d))) | none => true)
theorem hexCheck_all : (List.range 256).all hexCheck = true := by kernel_rfl
theorem hex_byte (c : UInt8) : (∀ d, hexV c = some d → hexA c.toNat = some d ∧ Lib.lowerB c = c) ∧ ∀ d, hexA c.toNat = some d → c.toNat < 128 ∧ c.toNat ≠ 43 ∧ d < 16 ∧ (Lib.lowerB c = c → hexV c = some d) := by
  have h := List.all_eq_true.mp hexCheck_all c.toNat (List.mem_range.2 c.toNat_lt)
  unfold hexCheck at h
  rw [show UInt8.ofNat c.toNat = c by simp] at h
  simp only [Bool.and_eq_true] at h
  obtain ⟨h1, h2⟩ := h
  constructor
  · intro d hd
    rw [hd] at h1
    simpa using h1
  · intro d hd
    rw [hd] at h2
    simp only [Bool.and_eq_true, decide_eq_true_eq, Bool.not_eq_true', beq_eq_false_iff_ne, Bool.or_eq_true, beq_iff_eq] at h2
    obtain ⟨a, b, c', e⟩ := h2
    refine ⟨a, b, c', fun hl => ?_⟩
    rcases e with e | e
    · exact absurd hl e
    · exact e
theorem hexU_of : ∀ (s : List UInt8) (n m : Nat), hexNum s n = some m → (n + 1) * 16 ^ s.length ≤ 18446744073709551616 → hexU s n = some m ∧ Lib.toLowerA s = s
  | [], n, m, h, _ => ⟨h, rfl⟩
  | c :: r, n, m, h, hb => by
    rw [hexNum] at h
    cases hc : hexV c with
    | none => rw [hc] at h; cases h
    | some d =>
      rw [hc] at h
      have h' : hexNum r (16 * n + d) = some m := h
      obtain ⟨ha, hl⟩ := (hex_byte c).1 d hc
      have hd := ((hex_byte c).2 d ha).2.2.1
      have hp : 1 ≤ 16 ^ r.length := by first | exact Nat.pos_pow (by decide) | exact Nat.pow_pos (by decide) | exact Nat.pos_pow_of_pos _ (by decide)
      rw [List.length_cons, Nat.pow_succ] at hb
      have hb2 : (16 * n + d + 1) * 16 ^ r.length ≤ 18446744073709551616 := by
        refine Nat.le_trans (Nat.mul_le_mul_right _ (show 16 * n + d + 1 ≤ (n + 1) * 16 by omega)) ?_
        rw [Nat.mul_assoc, Nat.mul_comm 16]
        exact hb
      have hn : ¬ 1152921504606846976 ≤ n := by
        intro hge
        have : (n + 1) * (16 ^ r.length * 16) ≥ (n + 1) * 16 := Nat.mul_le_mul_left _ (by omega)
        omega
      obtain ⟨i1, i2⟩ := hexU_of r _ m h' hb2
      exact ⟨by rw [hexU_go ha hn]; exact i1, by rw [Lib.toLowerA, List.map_cons, hl]; exact congrArg (c :: ·) i2⟩
theorem hexNum_of : ∀ (s : List UInt8) (n m : Nat), hexU s n = some m → Lib.toLowerA s = s → hexNum s n = some m
  | [], n, m, h, _ => h
  | c :: r, n, m, h, hl => by
    rw [Lib.toLowerA, List.map_cons, List.cons.injEq] at hl
    cases hc : hexA c.toNat with
    | none => rw [hexU_bad hc] at h; cases h
    | some d =>
      have hn : ¬ 1152921504606846976 ≤ n := fun hge => by rw [hexU_far hge] at h; cases h
      rw [hexU_go hc hn] at h
      rw [hexNum, ((hex_byte c).2 d hc).2.2.2 hl.1]
      exact hexNum_of r _ m h hl.2
theorem hexU_ascii : ∀ (s : List UInt8) (n m : Nat), hexU s n = some m → ∀ b ∈ s, b.toNat < 128 ∧ b.toNat ≠ 43
  | [], _, _, _, b, hb => by cases hb
  | c :: r, n, m, h, b, hb => by
    cases hc : hexA c.toNat with
    | none => rw [hexU_bad hc] at h; cases h
    | some d =>
      have hn : ¬ 1152921504606846976 ≤ n := fun hge => by rw [hexU_far hge] at h; cases h
      rw [hexU_go hc hn] at h
      rcases List.mem_cons.1 hb with rfl | hb
      · exact ⟨((hex_byte b).2 d hc).1, ((hex_byte b).2 d hc).2.1⟩
      · exact hexU_ascii r _ m h b hb
def hexW (s : List UInt8) : Option Nat := if s = [] then none else hexU s 0
def UintPost (w : World) (r : Option Nat) (e : Ending) (w' : World) : Prop := Below w.heap.size w w' ∧ match r with
  | some n => n < 18446744073709551616 ∧ e = .returned (.tuple #[.int .u64 n, .nilIface])
  | none => ∃ v te pe, e = .returned (.tuple #[.int .u64 v, .iface te pe])

set_option maxHeartbeats 4000000 in
set_option maxRecDepth 100000 in
theorem hex_outer (t : List UInt8) (hmax : t.length ≤ 4000000000) (w : World) (hG : Gc w) :
    Calls Tryz.prog 109 #[.string ⟨⟨t⟩⟩, .int .i64 16, .int .i64 64] w (UintPost w (hexW t)) := by
  obtain ⟨es, hs1, hs2⟩ := hG.syn
  obtain ⟨er, hr1, hr2⟩ := hG.rng
  have HI : Hid (Calls Tryz.prog 132 #[.string ⟨⟨t⟩⟩, .int .i64 16, .int .i64 64] w (HexPost w (hexW t))) := Lib.hid (by
    cases t with
    | nil =>
      refine (Tryz.internal_strconv_ParseUint_empty 16 64 w).mono ?_
      rintro e w' ⟨rfl, rfl⟩
      exact ⟨Below.refl _ _, 0, 2, .inr rfl, rfl⟩
    | cons c r => exact hex_inner ⟨⟨c :: r⟩⟩ (by show (c :: r).length ≠ 0; simp) hmax w)
  have HT : Hid (∀ w', Below w.heap.size w w' → ∀ k, (k = 1 ∨ k = 2) → Calls Tryz.prog 131 #[.string ⟨#[80, 97, 114, 115, 101, 85, 105, 110, 116]⟩, .string ⟨⟨t⟩⟩, .int .i64 16, .int .i64 64, .iface 234 (.int .i64 k)] w' fun e w'' => ∃ te pe, e = .returned (.iface te pe) ∧ Below w'.heap.size w' w'') := Lib.hid (by
    intro w' hb k hk
    rcases hk with rfl | rfl
    · refine (Tryz.strconv_toError_range _ _ _ _ er w' (by show t.length ≤ _; omega) ((hb.cell (p := ⟨6, 0, none⟩) (Nat.lt_of_lt_of_le (by decide) hG.size)).trans hr1) hr2).mono ?_
      rintro e w'' ⟨N, rfl, _, _, h⟩
      exact ⟨_, _, rfl, h⟩
    · refine (Tryz.strconv_toError_syntax _ _ _ _ es w' (by show t.length ≤ _; omega) ((hb.cell (p := ⟨5, 0, none⟩) (Nat.lt_of_lt_of_le (by decide) hG.size)).trans hs1) hs2).mono ?_
      rintro e w'' ⟨N, rfl, _, _, h⟩
      exact ⟨_, _, rfl, h⟩)
  clear hs1 hs2 hr1 hr2 hG
  obtain ⟨R, hR⟩ : ∃ R, hexW t = R := ⟨_, rfl⟩
  rw [hR] at HI ⊢
  clear hR
  go_enter Tryz.func109, Tryz.ntmps109
  cases R with
  | some n =>
    go_wp2_with (go_at_call 132; refine HI.out.mono ?_; rintro e w1 ⟨hb1, hn, rfl⟩)
    go_ret2
    exact ⟨hb1, hn, rfl⟩
  | none =>
    go_wp2_with (first
      | (go_at_call 132; refine HI.out.mono ?_; rintro e w1 ⟨hb1, v, k, hk, rfl⟩; have HB1 := Lib.hid hb1; clear hb1)
      | (go_at_call 131; refine (HT.out _ HB1.out _ hk).mono ?_; rintro e w2 ⟨te, pe, rfl, hb2⟩))
    go_ret2
    exact ⟨HB1.out.trans (hb2.mono HB1.out.size), _, _, _, rfl⟩
end Go.Proofs.YtdjbkppdppdcgaaGreatDoor

namespace Go.Proofs.YtdjbkppdppdcgaaGreatDoor
open Go.RowKit

theorem headAt_of {w0 w : World} {p : Cp} {n m i : Nat} {fa ga : Option Addr} {xs : List (Cf × Fv)} (hp : PgAt w0 p n m fa ga xs) (hb0 : Below w0.heap.size w0 w) {f : Cf} (hf : p.funcs[i]? = some f) :
    ∃ g q fv, fa = some ⟨g, q, none⟩ ∧ LiesF w0 w0.heap.size (f, fv) ∧ HeadAt w g q i n f.name f.params f.slots f.around fv.ta f.taken.length fv.tc fv.ca f.code.length fv.cc := by
  obtain ⟨g, q, fv, e, hl, x0, x1, x2, x3, x4, x5⟩ := hp.func hf
  have hg : g < w0.heap.size := World.block_lt_of_cell? w0 ⟨g, q + i * 6, none⟩ x0
  have hc : ∀ o v, w0.cell? ⟨g, o, none⟩ = some v → w.cell? ⟨g, o, none⟩ = some v := fun o v h => (hb0.cell (p := ⟨g, o, none⟩) hg).trans h
  have hi : i < p.funcs.length := (List.getElem?_eq_some_iff.1 hf).1
  exact ⟨g, q, fv, e, hl, Nat.lt_of_lt_of_le hg hb0.size, by rw [← hp.fn]; exact hi, hc _ _ x0, hc _ _ x1, hc _ _ x2, hc _ _ x3, hc _ _ x4, hc _ _ x5⟩
def nextOld (i : Nat) (f : Cf) (old : List (List UInt8)) : List (List UInt8) := if i ≠ 0 ∧ f.around = -1 then f.name.data.toList :: old else old
theorem CntAt.more {w : World} {b k k' : Nat} {l : List (List UInt8)} (h : CntAt w b k l) (hk : k ≤ k') : CntAt w b k' l := by
  obtain ⟨D, h1, h2⟩ := h
  exact ⟨D, h1.mono hk, h2⟩
theorem any_out (sl : Int) (n : Nat) : ∀ l : List Int, (!l.any (outB sl n)) = l.all fun t => decide (t < sl) && decide (-(n : Int) ≤ t)
  | [] => rfl
  | t :: r => by
    have h : (decide (t < sl) && decide (-(n : Int) ≤ t)) = !outB sl n t := by
      unfold outB
      rw [Bool.eq_iff_iff]
      simp
    rw [List.any_cons, List.all_cons, ← any_out sl n r, h]
    cases outB sl n t <;> rfl
def HeadPost (w0 w : World) (b k : Nat) (R : Bool) (new : List (List UInt8)) (e : Ending) (w' : World) : Prop :=
  e = .returned (.bool R) ∧ Below w0.heap.size w0 w' ∧ (R = true → CntAt w' b (k + 1) new) ∧ ∀ j, j < w.heap.size → j ≠ b → w'.heap[j]? = w.heap[j]?
theorem headed_any {w0 w : World} {p : Cp} {n m fc gc i b k : Nat} {fa ga : Option Addr} {xs : List (Cf × Fv)} {old : List (List UInt8)} {f : Cf} (hp : PgAt w0 p n m fa ga xs) (hok : CpOk p) (hs : f.name.size ≤ 4000000000) (hb0 : Below w0.heap.size w0 w)
    (hG : Gc w) (h13 : 13 ≤ w0.heap.size) (hbb : w0.heap.size ≤ b) (hc : CntAt w b k old) (hk : k ≤ 100000000000000) (ho : old.length ≤ 100000000000000) (hf : p.funcs[i]? = some f) :
    Calls Tryz.prog 31 #[.agg #[.slice fa n fc, .slice ga m gc], .int .i64 i, .map (some b)] w (HeadPost w0 w b k (headedB p.funcs i f old) (nextOld i f old)) := by
  obtain ⟨g, q, fv, rfl, hl, hA⟩ := headAt_of hp hb0 hf
  have hn : n ≤ 140737488351232 := hp.fn ▸ hok.1
  have hfo := hok.2.2.1 f (List.mem_of_getElem? hf)
  have ht : f.taken.length ≤ 140737488351232 := hfo.2.2.2.2.1
  have up : ∀ w', Below w.heap.size w w' → Below w0.heap.size w0 w' := fun w' h => hb0.trans (h.mono hb0.size)
  have tl : ((f.taken.length : Int) == 0) = (f.taken.length == 0) := by rw [Bool.eq_iff_iff]; simp
  unfold headedB
  by_cases h1 : f.params < 0 ∨ 13 < f.params ∨ f.slots < f.params
  · rw [if_pos h1]
    refine (headed_bad hA hn ht _ h1).mono ?_
    rintro e w' ⟨rfl, hb⟩
    exact ⟨rfl, up _ hb, (fun h => by cases h), fun j hj _ => hb.block j hj⟩
  · rw [if_neg h1]
    by_cases hi : i = 0
    · rw [if_pos hi]
      refine (headed_zero hA hn ht h1 _ hi).mono ?_
      rintro e w' ⟨rfl, hb⟩
      rw [tl]
      refine ⟨rfl, up _ hb, fun _ => ?_, fun j hj _ => hb.block j hj⟩
      rw [nextOld, if_neg (by simp [hi])]
      exact (hc.keep hb).more (Nat.le_succ _)
    · rw [if_neg hi]
      by_cases hr : f.around = -1
      · rw [if_pos hr]
        refine (headed_decl hA hn ht h1 hi hr hG (Nat.le_trans h13 hbb) hc hk ho hs).mono ?_
        rintro e w' ⟨rfl, hg, hc'⟩
        rw [tl]
        refine ⟨rfl, ⟨hg.os.trans hb0.os, hg.tape.trans hb0.tape, hg.output.trans hb0.output, Nat.le_trans hb0.size hg.size, fun j hj => (hg.block j (Nat.lt_of_lt_of_le hj hb0.size) (by intro e; injection e with e; omega)).trans (hb0.block j hj)⟩, fun _ => ?_, fun j hj hne => hg.block j hj (by intro e; injection e with e; exact hne e)⟩
        rw [nextOld, if_pos ⟨hi, hr⟩]
        exact hc'
      · rw [if_neg hr]
        have hno : nextOld i f old = old := by rw [nextOld, if_neg (by simp [hr])]
        rw [hno]
        by_cases hw : f.name.data.toList ≠ [102, 117, 110, 99] ∨ f.around < 0 ∨ (i : Int) ≤ f.around
        · rw [if_pos hw]
          refine (headed_odd hA hn ht h1 _ hi hr hw).mono ?_
          rintro e w' ⟨rfl, hb⟩
          exact ⟨rfl, up _ hb, (fun h => by cases h), fun j hj _ => hb.block j hj⟩
        · rw [if_neg hw]
          obtain ⟨w1, w2⟩ := not_or.1 hw
          obtain ⟨w3, w4⟩ := not_or.1 w2
          obtain ⟨j, hj⟩ : ∃ j : Nat, f.around = (j : Int) := ⟨f.around.toNat, by omega⟩
          have hji : j < i := by omega
          have hin := hA.le
          obtain ⟨f2, hf2⟩ : ∃ f2, p.funcs[j]? = some f2 := ⟨_, List.getElem?_eq_getElem (by rw [hp.fn]; omega)⟩
          obtain ⟨g', q', fv2, e2, hl2, hA2⟩ := headAt_of hp hb0 hf2
          injection e2 with e2
          injection e2 with e2 e3
          subst e2 e3
          have ht2 : f2.taken.length ≤ 140737488351232 := (hok.2.2.1 f2 (List.mem_of_getElem? hf2)).2.2.2.2.1
          refine (headed_inner hA hn ht h1 _ hi hr (by simpa using w1) hj hji hA2 ht2 rfl ((hl.1.keep hb0.block).more hb0.size)).mono ?_
          rintro e w' ⟨rfl, hb⟩
          have hjj : f.around.toNat = j := by omega
          rw [hjj, hf2]
          refine ⟨?_, up _ hb, fun _ => (hc.keep hb).more (Nat.le_succ _), fun j hj _ => hb.block j hj⟩
          rw [any_out]
end Go.Proofs.YtdjbkppdppdcgaaGreatDoor

namespace Go.Proofs.YtdjbkppdppdcgaaGreatDoor
open Go.RowKit

/-- What Right answers. -/
def RightPost (w : World) (o : Option Cwr) (e : Ending) (w' : World) : Prop := Below w.heap.size w w' ∧ match o with
  | none => e = .returned .nilIface
  | some c => ∃ b, e = .returned (.iface 61 (.pointer (some ⟨b, 0, none⟩))) ∧ w.heap.size ≤ b ∧ WrAt w' b c.code c.at_ c.ins
/-- What is asked of such a program. -/
structure Plain (p : Cp) (f : Cf) : Prop where
  one : One p f
  head : headedB p.funcs 0 f [] = true
  ne : 0 < f.code.length
  pl : ∀ (k : Nat) (x : Ci), f.code[k]? = some x → PlainI p 0 x ∧ (k + 1 < f.code.length ∨ x.op = 50 ∨ x.op = 34) ∧ FitI f.code k x
  cnt : ∀ x ∈ f.code, CountedOk x
def rightR : Option Int → Option Cwr
  | some k => some ⟨130, 0, some k⟩
  | none => none
set_option maxRecDepth 100000 in
set_option maxHeartbeats 4000000 in
theorem right_plain {p : Cp} {f : Cf} (hp : Plain p f) {v : Value} {w : World} (hG : Gc w) (hv : LiesC w w.heap.size p v) {R : Option Int} (hr : fitsP f.code = R) (hrb : ∀ k, R = some k → 0 ≤ k ∧ k ≤ 60000) :
    Calls Tryz.prog 13 #[v] w (RightPost w (rightR R)) := by
  have ho := hp.one
  have HR := Lib.hid hr
  have HRB := Lib.hid hrb
  obtain ⟨g, off, fc, ga, gc, fv, rfl, hfc, hA⟩ := hv.one ho
  have HV := Lib.hid hv
  have HO := Lib.hid ho
  have HK := Lib.hid hp
  have HGc := Lib.hid hG
  have HA := Lib.hid hA
  obtain ⟨n, hn⟩ : ∃ n, f.code.length = n := ⟨_, rfl⟩
  have HN := Lib.hid hn
  have hg := hA.lt
  have h1 := ho.code
  have h2 := hp.ne
  rw [hn] at h1 h2
  have HLV := Lib.hid (fun (W : World) (hb : Below w.heap.size w W) => (HV.out.keep hb.block).more hb.size)
  have HCS := Lib.hid (fun (W : World) (hb : Below w.heap.size w W) => (hA.keep hb.block).cs)
  rw [hn] at HCS
  have HFI : Hid (∀ (W : World), Below w.heap.size w W → Calls Tryz.prog 33 #[.agg #[.string f.name, .int .i64 f.params, .int .i64 f.slots, .slice fv.ta f.taken.length fv.tc, .int .i64 f.around, .slice fv.ca n fv.cc]] W fun e w' => e = .returned (.int .i64 (fitsR R)) ∧ Below W.heap.size W w') := Lib.hid fun W hb => by
    have := fits_any (f := f) (v := fv) ((hA.keep hb.block).own.2.1.more hb.size) hp.ne ho.code (fun k x h => (hp.pl k x h).2.2) hp.cnt
    rw [HR.out] at this
    simpa only [fnV, hn] using this
  have hm := mapNew
  clear hv ho hp hG hA hn hr hrb
  have HB0 : Hid (Below w.heap.size w (w.alloc (.cells #[.slice (some ⟨g, off, none⟩) 1 fc, .slice ga 0 gc] 25 (0, 0)))) := Lib.hid ((Below.refl _ _).alloc (Nat.le_refl _) _)
  have HP0 := Lib.hid (heap_alloc_new w (.cells #[.slice (some ⟨g, off, none⟩) 1 fc, .slice ga 0 gc] 25 (0, 0)))
  go_enter Tryz.func13, Tryz.ntmps13
  go_wp2_with (first
    | (go_at_call 28; refine (many_one HO.out (HLV.out _ HB0.out)).mono ?_; rintro e w1 ⟨rfl, hb1⟩; have hB1 := HB0.out.trans (hb1.mono HB0.out.size); have hP1 := (hb1.block _ (Array.getElem?_eq_some_iff.1 HP0.out).1).trans HP0.out; have p1 := cell_of_row w1 _ 1 _ _ _ hP1; simp only [List.getElem?_toArray, List.getElem?_cons_zero, List.getElem?_cons_succ] at p1; have HB1 := Lib.hid hB1; have HP1 := Lib.hid hP1; clear hB1 hP1 hb1)
    | (go_at_call 29; refine (globals_none _ _ _).mono ?_; rintro e w2 ⟨rfl, hb2⟩; have hB2 := HB1.out.trans (hb2.mono HB1.out.size); have hP2 := (hb2.block _ (Array.getElem?_eq_some_iff.1 HP1.out).1).trans HP1.out; have hP3 := (heap_alloc_old w2 (.map #[] 0) (Array.getElem?_eq_some_iff.1 hP2).1).trans hP2; have q0 := cell_of_row _ _ 0 _ _ _ hP3; simp only [List.getElem?_toArray, List.getElem?_cons_zero] at q0; have HB2 := Lib.hid hB2; have HP2 := Lib.hid hP2; clear hB2 hP2 hb2))
  have HB3 : Hid (Below w.heap.size w (w2.alloc (.map #[] 0))) := Lib.hid (HB2.out.alloc HB2.out.size _)
  have HP3 : Hid ((w2.alloc (.map #[] 0)).heap[w.heap.size]? = some (.cells #[.slice (some ⟨g, off, none⟩) 1 fc, .slice ga 0 gc] 25 (0, 0))) := Lib.hid ((heap_alloc_old _ _ (Array.getElem?_eq_some_iff.1 HP2.out).1).trans HP2.out)
  go_loopw [28] (fun i wr => Hid (Below w.heap.size w wr) ∧ Hid (wr.heap[w.heap.size]? = some (.cells #[.slice (some ⟨g, off, none⟩) 1 fc, .slice ga 0 gc] 25 (0, 0))) ∧ (i = .int .i64 0 ∨ i = .int .i64 1)) (fun i _ => 1 - (intOf i).toNat)
  case atStart => exact ⟨HB3, HP3, .inl rfl⟩
  case round =>
    obtain ⟨HB, HP, h⟩ := hrel
    have q0 := cell_of_row wr _ 0 _ _ _ HP.out
    have q1 := cell_of_row wr _ 1 _ _ _ HP.out
    simp only [List.getElem?_toArray, List.getElem?_cons_zero, List.getElem?_cons_succ] at q0 q1
    rcases h with rfl | rfl
    · go_wp2_with (go_at_call 31; refine (headed_one HO.out (HLV.out _ HB.out) _).mono ?_; rintro e w4 ⟨rfl, hb4⟩; rw [HK.out.head]; have HB4 := Lib.hid (HB.out.trans (hb4.mono HB.out.size)); have HP4 := Lib.hid ((hb4.block _ (Array.getElem?_eq_some_iff.1 HP.out).1).trans HP.out); clear hb4)
      go_roundw
      case rel => exact ⟨HB4, HP4, .inr rfl⟩
      case measure => simp [intOf]
    · go_wp2_with fail
      clear q0 q1
      go_loopw [43] (fun i wr => Hid (Below w.heap.size w wr) ∧ Hid (wr.heap[w.heap.size]? = some (.cells #[.slice (some ⟨g, off, none⟩) 1 fc, .slice ga 0 gc] 25 (0, 0))) ∧ (i = .int .i64 0 ∨ i = .int .i64 1)) (fun i _ => 1 - (intOf i).toNat)
      case atStart => exact ⟨HB, HP, .inl rfl⟩
      case round =>
        clear HB HP
        obtain ⟨HB, HP, h⟩ := hrel
        have q0 := cell_of_row wr _ 0 _ _ _ HP.out
        have q1 := cell_of_row wr _ 1 _ _ _ HP.out
        simp only [List.getElem?_toArray, List.getElem?_cons_zero, List.getElem?_cons_succ] at q0 q1
        rcases h with rfl | rfl
        · obtain ⟨x0, x1, x2, x3, x4, x5⟩ := HCS.out _ HB.out
          have dn : ((n : Int) == 0) = false := by simp; omega
          go_wp2_with fail
          have HB5 : Hid (Below w.heap.size w (wr.alloc (.cells #[.string f.name, .int .i64 f.params, .int .i64 f.slots, .slice fv.ta f.taken.length fv.tc, .int .i64 f.around, .slice fv.ca n fv.cc] 43 (0, 0)))) := Lib.hid (HB.out.alloc HB.out.size _)
          have HP5 : Hid ((wr.alloc (.cells #[.string f.name, .int .i64 f.params, .int .i64 f.slots, .slice fv.ta f.taken.length fv.tc, .int .i64 f.around, .slice fv.ca n fv.cc] 43 (0, 0))).heap[w.heap.size]? = some (.cells #[.slice (some ⟨g, off, none⟩) 1 fc, .slice ga 0 gc] 25 (0, 0))) := Lib.hid ((heap_alloc_old _ _ (Array.getElem?_eq_some_iff.1 HP.out).1).trans HP.out)
          go_loopw [58] (fun i wr => Hid (Below w.heap.size w wr) ∧ Hid (wr.heap[w.heap.size]? = some (.cells #[.slice (some ⟨g, off, none⟩) 1 fc, .slice ga 0 gc] 25 (0, 0))) ∧ ∃ k : Nat, i = .int .i64 k ∧ k ≤ n) (fun i _ => n - (intOf i).toNat)
          case atStart => exact ⟨HB5, HP5, 0, rfl, Nat.zero_le _⟩
          case round =>
            clear HB HP HB5 HP5 q0 q1 x0 x1 x2 x3 x4 x5 dn
            obtain ⟨HB, HP, k, rfl, hk⟩ := hrel
            have q0 := cell_of_row wr _ 0 _ _ _ HP.out
            have q1 := cell_of_row wr _ 1 _ _ _ HP.out
            simp only [List.getElem?_toArray, List.getElem?_cons_zero, List.getElem?_cons_succ] at q0 q1
            by_cases hlt : k < n
            · obtain ⟨x, hx⟩ : ∃ x, f.code[k]? = some x := ⟨_, List.getElem?_eq_getElem (by rw [HN.out]; exact hlt)⟩
              have hpx := HK.out.pl k x hx
              have HX := Lib.hid hx
              have HPX := Lib.hid hpx
              clear hx hpx
              go_wp2_with (go_at_call 32; refine (fine_plain (HGc.out.up HB.out) (HLV.out _ HB.out) (show p.funcs[0]? = some f by rw [HO.out.fs]; rfl) HX.out HO.out.code HPX.out.1).mono ?_; rintro e w4 ⟨rfl, hb4⟩; rw [show (decide (k + 1 < f.code.length) || (x.op == 50 || x.op == 34)) = true by rcases HPX.out.2.1 with h | h | h <;> simp [h]]; have HB4 := Lib.hid (HB.out.trans (hb4.mono HB.out.size)); have HP4 := Lib.hid ((hb4.block _ (Array.getElem?_eq_some_iff.1 HP.out).1).trans HP.out); clear hb4)
              go_roundw
              case rel => exact ⟨HB4, HP4, k + 1, by simp, by omega⟩
              case measure => simp [intOf]; omega
            · obtain rfl : k = n := by omega
              go_wp2_with fail
              go_roundw
              case rel => exact ⟨HB, HP, .inr rfl⟩
              case measure => simp [intOf]
        · go_wp2_with fail
          clear q0 q1
          go_loopw [75] (fun i wr => Hid (Below w.heap.size w wr) ∧ (i = .int .i64 0 ∨ (i = .int .i64 1 ∧ R = none))) (fun i _ => 1 - (intOf i).toNat)
          case atStart => exact ⟨HB, .inl rfl⟩
          case round =>
            clear HB HP
            obtain ⟨HB, h⟩ := hrel
            rcases h with rfl | ⟨rfl, rfl⟩
            · obtain ⟨x0, x1, x2, x3, x4, x5⟩ := HCS.out _ HB.out
              cases R with
              | none =>
                have d : decide ((0 : Int) ≤ -1) = false := rfl
                go_wp2_with (go_at_call 33; refine (HFI.out _ (HB.out.alloc HB.out.size _)).mono ?_; rintro e w4 ⟨rfl, hb4⟩; have hw4 : Below w.heap.size w w4 := (HB.out.alloc HB.out.size _).trans (hb4.mono (by rw [World.size_alloc]; exact Nat.le_succ_of_le HB.out.size)); have HB4 := Lib.hid hw4; clear hw4 hb4; simp only [fitsR])
                go_roundw
                case rel => exact ⟨HB4, .inr (by simp)⟩
                case measure => simp [intOf]
              | some z =>
                obtain ⟨hz0, hz1⟩ := HRB.out z rfl
                obtain ⟨j, rfl⟩ := Int.eq_ofNat_of_zero_le hz0
                have d : decide ((0 : Int) ≤ (j : Int)) = true := by simp
                clear HR
                go_wp2_with (first
                  | (go_at_call 33; refine (HFI.out _ (HB.out.alloc HB.out.size _)).mono ?_; rintro e w4 ⟨rfl, hb4⟩; have hw4 : Below w.heap.size w w4 := (HB.out.alloc HB.out.size _).trans (hb4.mono (by rw [World.size_alloc]; exact Nat.le_succ_of_le HB.out.size)); have HB4 := Lib.hid hw4; clear hw4 hb4; simp only [fitsR])
                  | (go_at_call 30; refine (wrong_some 130 0 j (by omega) _ (HGc.out.up HB4.out)).mono ?_; rintro e w5 ⟨hb5, b5, rfl, hl5, hw5⟩))
                go_ret
                exact ⟨HB4.out.trans (hb5.mono HB4.out.size), b5, rfl, Nat.le_trans HB4.out.size hl5, hw5⟩
            · go_wp2_with fail
              go_ret
              exact ⟨HB.out, rfl⟩
end Go.Proofs.YtdjbkppdppdcgaaGreatDoor
