/- code.numbered. code.typed; strings.Split at a blank; code.says$1 (among); code.names. -/
import Derived.Lib.SplitLaws
import Derived.Test.YtdjbkppdppdcgaaGreatDoorMCyA
import Derived.Test.YtdjbkppdppdcgaaGreatDoorMCwB
import Derived.Test.YtdjbkppdppdcgaaGreatDoorCwN
import Derived.Test.YtdjbkppdppdcgaaGreatDoorMScanA
import Derived.Test.YtdjbkppdppdcgaaGreatDoorMCwG
import Derived.Test.YtdjbkppdppdcgaaGreatDoorMCwX
namespace Go.Proofs.YtdjbkppdppdcgaaGreatDoor
open Go.RowKit

def numbE (p : Cp) (f : Nat) (o : Cf) (x : Ci) : Nat → Bool
  | 0 => x.a == 0
  | 1 => decide (0 ≤ x.a) && decide (x.a < 2)
  | 2 => decide (0 ≤ x.a) && decide (x.a < 3)
  | 3 => decide (0 ≤ x.a) && decide (x.a < o.slots)
  | 4 => decide (0 ≤ x.a) && decide (x.a < p.globals.length)
  | 5 => decide (0 ≤ x.a) && decide (x.a < o.taken.length)
  | 6 => decide (1 ≤ x.a) && decide (x.a ≤ 7)
  | 7 => decide (0 ≤ x.a) && decide (x.a < 20001)
  | 8 => decide (0 ≤ x.a) && decide (x.a < 31)
  | 9 => decide (0 < x.a) && (match p.funcs[x.a.toNat]? with
    | none => false
    | some g => g.around == -1 || g.around == f)
  | 10 => decide (0 ≤ x.a) && decide (x.a < o.code.length)
  | 11 => x.a == 2 || x.a == 3
  | _ => decide (0 ≤ x.a) && decide (x.a < 0)
theorem numb_eq {p : Cp} {f : Nat} {o : Cf} (ho : p.funcs[f]? = some o) (x : Ci) : numberedB p f x = numbE p f o x (formOf x.op).a := by
  unfold numberedB
  rw [ho]
  generalize (formOf x.op).a = a
  unfold numbE
  rfl
theorem below3 (w : World) (o0 o1 o2 : Obj) : (((w.alloc o0).alloc o1).alloc o2).heap[w.heap.size]? = some o0 ∧ (((w.alloc o0).alloc o1).alloc o2).heap[w.heap.size + 1]? = some o1 ∧ (((w.alloc o0).alloc o1).alloc o2).heap[w.heap.size + 1 + 1]? = some o2 ∧ Below w.heap.size w (((w.alloc o0).alloc o1).alloc o2) ∧ (((w.alloc o0).alloc o1).alloc o2).heap.size = w.heap.size + 3 := by
  have e : (((w.alloc o0).alloc o1).alloc o2).heap = ((w.heap.push o0).push o1).push o2 := rfl
  refine ⟨?_, ?_, ?_, ?_, ?_⟩
  · rw [e]; simp [Array.getElem_push, Nat.add_assoc]
  · rw [e]; simp [Array.getElem_push, Nat.add_assoc]
  · rw [e]; simp [Array.getElem_push, Nat.add_assoc]
  · exact (((Below.refl _ _).alloc (Nat.le_refl _) _).alloc (by simp) _).alloc (by simp; omega) _
  · rw [e]; simp

theorem numb_facts {w w4 : World} {o0 o1 o2 : Array Value} {t0 t1 t2 : TypeId} (hA : (((w.alloc (.cells o0 t0 (0, 0))).alloc (.cells o1 t1 (0, 0))).alloc (.cells o2 t2 (0, 0))).heap[w.heap.size]? = some (.cells o0 t0 (0, 0)) ∧ (((w.alloc (.cells o0 t0 (0, 0))).alloc (.cells o1 t1 (0, 0))).alloc (.cells o2 t2 (0, 0))).heap[w.heap.size + 1]? = some (.cells o1 t1 (0, 0)) ∧ (((w.alloc (.cells o0 t0 (0, 0))).alloc (.cells o1 t1 (0, 0))).alloc (.cells o2 t2 (0, 0))).heap[w.heap.size + 1 + 1]? = some (.cells o2 t2 (0, 0)) ∧ Below w.heap.size w (((w.alloc (.cells o0 t0 (0, 0))).alloc (.cells o1 t1 (0, 0))).alloc (.cells o2 t2 (0, 0))) ∧ (((w.alloc (.cells o0 t0 (0, 0))).alloc (.cells o1 t1 (0, 0))).alloc (.cells o2 t2 (0, 0))).heap.size = w.heap.size + 3)
    (hb : Below (((w.alloc (.cells o0 t0 (0, 0))).alloc (.cells o1 t1 (0, 0))).alloc (.cells o2 t2 (0, 0))).heap.size (((w.alloc (.cells o0 t0 (0, 0))).alloc (.cells o1 t1 (0, 0))).alloc (.cells o2 t2 (0, 0))) w4) :
    w4.cell? ⟨w.heap.size, 0, none⟩ = o0[0]? ∧ w4.cell? ⟨w.heap.size, 1, none⟩ = o0[1]? ∧ w4.cell? ⟨w.heap.size + 1, 1, none⟩ = o1[1]? ∧ w4.cell? ⟨w.heap.size + 1 + 1, 2, none⟩ = o2[2]? ∧ w4.cell? ⟨w.heap.size + 1 + 1, 3, none⟩ = o2[3]? ∧ w4.cell? ⟨w.heap.size + 1 + 1, 5, none⟩ = o2[5]? ∧ Below w.heap.size w w4 := by
  obtain ⟨h1, h2, h3, h4, h5⟩ := hA
  rw [h5] at hb
  have k1 := (hb.block w.heap.size (by omega)).trans h1
  have k2 := (hb.block (w.heap.size + 1) (by omega)).trans h2
  have k3 := (hb.block (w.heap.size + 1 + 1) (by omega)).trans h3
  exact ⟨cell_of_row w4 _ 0 _ _ _ k1, cell_of_row w4 _ 1 _ _ _ k1, cell_of_row w4 _ 1 _ _ _ k2, cell_of_row w4 _ 2 _ _ _ k3, cell_of_row w4 _ 3 _ _ _ k3, cell_of_row w4 _ 5 _ _ _ k3, h4.trans (hb.mono (by omega))⟩
attribute [local go_sem] fieldFm1
set_option maxRecDepth 100000 in
set_option maxHeartbeats 4000000 in
theorem numbered_any {p : Cp} {v : Value} {w : World} (hv : LiesC w w.heap.size p v) {f : Nat} {o : Cf} (ho : p.funcs[f]? = some o) (x : Ci) :
    Calls Tryz.prog 57 #[v, .int .i64 f, insV x] w fun e w' => e = .returned (.bool (numberedB p f x)) ∧ Below w.heap.size w w' := by
  obtain ⟨fa, fc, ga, gc, xs, h1, rfl, h3, h4, h5, h6, h7⟩ := hv
  have hfl : f < p.funcs.length := (List.getElem?_eq_some_iff.1 ho).1
  obtain ⟨y, hy⟩ : ∃ y, xs[f]? = some y := ⟨_, List.getElem?_eq_getElem (by have := congrArg List.length h1; simp at this; omega)⟩
  have hyo : y.1 = o := by
    have : (xs.map Prod.fst)[f]? = some y.1 := by simp [hy]
    rw [h1, ho] at this
    exact (Option.some.inj this).symm
  obtain ⟨o', fv⟩ := y
  obtain rfl : o' = o := hyo
  obtain ⟨g, off, rfl, hg, hc⟩ := h3.at (by rw [flat_len fn_len]; have := congrArg List.length h1; simp at this; omega)
  obtain ⟨c0, c1, c2, c3, c4, c5⟩ := fn_at hc hy
  have HC := Lib.hid hc
  have H1 := Lib.hid h1
  have HF := Lib.hid (forms_call x.op)
  have hle := (forms_bytes x.op).2.2.2.2
  obtain ⟨a, ha⟩ : ∃ a, (formOf x.op).a = a := ⟨_, rfl⟩
  have HN := Lib.hid (numb_eq ho x)
  obtain ⟨F, hF⟩ : ∃ F, formOf x.op = F := ⟨_, rfl⟩
  rw [hF] at HF ha hle HN
  rw [ha] at HF hle HN
  obtain ⟨R, HR⟩ : ∃ R, Hid (numberedB p f x = R) := ⟨_, rfl⟩
  rw [HR.out] at HN ⊢
  obtain ⟨n, hn⟩ : ∃ n, p.funcs.length = n := ⟨_, rfl⟩
  obtain ⟨m, hm⟩ : ∃ m, p.globals.length = m := ⟨_, rfl⟩
  have HLN := Lib.hid hn
  have HM := Lib.hid hm
  rw [hn] at hfl h5 ⊢
  rw [hm]
  simp only [insV]
  clear h1 h3 h4 h6 h7 hc hy ho hn hm hF ha
  go_enter Tryz.func57, Tryz.ntmps57
  -- CASES
  have hcase : a = 9 ∨ (a = 0 ∨ a = 1 ∨ a = 2 ∨ a = 3 ∨ a = 4 ∨ a = 5 ∨ a = 6 ∨ a = 7 ∨ a = 8 ∨ a = 10 ∨ a = 11) := by omega
  rcases hcase with rfl | hcase
  · have hn := HN.out
    simp only [numbE] at hn
    by_cases h0 : 0 < x.a
    · have e0 : decide (0 < x.a) = true := decide_eq_true h0
      rw [e0, Bool.true_and] at hn
      obtain ⟨xa, hxa⟩ := Int.eq_ofNat_of_zero_le (Int.le_of_lt h0)
      by_cases h1 : x.a < n
      · have e1 : decide (x.a < (n : Int)) = true := decide_eq_true h1
        have hxl : xa < n := by omega
        obtain ⟨y2, hy2⟩ : ∃ y2, xs[xa]? = some y2 := ⟨_, List.getElem?_eq_getElem (by have := congrArg List.length H1.out; simp at this; have := HLN.out; omega)⟩
        obtain ⟨o2, fv2⟩ := y2
        have ho2 : p.funcs[xa]? = some o2 := by rw [← H1.out]; simp [hy2]
        rw [hxa] at hn
        simp only [Int.toNat_natCast, ho2] at hn
        have hc4 := (fn_at HC.out hy2).2.2.2.2.1
        have HC4 := Lib.hid hc4
        have HN2 := Lib.hid hn
        have e2 : decide (0 < (xa : Int)) = true := by rw [← hxa]; exact e0
        have e3 : decide ((xa : Int) < (n : Int)) = true := by rw [← hxa]; exact e1
        clear hn HN hy2 ho2 hc4 e0 e1 h0 h1
        rw [hxa]
        by_cases hm1 : o2.around = -1
        · have e4 : (o2.around == -1) = true := by simp [hm1]
          have e5 : (o2.around == (f : Int)) = false := by first | (simp [hm1]; done) | (simp [hm1]; omega)
          clear hm1
          go_wp2_with (go_at_call 39; refine (HF.out _).mono ?_; rintro e w4 ⟨rfl, hb4⟩; have hA := below3 w (.cells #[.slice (some ⟨g, off, none⟩) n fc, .slice ga m gc] 25 (0, 0)) (.cells #[.int .i64 x.op, .int .i64 (xa : Int), .int .i64 x.b, .string x.text, .int .i64 x.at_] 46 (0, 0)) (.cells #[.string o'.name, .int .i64 o'.params, .int .i64 o'.slots, .slice fv.ta o'.taken.length fv.tc, .int .i64 o'.around, .slice fv.ca o'.code.length fv.cc] 43 (0, 0)); have hB := numb_facts hA hb4; simp only [List.getElem?_toArray, List.getElem?_cons_zero, List.getElem?_cons_succ] at hB; obtain ⟨z0, z1, z2, z3, z4, z5, z6⟩ := hB; have HBW := Lib.hid z6; have zc := (World.cell?_of_block (w := w) (a := ⟨g, off + xa * 6 + 4, none⟩) (z6.block g hg)).trans HC4.out; clear z6 hA hb4)
          all_goals
            go_ret
            refine ⟨ret_bool ?_, HBW.out⟩
            rw [HN2.out]
            try first | rfl | (simp [*]; done) | (simp_all; done) | (simp_all; omega) | (rw [Bool.eq_iff_iff]; simp; done) | (rw [Bool.eq_iff_iff]; simp; omega) | (rw [Bool.eq_iff_iff]; simp [*]; done) | (rw [Bool.eq_iff_iff]; simp [*]; omega)
        · have e4 : (o2.around == -1) = false := by simp [hm1]
          clear hm1
          go_wp2_with (go_at_call 39; refine (HF.out _).mono ?_; rintro e w4 ⟨rfl, hb4⟩; have hA := below3 w (.cells #[.slice (some ⟨g, off, none⟩) n fc, .slice ga m gc] 25 (0, 0)) (.cells #[.int .i64 x.op, .int .i64 (xa : Int), .int .i64 x.b, .string x.text, .int .i64 x.at_] 46 (0, 0)) (.cells #[.string o'.name, .int .i64 o'.params, .int .i64 o'.slots, .slice fv.ta o'.taken.length fv.tc, .int .i64 o'.around, .slice fv.ca o'.code.length fv.cc] 43 (0, 0)); have hB := numb_facts hA hb4; simp only [List.getElem?_toArray, List.getElem?_cons_zero, List.getElem?_cons_succ] at hB; obtain ⟨z0, z1, z2, z3, z4, z5, z6⟩ := hB; have HBW := Lib.hid z6; have zc := (World.cell?_of_block (w := w) (a := ⟨g, off + xa * 6 + 4, none⟩) (z6.block g hg)).trans HC4.out; clear z6 hA hb4)
          all_goals
            go_ret
            refine ⟨ret_bool ?_, HBW.out⟩
            rw [HN2.out]
            try first | rfl | (simp [*]; done) | (simp_all; done) | (simp_all; omega) | (rw [Bool.eq_iff_iff]; simp; done) | (rw [Bool.eq_iff_iff]; simp; omega) | (rw [Bool.eq_iff_iff]; simp [*]; done) | (rw [Bool.eq_iff_iff]; simp [*]; omega)
      · have e1 : decide (x.a < (n : Int)) = false := decide_eq_false h1
        rw [List.getElem?_eq_none (by have := HLN.out; omega)] at hn
        have HN2 := Lib.hid hn
        have e2 : decide (0 < (xa : Int)) = true := by rw [← hxa]; exact e0
        have e3 : decide ((xa : Int) < (n : Int)) = false := by rw [← hxa]; exact e1
        have hge : n ≤ xa := by omega
        clear hn HN e0 e1 h0 h1
        rw [hxa]
        go_wp2_with (go_at_call 39; refine (HF.out _).mono ?_; rintro e w4 ⟨rfl, hb4⟩; have hA := below3 w (.cells #[.slice (some ⟨g, off, none⟩) n fc, .slice ga m gc] 25 (0, 0)) (.cells #[.int .i64 x.op, .int .i64 (xa : Int), .int .i64 x.b, .string x.text, .int .i64 x.at_] 46 (0, 0)) (.cells #[.string o'.name, .int .i64 o'.params, .int .i64 o'.slots, .slice fv.ta o'.taken.length fv.tc, .int .i64 o'.around, .slice fv.ca o'.code.length fv.cc] 43 (0, 0)); have hB := numb_facts hA hb4; simp only [List.getElem?_toArray, List.getElem?_cons_zero, List.getElem?_cons_succ] at hB; obtain ⟨z0, z1, z2, z3, z4, z5, z6⟩ := hB; have HBW := Lib.hid z6; clear z6 hA hb4)
        all_goals
          go_ret
          exact ⟨ret_bool HN2.out.symm, HBW.out⟩
    · have e0 : decide (0 < x.a) = false := decide_eq_false h0
      rw [e0, Bool.false_and] at hn
      have HN2 := Lib.hid hn
      clear hn HN
      go_wp2_with (go_at_call 39; refine (HF.out _).mono ?_; rintro e w4 ⟨rfl, hb4⟩; have hA := below3 w (.cells #[.slice (some ⟨g, off, none⟩) n fc, .slice ga m gc] 25 (0, 0)) (.cells #[.int .i64 x.op, .int .i64 x.a, .int .i64 x.b, .string x.text, .int .i64 x.at_] 46 (0, 0)) (.cells #[.string o'.name, .int .i64 o'.params, .int .i64 o'.slots, .slice fv.ta o'.taken.length fv.tc, .int .i64 o'.around, .slice fv.ca o'.code.length fv.cc] 43 (0, 0)); have hB := numb_facts hA hb4; simp only [List.getElem?_toArray, List.getElem?_cons_zero, List.getElem?_cons_succ] at hB; obtain ⟨z0, z1, z2, z3, z4, z5, z6⟩ := hB; have HBW := Lib.hid z6; clear z6 hA hb4)
      all_goals
        go_ret
        exact ⟨ret_bool HN2.out.symm, HBW.out⟩
  · rcases hcase with rfl | rfl | rfl | rfl | rfl | rfl | rfl | rfl | rfl | rfl | rfl
    all_goals
      have hn := HN.out
      simp only [numbE] at hn
      have HN2 := Lib.hid hn
      clear hn HN
      go_wp2_with (go_at_call 39; refine (HF.out _).mono ?_; rintro e w4 ⟨rfl, hb4⟩; have hA := below3 w (.cells #[.slice (some ⟨g, off, none⟩) n fc, .slice ga m gc] 25 (0, 0)) (.cells #[.int .i64 x.op, .int .i64 x.a, .int .i64 x.b, .string x.text, .int .i64 x.at_] 46 (0, 0)) (.cells #[.string o'.name, .int .i64 o'.params, .int .i64 o'.slots, .slice fv.ta o'.taken.length fv.tc, .int .i64 o'.around, .slice fv.ca o'.code.length fv.cc] 43 (0, 0)); have hB := numb_facts hA hb4; simp only [List.getElem?_toArray, List.getElem?_cons_zero, List.getElem?_cons_succ] at hB; obtain ⟨z0, z1, z2, z3, z4, z5, z6⟩ := hB; have HBW := Lib.hid z6; clear z6 hA hb4)
      all_goals
        go_ret
        refine ⟨ret_bool ?_, HBW.out⟩
        rw [HN2.out]
        try rw [HM.out]
        try first | rfl | (simp [*]; done) | (simp_all; done) | (simp_all; omega) | (rw [Bool.eq_iff_iff]; simp; done) | (rw [Bool.eq_iff_iff]; simp; omega) | (rw [Bool.eq_iff_iff]; simp [*]; done) | (rw [Bool.eq_iff_iff]; simp [*]; omega)
end Go.Proofs.YtdjbkppdppdcgaaGreatDoor

namespace Go.Proofs.YtdjbkppdppdcgaaGreatDoor
open Go.RowKit

set_option maxRecDepth 100000 in
set_option maxHeartbeats 4000000 in
theorem typed_any (s : List UInt8) (p a : Bool) (w : World) (h : Gc w) (hs : s.length ≤ 4000000000) : Calls Tryz.prog 84 #[.string ⟨⟨s⟩⟩, .bool p, .bool a] w fun e w' => e = .returned (.bool (typedB s p a)) ∧ Below w.heap.size w w' := by
  have HN : Hid (Calls Tryz.prog 52 #[.string ⟨⟨s⟩⟩] w fun e w' => e = .returned (.bool (nameL s)) ∧ Below w.heap.size w w') := Lib.hid (named_any ⟨⟨s⟩⟩ w h (by show s.length ≤ _; omega))
  have HR : Hid (typedB s p a = (nameL s || (!p && (s == [109, 97, 112] || s == [102, 117, 110, 99] || (a && s == [97, 110, 121]))))) := Lib.hid rfl
  clear h
  go_enter Tryz.func84, Tryz.ntmps84
  cases e0 : nameL s <;> rw [e0] at HN HR
  · cases p
    · cases e1 : (s == [109, 97, 112]) <;> rw [e1] at HR
      · cases e2 : (s == [102, 117, 110, 99]) <;> rw [e2] at HR
        · cases a <;> rw [HR.out] <;> clear HR
          all_goals
            go_wp2_with (go_at_call 52; refine HN.out.mono ?_; rintro e w' ⟨rfl, hb⟩)
            go_ret
            exact ⟨ret_bool (by first | rfl | simp_all), hb⟩
        · rw [HR.out]
          clear HR
          go_wp2_with (go_at_call 52; refine HN.out.mono ?_; rintro e w' ⟨rfl, hb⟩)
          go_ret
          exact ⟨ret_bool (by first | rfl | simp_all), hb⟩
      · rw [HR.out]
        clear HR
        go_wp2_with (go_at_call 52; refine HN.out.mono ?_; rintro e w' ⟨rfl, hb⟩)
        go_ret
        exact ⟨ret_bool (by first | rfl | simp_all), hb⟩
    · rw [HR.out]
      clear HR
      go_wp2_with (go_at_call 52; refine HN.out.mono ?_; rintro e w' ⟨rfl, hb⟩)
      go_ret
      exact ⟨ret_bool (by first | rfl | simp_all), hb⟩
  · rw [HR.out]
    clear HR
    go_wp2_with (go_at_call 52; refine HN.out.mono ?_; rintro e w' ⟨rfl, hb⟩)
    go_ret
    exact ⟨ret_bool (by first | rfl | simp_all), hb⟩

theorem part_len (c : UInt8) : ∀ (s : List UInt8) (t : List UInt8), t ∈ splitC c s → t.length ≤ s.length
  | [], t, h => by
    rw [splitC, List.mem_singleton] at h
    rw [h]; exact Nat.le_refl _
  | x :: r, t, h => by
    rw [splitC] at h
    by_cases hx : x = c
    · rw [if_pos hx, List.mem_cons] at h
      rcases h with rfl | h
      · exact Nat.zero_le _
      · exact Nat.le_succ_of_le (part_len c r t h)
    · rw [if_neg hx] at h
      have ih := part_len c r
      cases hs : splitC c r with
      | nil =>
        rw [hs] at h
        rw [List.mem_singleton.1 h]
        simp
      | cons y ys =>
        rw [hs] at h ih
        rcases List.mem_cons.1 h with rfl | h
        · have := ih y (List.mem_cons_self ..)
          simp only [List.length_cons]; omega
        · exact Nat.le_succ_of_le (ih t (List.mem_cons_of_mem _ h))
theorem split32 (S : ByteArray) (hs : S.size ≤ 4000000000) : ∃ xs : List ByteArray, xs.map (fun x => x.data.toList) = splitC 32 S.data.toList ∧ (∀ x ∈ xs, x.size ≤ S.size) ∧ xs.length ≤ S.size + 1 ∧
    ∀ V, Gc V → Calls Tryz.prog 69 #[.string S, .string ⟨#[32]⟩] V fun e V' => e = .returned (.slice (some ⟨V.heap.size, 0, none⟩) xs.length xs.length) ∧ V' = V.alloc (.cells (xs.map Value.string).toArray 9) := by
  have h1 := split_one S 32
  have hc : Lib.countB S ⟨#[32]⟩ ≤ S.size := by
    unfold Lib.countB
    rw [show (⟨#[32]⟩ : ByteArray).data.toList = [32] from rfl, Lib.count_one]
    exact List.count_le_length
  refine ⟨_, h1, fun x hx => ?_, ?_, fun V hV => ?_⟩
  · have hm : x.data.toList ∈ splitC 32 S.data.toList := by rw [← h1]; exact List.mem_map_of_mem hx
    exact part_len 32 _ _ hm
  · rw [Lib.splitB_all ⟨#[32]⟩ (by decide) 0 _ S rfl]; omega
  · obtain ⟨m, hm⟩ := hV.max
    refine (Tryz.strings_Split S ⟨#[32]⟩ m V (by omega) hm (by decide)).mono ?_
    rintro e V' ⟨rfl, rfl⟩
    rw [Lib.splitB_all ⟨#[32]⟩ (by decide) 0 _ S rfl]
    exact ⟨rfl, rfl⟩

set_option maxRecDepth 100000 in
set_option maxHeartbeats 4000000 in
theorem among_any (L : ByteArray) (W : List (List UInt8)) (hL : splitC 32 L.data.toList = W) (hLs : L.size ≤ 1000) {w : World} (hG : Gc w) {b : Nat} {T : List UInt8} (hc : w.cell? ⟨b, 3, none⟩ = some (.string ⟨⟨T⟩⟩)) :
    Calls Tryz.prog 81 #[.string L, .pointer (some ⟨b, 0, none⟩)] w fun e w' => e = .returned (.bool (amongB W T)) ∧ Below w.heap.size w w' := by
  obtain ⟨xs, h1, h2, h3, h4⟩ := split32 L (by omega)
  have hbw := World.block_lt_of_cell? w _ hc
  dsimp only at hbw
  have HS := Lib.hid h4
  have HA : Hid (amongB W T = (!T.isEmpty && xs.any (fun x => (⟨⟨T⟩⟩ : ByteArray).toList == x.toList))) := Lib.hid (by
    unfold amongB
    congr 1
    rw [← hL, ← h1, List.any_map]
    congr 1
    funext x
    rw [ByteArray.toList_eq, ByteArray.toList_eq, Function.comp_apply, Bool.beq_comm])
  have HX : Hid (xs.length ≤ 140737488351232) := Lib.hid (by omega)
  obtain ⟨n, hn⟩ : ∃ n, xs.length = n := ⟨_, rfl⟩
  have HC : Hid (∀ (V : World) (cap : Nat), Calls Tryz.prog 77 #[.slice (some ⟨V.heap.size, 0, none⟩) n cap, .string ⟨⟨T⟩⟩] (V.alloc (.cells (xs.map Value.string).toArray 9)) fun e w' => e = .returned (.bool (xs.any (fun x => (⟨⟨T⟩⟩ : ByteArray).toList == x.toList))) ∧ w' = V.alloc (.cells (xs.map Value.string).toArray 9)) :=
    Lib.hid fun V cap => hn ▸ Contains_list xs V.heap.size cap 9 (0, 0) ⟨⟨T⟩⟩ _ (heap_alloc_new _ _) HX.out
  rw [hn] at HS
  have HG : Hid (Gc w.drew) := Lib.hid (hG.up (drew_under w 1))
  have hc0 : w.drew.cell? ⟨b, 3, none⟩ = some (.string ⟨⟨T⟩⟩) := hc
  have hbd : b < w.drew.heap.size := hbw
  have HB : Hid (Below w.heap.size w w.drew) := Lib.hid (drew_under w 1)
  clear h1 h2 h3 h4 hG hn HX hc hbw
  cases T with
  | cons c r =>
    rw [HA.out]
    clear HA
    obtain ⟨B, hB⟩ : ∃ B, w.heap.size = B := ⟨_, rfl⟩
    obtain ⟨R, hR⟩ : ∃ R, (xs.any fun x => (⟨⟨c :: r⟩⟩ : ByteArray).toList == x.toList) = R := ⟨_, rfl⟩
    rw [hR] at HC ⊢
    go_enter Tryz.func81, Tryz.ntmps81
    go_upto_region 1 with fail
    refine wp_region_G [] (fun u => u.cell? ⟨b, 3, none⟩ = some (.string ⟨⟨c :: r⟩⟩)) (by rfl) ?_ (fun hHeld => ?_)
    · exact hc0
    generalize hwd : World.drew w = wd at HG HB hc0 hbd hHeld ⊢
    refine wpAnyG_take (i := 0) (v := ?_) rfl (by kernel_rfl) (by kernel_rfl) (by kernel_rfl) (by kernel_rfl) (by kernel_rfl) (fun _ _ _ h => h) (Or.inl ⟨by rfl, ?_⟩) (by assumption) ?_
    rotate_left
    · (intro w hSw; (try dsimp only at hSw); go_simp; try with_reducible rfl)
    try simp only [Act.put, List.getElem_toArray, List.getElem_cons_zero, List.setIfInBounds_toArray, List.set_cons_zero, List.set_cons_succ]
    refine wpAnyG_take (i := 1) (v := ?_) rfl (by kernel_rfl) (by kernel_rfl) (by kernel_rfl) (by kernel_rfl) (by kernel_rfl) (fun _ _ _ h => h) (Or.inl ⟨by rfl, ?_⟩) (by assumption) ?_
    rotate_left
    · (intro w hSw; (try dsimp only at hSw); go_simp; try with_reducible rfl)
    try simp only [Act.put, List.getElem_toArray, List.getElem_cons_zero, List.getElem_cons_succ, List.setIfInBounds_toArray, List.set_cons_zero, List.set_cons_succ]
    refine wpAnyG_take (i := 2) (v := ?_) rfl (by kernel_rfl) (by kernel_rfl) (by kernel_rfl) (by kernel_rfl) (by kernel_rfl) (fun _ _ _ h => h) (Or.inl ⟨by rfl, ?_⟩) (by assumption) ?_
    rotate_left
    · (intro w hSw; (try dsimp only at hSw); go_simp; try with_reducible rfl)
    try simp only [Act.put, List.getElem_toArray, List.getElem_cons_zero, List.getElem_cons_succ, List.setIfInBounds_toArray, List.set_cons_zero, List.set_cons_succ]
    refine wpAnyG_take (i := 3) (v := ?_) rfl (by kernel_rfl) (by kernel_rfl) (by kernel_rfl) (by kernel_rfl) (by kernel_rfl) (fun _ _ _ h => h) (Or.inl ⟨by rfl, ?_⟩) (by assumption) ?_
    rotate_left
    · (intro w hSw; (try dsimp only at hSw); go_simp; try with_reducible rfl)
    try simp only [Act.put, List.getElem_toArray, List.getElem_cons_zero, List.getElem_cons_succ, List.setIfInBounds_toArray, List.set_cons_zero, List.set_cons_succ]
    refine wpAnyG_take (i := 4) (v := ?_) rfl (by kernel_rfl) (by kernel_rfl) (by kernel_rfl) (by kernel_rfl) (by kernel_rfl) (fun _ _ _ h => h) (Or.inl ⟨by rfl, ?_⟩) (by assumption) ?_
    rotate_left
    · (intro w hSw; (try dsimp only at hSw); go_simp; try with_reducible rfl)
    try simp only [Act.put, List.getElem_toArray, List.getElem_cons_zero, List.getElem_cons_succ, List.setIfInBounds_toArray, List.set_cons_zero, List.set_cons_succ]
    refine wpAnyG_take (i := 6) (v := ?_) rfl (by kernel_rfl) (by kernel_rfl) (by kernel_rfl) (by kernel_rfl) (by kernel_rfl) (fun _ _ _ h => h) (Or.inl ⟨by rfl, ?_⟩) (by assumption) ?_
    rotate_left
    · (intro w hSw; (try dsimp only at hSw); go_simp; try with_reducible rfl)
    try simp only [Act.put, List.getElem_toArray, List.getElem_cons_zero, List.getElem_cons_succ, List.setIfInBounds_toArray, List.set_cons_zero, List.set_cons_succ]
    refine wpAnyG_take (i := 7) (v := ?_) rfl (by kernel_rfl) (by kernel_rfl) (by kernel_rfl) (by kernel_rfl) (by kernel_rfl) (fun _ _ _ h => h) (Or.inl ⟨by rfl, ?_⟩) (by assumption) ?_
    rotate_left
    · (intro w hSw; (try dsimp only at hSw); go_simp; try with_reducible rfl)
    try simp only [Act.put, List.getElem_toArray, List.getElem_cons_zero, List.getElem_cons_succ, List.setIfInBounds_toArray, List.set_cons_zero, List.set_cons_succ]
    refine wpAnyG_ready (rs := [5]) (by kernel_rfl) (by simp) ?_
    refine AllReadyG.cons rfl (fun KK hKK => ?_) AllReadyG.nil
    go_simp
    go_at_call 69
    refine (HS.out _ HG.out).mono ?_
    rintro e wz ⟨rfl, rfl⟩
    have hc1 := (((Below.refl wd.heap.size wd).alloc (Nat.le_refl _) (.cells (xs.map Value.string).toArray 9)).cell (p := ⟨b, 3, none⟩) hbd).trans hc0
    try dsimp only
    refine hKK.out _ _ (hc1) (fun hHeld => ?_)
    clear hKK KK
    try simp only [Act.put, List.getElem_toArray, List.getElem_cons_zero, List.getElem_cons_succ, List.setIfInBounds_toArray, List.set_cons_zero, List.set_cons_succ]
    refine wpAnyG_ready (rs := [8]) (by kernel_rfl) (by simp) ?_
    refine AllReadyG.cons rfl (fun KK hKK => ?_) AllReadyG.nil
    go_simp
    go_at_call 77
    refine (HC.out _ _).mono ?_
    rintro e wz ⟨rfl, rfl⟩
    try dsimp only
    refine hKK.out _ _ (hc1) (fun hHeld => ?_)
    clear hKK KK
    try simp only [Act.put, List.getElem_toArray, List.getElem_cons_zero, List.getElem_cons_succ, List.setIfInBounds_toArray, List.set_cons_zero, List.set_cons_succ]
    refine wpAnyG_take (i := 9) (v := ?_) rfl (by kernel_rfl) (by kernel_rfl) (by kernel_rfl) (by kernel_rfl) (by kernel_rfl) (fun _ _ _ h => h) (Or.inl ⟨by rfl, ?_⟩) (by assumption) ?_
    rotate_left
    · (intro w hSw; (try dsimp only at hSw); go_simp; try with_reducible rfl)
    try simp only [Act.put, List.getElem_toArray, List.getElem_cons_zero, List.getElem_cons_succ, List.setIfInBounds_toArray, List.set_cons_zero, List.set_cons_succ]
    refine wpAnyG_take (i := 10) (v := ?_) rfl (by kernel_rfl) (by kernel_rfl) (by kernel_rfl) (by kernel_rfl) (by kernel_rfl) (fun _ _ _ h => h) (Or.inl ⟨by rfl, ?_⟩) (by assumption) ?_
    rotate_left
    · (intro w hSw; (try dsimp only at hSw); go_simp; try with_reducible rfl)
    try simp only [Act.put, List.getElem_toArray, List.getElem_cons_zero, List.getElem_cons_succ, List.setIfInBounds_toArray, List.set_cons_zero, List.set_cons_succ]
    refine wpAnyG_done (by kernel_rfl) ?_ _
    go_wp2_with fail
    go_ret
    exact ⟨ret_bool rfl, HB.out.alloc HB.out.size _⟩
  | nil =>
    rw [HA.out]
    clear HA HC
    go_enter Tryz.func81, Tryz.ntmps81
    go_upto_region 1 with fail
    refine wp_region_G [] (fun u => u.cell? ⟨b, 3, none⟩ = some (.string ⟨⟨[]⟩⟩)) (by rfl) ?_ (fun hHeld => ?_)
    · exact hc0
    generalize hwd : World.drew w = wd at HG HB hc0 hbd hHeld ⊢
    refine wpAnyG_take (i := 0) (v := ?_) rfl (by kernel_rfl) (by kernel_rfl) (by kernel_rfl) (by kernel_rfl) (by kernel_rfl) (fun _ _ _ h => h) (Or.inl ⟨by rfl, ?_⟩) (by assumption) ?_
    rotate_left
    · (intro w hSw; (try dsimp only at hSw); go_simp; try with_reducible rfl)
    try simp only [Act.put, List.getElem_toArray, List.getElem_cons_zero, List.setIfInBounds_toArray, List.set_cons_zero, List.set_cons_succ]
    refine wpAnyG_take (i := 1) (v := ?_) rfl (by kernel_rfl) (by kernel_rfl) (by kernel_rfl) (by kernel_rfl) (by kernel_rfl) (fun _ _ _ h => h) (Or.inl ⟨by rfl, ?_⟩) (by assumption) ?_
    rotate_left
    · (intro w hSw; (try dsimp only at hSw); go_simp; try with_reducible rfl)
    try simp only [Act.put, List.getElem_toArray, List.getElem_cons_zero, List.getElem_cons_succ, List.setIfInBounds_toArray, List.set_cons_zero, List.set_cons_succ]
    refine wpAnyG_take (i := 2) (v := ?_) rfl (by kernel_rfl) (by kernel_rfl) (by kernel_rfl) (by kernel_rfl) (by kernel_rfl) (fun _ _ _ h => h) (Or.inl ⟨by rfl, ?_⟩) (by assumption) ?_
    rotate_left
    · (intro w hSw; (try dsimp only at hSw); go_simp; try with_reducible rfl)
    try simp only [Act.put, List.getElem_toArray, List.getElem_cons_zero, List.getElem_cons_succ, List.setIfInBounds_toArray, List.set_cons_zero, List.set_cons_succ]
    refine wpAnyG_take (i := 3) (v := ?_) rfl (by kernel_rfl) (by kernel_rfl) (by kernel_rfl) (by kernel_rfl) (by kernel_rfl) (fun _ _ _ h => h) (Or.inl ⟨by rfl, ?_⟩) (by assumption) ?_
    rotate_left
    · (intro w hSw; (try dsimp only at hSw); go_simp; try with_reducible rfl)
    try simp only [Act.put, List.getElem_toArray, List.getElem_cons_zero, List.getElem_cons_succ, List.setIfInBounds_toArray, List.set_cons_zero, List.set_cons_succ]
    refine wpAnyG_take (i := 4) (v := undef) rfl (by kernel_rfl) (by kernel_rfl) (by kernel_rfl) (by kernel_rfl) (by kernel_rfl) (fun _ _ _ h => h) (Or.inr ⟨by rfl, rfl⟩) (by assumption) ?_
    try simp only [Act.put, List.getElem_toArray, List.getElem_cons_zero, List.getElem_cons_succ, List.setIfInBounds_toArray, List.set_cons_zero, List.set_cons_succ]
    refine wpAnyG_take (i := 5) (v := undef) rfl (by kernel_rfl) (by kernel_rfl) (by kernel_rfl) (by kernel_rfl) (by kernel_rfl) (fun _ _ _ h => h) (Or.inr ⟨by rfl, rfl⟩) (by assumption) ?_
    try simp only [Act.put, List.getElem_toArray, List.getElem_cons_zero, List.getElem_cons_succ, List.setIfInBounds_toArray, List.set_cons_zero, List.set_cons_succ]
    refine wpAnyG_take (i := 6) (v := undef) rfl (by kernel_rfl) (by kernel_rfl) (by kernel_rfl) (by kernel_rfl) (by kernel_rfl) (fun _ _ _ h => h) (Or.inr ⟨by rfl, rfl⟩) (by assumption) ?_
    try simp only [Act.put, List.getElem_toArray, List.getElem_cons_zero, List.getElem_cons_succ, List.setIfInBounds_toArray, List.set_cons_zero, List.set_cons_succ]
    refine wpAnyG_take (i := 7) (v := undef) rfl (by kernel_rfl) (by kernel_rfl) (by kernel_rfl) (by kernel_rfl) (by kernel_rfl) (fun _ _ _ h => h) (Or.inr ⟨by rfl, rfl⟩) (by assumption) ?_
    try simp only [Act.put, List.getElem_toArray, List.getElem_cons_zero, List.getElem_cons_succ, List.setIfInBounds_toArray, List.set_cons_zero, List.set_cons_succ]
    refine wpAnyG_take (i := 8) (v := undef) rfl (by kernel_rfl) (by kernel_rfl) (by kernel_rfl) (by kernel_rfl) (by kernel_rfl) (fun _ _ _ h => h) (Or.inr ⟨by rfl, rfl⟩) (by assumption) ?_
    try simp only [Act.put, List.getElem_toArray, List.getElem_cons_zero, List.getElem_cons_succ, List.setIfInBounds_toArray, List.set_cons_zero, List.set_cons_succ]
    refine wpAnyG_take (i := 9) (v := ?_) rfl (by kernel_rfl) (by kernel_rfl) (by kernel_rfl) (by kernel_rfl) (by kernel_rfl) (fun _ _ _ h => h) (Or.inl ⟨by rfl, ?_⟩) (by assumption) ?_
    rotate_left
    · (intro w hSw; (try dsimp only at hSw); go_simp; try with_reducible rfl)
    try simp only [Act.put, List.getElem_toArray, List.getElem_cons_zero, List.getElem_cons_succ, List.setIfInBounds_toArray, List.set_cons_zero, List.set_cons_succ]
    refine wpAnyG_take (i := 10) (v := ?_) rfl (by kernel_rfl) (by kernel_rfl) (by kernel_rfl) (by kernel_rfl) (by kernel_rfl) (fun _ _ _ h => h) (Or.inl ⟨by rfl, ?_⟩) (by assumption) ?_
    rotate_left
    · (intro w hSw; (try dsimp only at hSw); go_simp; try with_reducible rfl)
    try simp only [Act.put, List.getElem_toArray, List.getElem_cons_zero, List.getElem_cons_succ, List.setIfInBounds_toArray, List.set_cons_zero, List.set_cons_succ]
    refine wpAnyG_done (by kernel_rfl) ?_ _
    go_wp2_with fail
    go_ret
    exact ⟨ret_bool rfl, HB.out⟩
end Go.Proofs.YtdjbkppdppdcgaaGreatDoor
