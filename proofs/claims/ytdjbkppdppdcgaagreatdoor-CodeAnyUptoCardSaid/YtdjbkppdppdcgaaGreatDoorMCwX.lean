/- code.many, code.globals, code.headed of a program of one function. code.numbered. code.says where nothing may stand, code.fine. code.fine of an instruction as the plain ones are. code.Right of a program of one function, all of whose instructions are plain. A map of texts and how often each came (map[string]int, as globals, headed and names use it); code.globals. -/
import Derived.Laws.OwnMore
import Derived.Maps.OwnOps
import Derived.Maps.Views
import Derived.Test.YtdjbkppdppdcgaaGreatDoorMCwG
import Derived.Test.YtdjbkppdppdcgaaGreatDoorMCwN
import Derived.Test.YtdjbkppdppdcgaaGreatDoorMCwA
import Derived.Test.YtdjbkppdppdcgaaGreatDoorMCwB
import Derived.Test.YtdjbkppdppdcgaaGreatDoorMCdD
import Derived.Test.YtdjbkppdppdcgaaGreatDoorCwQ
namespace Go.Proofs.YtdjbkppdppdcgaaGreatDoor
open Go.RowKit

/-- A program of one function, small, without variables. -/
structure One (p : Cp) (f : Cf) : Prop where
  fs : p.funcs = [f]
  gs : p.globals = []
  code : f.code.length ≤ 60000
  slots : f.slots ≤ 20000
  taken : f.taken.length ≤ 20000
/-- Where it lies. -/
structure OneAt (w : World) (B : Nat) (f : Cf) (g off : Nat) (fv : Fv) : Prop where
  lt : g < B
  cs : w.cell? ⟨g, off, none⟩ = some (.string f.name) ∧ w.cell? ⟨g, off + 1, none⟩ = some (.int .i64 f.params) ∧ w.cell? ⟨g, off + 2, none⟩ = some (.int .i64 f.slots) ∧ w.cell? ⟨g, off + 3, none⟩ = some (.slice fv.ta f.taken.length fv.tc) ∧
      w.cell? ⟨g, off + 4, none⟩ = some (.int .i64 f.around) ∧ w.cell? ⟨g, off + 5, none⟩ = some (.slice fv.ca f.code.length fv.cc)
  own : LiesF w B (f, fv)
theorem LiesC.one {w : World} {B : Nat} {p : Cp} {v : Value} {f : Cf} (h : LiesC w B p v) (ho : One p f) : ∃ g off fc ga gc fv, v = .agg #[.slice (some ⟨g, off, none⟩) 1 fc, .slice ga 0 gc] ∧ 1 ≤ fc ∧ OneAt w B f g off fv := by
  obtain ⟨fa, fc, ga, gc, xs, h1, rfl, h3, h4, h5, h6, h7⟩ := h
  rw [ho.fs] at h1 h5
  rw [ho.gs] at h6 ⊢
  rw [ho.fs]
  obtain ⟨y, rfl⟩ : ∃ y, xs = [y] := by
    match xs, h1 with
    | [y], _ => exact ⟨y, rfl⟩
  simp only [List.map_cons, List.map_nil, List.cons.injEq, and_true] at h1
  obtain ⟨f', fv⟩ := y
  obtain rfl : f' = f := h1
  obtain ⟨g, off, rfl, hg, hc⟩ := h3.at (by simp [fnCells])
  have hcs := fn_at (i := 0) hc rfl
  simp only [Nat.zero_mul, Nat.add_zero] at hcs
  exact ⟨g, off, fc, ga, gc, fv, rfl, h5, hg, hcs, h7 _ (List.mem_singleton.2 rfl)⟩
theorem OneAt.keep {w w' : World} {B : Nat} {f : Cf} {g off : Nat} {fv : Fv} (h : OneAt w B f g off fv) (hk : ∀ b, b < B → w'.heap[b]? = w.heap[b]?) : OneAt w' B f g off fv := by
  have e : ∀ o, w'.cell? ⟨g, o, none⟩ = w.cell? ⟨g, o, none⟩ := fun o => World.cell?_of_block (w := w) (a := ⟨g, o, none⟩) (hk g h.lt)
  refine ⟨h.lt, ?_, h.own.keep hk⟩
  rw [e, e, e, e, e, e]
  exact h.cs

theorem mapNew (w : World) : (Instr.makeMap 65 none).run Tryz.prog w = .ok (.map (some w.heap.size)) (w.alloc (.map #[] 0)) := rfl
end Go.Proofs.YtdjbkppdppdcgaaGreatDoor

namespace Go.Proofs.YtdjbkppdppdcgaaGreatDoor
open Go.RowKit

def numbE (p : Cp) (f : Nat) (o : Cf) (x : Ci) : Nat → Bool
  | 0 => x.a == 0
  | 1 => decide (0 ≤ x.a) && decide (x.a < 2)
  | 2 => decide (0 ≤ x.a) && decide (x.a < 3)
  | 3 => decide (0 ≤ x.a) && decide (x.a < o.slots)
  | 4 => decide (0 ≤ x.a) && decide (x.a < p.globals.length)
  | 5 => decide (0 ≤ x.a) && decide (x.a < o.taken.length)
  | 6 => decide (1 ≤ x.a) && decide (x.a ≤ 7)
  | 7 => decide (0 ≤ x.a) && decide (x.a < 20001)
  | 8 => decide (0 ≤ x.a) && decide (x.a < 31)
  | 9 => decide (0 < x.a) && (match p.funcs[x.a.toNat]? with
    | none => false
    | some g => g.around == -1 || g.around == f)
  | 10 => decide (0 ≤ x.a) && decide (x.a < o.code.length)
  | 11 => x.a == 2 || x.a == 3
  | _ => decide (0 ≤ x.a) && decide (x.a < 0)
theorem numb_eq {p : Cp} {f : Nat} {o : Cf} (ho : p.funcs[f]? = some o) (x : Ci) : numberedB p f x = numbE p f o x (formOf x.op).a := by
  unfold numberedB
  rw [ho]
  generalize (formOf x.op).a = a
  unfold numbE
  rfl
theorem below3 (w : World) (o0 o1 o2 : Obj) : (((w.alloc o0).alloc o1).alloc o2).heap[w.heap.size]? = some o0 ∧ (((w.alloc o0).alloc o1).alloc o2).heap[w.heap.size + 1]? = some o1 ∧ (((w.alloc o0).alloc o1).alloc o2).heap[w.heap.size + 1 + 1]? = some o2 ∧ Below w.heap.size w (((w.alloc o0).alloc o1).alloc o2) ∧ (((w.alloc o0).alloc o1).alloc o2).heap.size = w.heap.size + 3 := by
  have e : (((w.alloc o0).alloc o1).alloc o2).heap = ((w.heap.push o0).push o1).push o2 := rfl
  refine ⟨?_, ?_, ?_, ?_, ?_⟩
  · rw [e]; simp [Array.getElem_push, Nat.add_assoc]
  · rw [e]; simp [Array.getElem_push, Nat.add_assoc]
  · rw [e]; simp [Array.getElem_push, Nat.add_assoc]
  · exact (((Below.refl _ _).alloc (Nat.le_refl _) _).alloc (by simp) _).alloc (by simp; omega) _
  · rw [e]; simp

theorem numb_facts {w w4 : World} {o0 o1 o2 : Array Value} {t0 t1 t2 : TypeId} (hA : (((w.alloc (.cells o0 t0 (0, 0))).alloc (.cells o1 t1 (0, 0))).alloc (.cells o2 t2 (0, 0))).heap[w.heap.size]? = some (.cells o0 t0 (0, 0)) ∧ (((w.alloc (.cells o0 t0 (0, 0))).alloc (.cells o1 t1 (0, 0))).alloc (.cells o2 t2 (0, 0))).heap[w.heap.size + 1]? = some (.cells o1 t1 (0, 0)) ∧ (((w.alloc (.cells o0 t0 (0, 0))).alloc (.cells o1 t1 (0, 0))).alloc (.cells o2 t2 (0, 0))).heap[w.heap.size + 1 + 1]? = some (.cells o2 t2 (0, 0)) ∧ Below w.heap.size w (((w.alloc (.cells o0 t0 (0, 0))).alloc (.cells o1 t1 (0, 0))).alloc (.cells o2 t2 (0, 0))) ∧ (((w.alloc (.cells o0 t0 (0, 0))).alloc (.cells o1 t1 (0, 0))).alloc (.cells o2 t2 (0, 0))).heap.size = w.heap.size + 3)
    (hb : Below (((w.alloc (.cells o0 t0 (0, 0))).alloc (.cells o1 t1 (0, 0))).alloc (.cells o2 t2 (0, 0))).heap.size (((w.alloc (.cells o0 t0 (0, 0))).alloc (.cells o1 t1 (0, 0))).alloc (.cells o2 t2 (0, 0))) w4) :
    w4.cell? ⟨w.heap.size, 0, none⟩ = o0[0]? ∧ w4.cell? ⟨w.heap.size, 1, none⟩ = o0[1]? ∧ w4.cell? ⟨w.heap.size + 1, 1, none⟩ = o1[1]? ∧ w4.cell? ⟨w.heap.size + 1 + 1, 2, none⟩ = o2[2]? ∧ w4.cell? ⟨w.heap.size + 1 + 1, 3, none⟩ = o2[3]? ∧ w4.cell? ⟨w.heap.size + 1 + 1, 5, none⟩ = o2[5]? ∧ Below w.heap.size w w4 := by
  obtain ⟨h1, h2, h3, h4, h5⟩ := hA
  rw [h5] at hb
  have k1 := (hb.block w.heap.size (by omega)).trans h1
  have k2 := (hb.block (w.heap.size + 1) (by omega)).trans h2
  have k3 := (hb.block (w.heap.size + 1 + 1) (by omega)).trans h3
  exact ⟨cell_of_row w4 _ 0 _ _ _ k1, cell_of_row w4 _ 1 _ _ _ k1, cell_of_row w4 _ 1 _ _ _ k2, cell_of_row w4 _ 2 _ _ _ k3, cell_of_row w4 _ 3 _ _ _ k3, cell_of_row w4 _ 5 _ _ _ k3, h4.trans (hb.mono (by omega))⟩
attribute [local go_sem] fieldFm1
set_option maxRecDepth 100000 in
set_option maxHeartbeats 4000000 in
theorem numbered_any {p : Cp} {v : Value} {w : World} (hv : LiesC w w.heap.size p v) {f : Nat} {o : Cf} (ho : p.funcs[f]? = some o) (x : Ci) :
    Calls Tryz.prog 57 #[v, .int .i64 f, insV x] w fun e w' => e = .returned (.bool (numberedB p f x)) ∧ Below w.heap.size w w' := by
  obtain ⟨fa, fc, ga, gc, xs, h1, rfl, h3, h4, h5, h6, h7⟩ := hv
  have hfl : f < p.funcs.length := (List.getElem?_eq_some_iff.1 ho).1
  obtain ⟨y, hy⟩ : ∃ y, xs[f]? = some y := ⟨_, List.getElem?_eq_getElem (by have := congrArg List.length h1; simp at this; omega)⟩
  have hyo : y.1 = o := by
    have : (xs.map Prod.fst)[f]? = some y.1 := by simp [hy]
    rw [h1, ho] at this
    exact (Option.some.inj this).symm
  obtain ⟨o', fv⟩ := y
  obtain rfl : o' = o := hyo
  obtain ⟨g, off, rfl, hg, hc⟩ := h3.at (by rw [flat_len fn_len]; have := congrArg List.length h1; simp at this; omega)
  obtain ⟨c0, c1, c2, c3, c4, c5⟩ := fn_at hc hy
  have HC := Lib.hid hc
  have H1 := Lib.hid h1
  have HF := Lib.hid (forms_call x.op)
  have hle := (forms_bytes x.op).2.2.2.2
  obtain ⟨a, ha⟩ : ∃ a, (formOf x.op).a = a := ⟨_, rfl⟩
  have HN := Lib.hid (numb_eq ho x)
  obtain ⟨F, hF⟩ : ∃ F, formOf x.op = F := ⟨_, rfl⟩
  rw [hF] at HF ha hle HN
  rw [ha] at HF hle HN
  obtain ⟨R, HR⟩ : ∃ R, Hid (numberedB p f x = R) := ⟨_, rfl⟩
  rw [HR.out] at HN ⊢
  obtain ⟨n, hn⟩ : ∃ n, p.funcs.length = n := ⟨_, rfl⟩
  obtain ⟨m, hm⟩ : ∃ m, p.globals.length = m := ⟨_, rfl⟩
  have HLN := Lib.hid hn
  have HM := Lib.hid hm
  rw [hn] at hfl h5 ⊢
  rw [hm]
  simp only [insV]
  clear h1 h3 h4 h6 h7 hc hy ho hn hm hF ha
  go_enter Tryz.func57, Tryz.ntmps57
  -- CASES
  have hcase : a = 9 ∨ (a = 0 ∨ a = 1 ∨ a = 2 ∨ a = 3 ∨ a = 4 ∨ a = 5 ∨ a = 6 ∨ a = 7 ∨ a = 8 ∨ a = 10 ∨ a = 11) := by omega
  rcases hcase with rfl | hcase
  · have hn := HN.out
    simp only [numbE] at hn
    by_cases h0 : 0 < x.a
    · have e0 : decide (0 < x.a) = true := decide_eq_true h0
      rw [e0, Bool.true_and] at hn
      obtain ⟨xa, hxa⟩ := Int.eq_ofNat_of_zero_le (Int.le_of_lt h0)
      by_cases h1 : x.a < n
      · have e1 : decide (x.a < (n : Int)) = true := decide_eq_true h1
        have hxl : xa < n := by omega
        obtain ⟨y2, hy2⟩ : ∃ y2, xs[xa]? = some y2 := ⟨_, List.getElem?_eq_getElem (by have := congrArg List.length H1.out; simp at this; have := HLN.out; omega)⟩
        obtain ⟨o2, fv2⟩ := y2
        have ho2 : p.funcs[xa]? = some o2 := by rw [← H1.out]; simp [hy2]
        rw [hxa] at hn
        simp only [Int.toNat_natCast, ho2] at hn
        have hc4 := (fn_at HC.out hy2).2.2.2.2.1
        have HC4 := Lib.hid hc4
        have HN2 := Lib.hid hn
        have e2 : decide (0 < (xa : Int)) = true := by rw [← hxa]; exact e0
        have e3 : decide ((xa : Int) < (n : Int)) = true := by rw [← hxa]; exact e1
        clear hn HN hy2 ho2 hc4 e0 e1 h0 h1
        rw [hxa]
        by_cases hm1 : o2.around = -1
        · have e4 : (o2.around == -1) = true := by simp [hm1]
          have e5 : (o2.around == (f : Int)) = false := by first | (simp [hm1]; done) | (simp [hm1]; omega)
          clear hm1
          go_wp2_with (go_at_call 39; refine (HF.out _).mono ?_; rintro e w4 ⟨rfl, hb4⟩; have hA := below3 w (.cells #[.slice (some ⟨g, off, none⟩) n fc, .slice ga m gc] 25 (0, 0)) (.cells #[.int .i64 x.op, .int .i64 (xa : Int), .int .i64 x.b, .string x.text, .int .i64 x.at_] 46 (0, 0)) (.cells #[.string o'.name, .int .i64 o'.params, .int .i64 o'.slots, .slice fv.ta o'.taken.length fv.tc, .int .i64 o'.around, .slice fv.ca o'.code.length fv.cc] 43 (0, 0)); have hB := numb_facts hA hb4; simp only [List.getElem?_toArray, List.getElem?_cons_zero, List.getElem?_cons_succ] at hB; obtain ⟨z0, z1, z2, z3, z4, z5, z6⟩ := hB; have HBW := Lib.hid z6; have zc := (World.cell?_of_block (w := w) (a := ⟨g, off + xa * 6 + 4, none⟩) (z6.block g hg)).trans HC4.out; clear z6 hA hb4)
          all_goals
            go_ret
            refine ⟨ret_bool ?_, HBW.out⟩
            rw [HN2.out]
            try first | rfl | (simp [*]; done) | (simp_all; done) | (simp_all; omega) | (rw [Bool.eq_iff_iff]; simp; done) | (rw [Bool.eq_iff_iff]; simp; omega) | (rw [Bool.eq_iff_iff]; simp [*]; done) | (rw [Bool.eq_iff_iff]; simp [*]; omega)
        · have e4 : (o2.around == -1) = false := by simp [hm1]
          clear hm1
          go_wp2_with (go_at_call 39; refine (HF.out _).mono ?_; rintro e w4 ⟨rfl, hb4⟩; have hA := below3 w (.cells #[.slice (some ⟨g, off, none⟩) n fc, .slice ga m gc] 25 (0, 0)) (.cells #[.int .i64 x.op, .int .i64 (xa : Int), .int .i64 x.b, .string x.text, .int .i64 x.at_] 46 (0, 0)) (.cells #[.string o'.name, .int .i64 o'.params, .int .i64 o'.slots, .slice fv.ta o'.taken.length fv.tc, .int .i64 o'.around, .slice fv.ca o'.code.length fv.cc] 43 (0, 0)); have hB := numb_facts hA hb4; simp only [List.getElem?_toArray, List.getElem?_cons_zero, List.getElem?_cons_succ] at hB; obtain ⟨z0, z1, z2, z3, z4, z5, z6⟩ := hB; have HBW := Lib.hid z6; have zc := (World.cell?_of_block (w := w) (a := ⟨g, off + xa * 6 + 4, none⟩) (z6.block g hg)).trans HC4.out; clear z6 hA hb4)
          all_goals
            go_ret
            refine ⟨ret_bool ?_, HBW.out⟩
            rw [HN2.out]
            try first | rfl | (simp [*]; done) | (simp_all; done) | (simp_all; omega) | (rw [Bool.eq_iff_iff]; simp; done) | (rw [Bool.eq_iff_iff]; simp; omega) | (rw [Bool.eq_iff_iff]; simp [*]; done) | (rw [Bool.eq_iff_iff]; simp [*]; omega)
      · have e1 : decide (x.a < (n : Int)) = false := decide_eq_false h1
        rw [List.getElem?_eq_none (by have := HLN.out; omega)] at hn
        have HN2 := Lib.hid hn
        have e2 : decide (0 < (xa : Int)) = true := by rw [← hxa]; exact e0
        have e3 : decide ((xa : Int) < (n : Int)) = false := by rw [← hxa]; exact e1
        have hge : n ≤ xa := by omega
        clear hn HN e0 e1 h0 h1
        rw [hxa]
        go_wp2_with (go_at_call 39; refine (HF.out _).mono ?_; rintro e w4 ⟨rfl, hb4⟩; have hA := below3 w (.cells #[.slice (some ⟨g, off, none⟩) n fc, .slice ga m gc] 25 (0, 0)) (.cells #[.int .i64 x.op, .int .i64 (xa : Int), .int .i64 x.b, .string x.text, .int .i64 x.at_] 46 (0, 0)) (.cells #[.string o'.name, .int .i64 o'.params, .int .i64 o'.slots, .slice fv.ta o'.taken.length fv.tc, .int .i64 o'.around, .slice fv.ca o'.code.length fv.cc] 43 (0, 0)); have hB := numb_facts hA hb4; simp only [List.getElem?_toArray, List.getElem?_cons_zero, List.getElem?_cons_succ] at hB; obtain ⟨z0, z1, z2, z3, z4, z5, z6⟩ := hB; have HBW := Lib.hid z6; clear z6 hA hb4)
        all_goals
          go_ret
          exact ⟨ret_bool HN2.out.symm, HBW.out⟩
    · have e0 : decide (0 < x.a) = false := decide_eq_false h0
      rw [e0, Bool.false_and] at hn
      have HN2 := Lib.hid hn
      clear hn HN
      go_wp2_with (go_at_call 39; refine (HF.out _).mono ?_; rintro e w4 ⟨rfl, hb4⟩; have hA := below3 w (.cells #[.slice (some ⟨g, off, none⟩) n fc, .slice ga m gc] 25 (0, 0)) (.cells #[.int .i64 x.op, .int .i64 x.a, .int .i64 x.b, .string x.text, .int .i64 x.at_] 46 (0, 0)) (.cells #[.string o'.name, .int .i64 o'.params, .int .i64 o'.slots, .slice fv.ta o'.taken.length fv.tc, .int .i64 o'.around, .slice fv.ca o'.code.length fv.cc] 43 (0, 0)); have hB := numb_facts hA hb4; simp only [List.getElem?_toArray, List.getElem?_cons_zero, List.getElem?_cons_succ] at hB; obtain ⟨z0, z1, z2, z3, z4, z5, z6⟩ := hB; have HBW := Lib.hid z6; clear z6 hA hb4)
      all_goals
        go_ret
        exact ⟨ret_bool HN2.out.symm, HBW.out⟩
  · rcases hcase with rfl | rfl | rfl | rfl | rfl | rfl | rfl | rfl | rfl | rfl | rfl
    all_goals
      have hn := HN.out
      simp only [numbE] at hn
      have HN2 := Lib.hid hn
      clear hn HN
      go_wp2_with (go_at_call 39; refine (HF.out _).mono ?_; rintro e w4 ⟨rfl, hb4⟩; have hA := below3 w (.cells #[.slice (some ⟨g, off, none⟩) n fc, .slice ga m gc] 25 (0, 0)) (.cells #[.int .i64 x.op, .int .i64 x.a, .int .i64 x.b, .string x.text, .int .i64 x.at_] 46 (0, 0)) (.cells #[.string o'.name, .int .i64 o'.params, .int .i64 o'.slots, .slice fv.ta o'.taken.length fv.tc, .int .i64 o'.around, .slice fv.ca o'.code.length fv.cc] 43 (0, 0)); have hB := numb_facts hA hb4; simp only [List.getElem?_toArray, List.getElem?_cons_zero, List.getElem?_cons_succ] at hB; obtain ⟨z0, z1, z2, z3, z4, z5, z6⟩ := hB; have HBW := Lib.hid z6; clear z6 hA hb4)
      all_goals
        go_ret
        refine ⟨ret_bool ?_, HBW.out⟩
        rw [HN2.out]
        try rw [HM.out]
        try first | rfl | (simp [*]; done) | (simp_all; done) | (simp_all; omega) | (rw [Bool.eq_iff_iff]; simp; done) | (rw [Bool.eq_iff_iff]; simp; omega) | (rw [Bool.eq_iff_iff]; simp [*]; done) | (rw [Bool.eq_iff_iff]; simp [*]; omega)
end Go.Proofs.YtdjbkppdppdcgaaGreatDoor

namespace Go.Proofs.YtdjbkppdppdcgaaGreatDoor
open Go.RowKit

/-- What says answers. -/
def SaysOk (x : Ci) : Prop := ∀ w, Gc w → Calls Tryz.prog 58 #[insV x] w fun e w' => e = .returned (.bool (saysB x)) ∧ Below w.heap.size w w'
attribute [local go_sem] fieldFm2
theorem LiesC.more {w : World} {B B' : Nat} {p : Cp} {v : Value} (h : LiesC w B p v) (hB : B ≤ B') : LiesC w B' p v := by
  obtain ⟨fa, fc, ga, gc, xs, h1, h2, h3, h4, h5, h6, h7⟩ := h
  exact ⟨fa, fc, ga, gc, xs, h1, h2, h3.more hB, h4.more hB, h5, h6, fun x hx => ⟨(h7 x hx).1.more hB, (h7 x hx).2.1.more hB, (h7 x hx).2.2⟩⟩
/-- Within fine: the boxes of the program, the instruction, the form. -/
structure FnAt (w : World) (v : Value) (cs : Array Value) (F : Cform) (pb xb fb : Nat) (W : World) : Prop where
  low : Below w.heap.size w W
  pr : ∃ ps, v = .agg ps ∧ W.heap[pb]? = some (.cells ps 25 (0, 0))
  xr : W.heap[xb]? = some (.cells cs 46 (0, 0))
  fr : W.heap[fb]? = some (.cells #[.string ⟨⟨F.word⟩⟩, .int .i64 F.a, .int .i64 F.text, .string ⟨⟨F.takes⟩⟩, .string ⟨⟨F.lays⟩⟩] 80 (0, 0))
theorem FnAt.under {w W W' : World} {v : Value} {cs : Array Value} {F : Cform} {pb xb fb : Nat} (h : FnAt w v cs F pb xb fb W) (hb : Below W.heap.size W W') : FnAt w v cs F pb xb fb W' := by
  obtain ⟨ps, h1, h2⟩ := h.pr
  exact ⟨h.low.trans (hb.mono h.low.size), ⟨ps, h1, (hb.block _ (Array.getElem?_eq_some_iff.1 h2).1).trans h2⟩, (hb.block _ (Array.getElem?_eq_some_iff.1 h.xr).1).trans h.xr, (hb.block _ (Array.getElem?_eq_some_iff.1 h.fr).1).trans h.fr⟩

theorem FnAt.xc {w W : World} {v : Value} {a b c d e : Value} {F : Cform} {pb xb fb : Nat} (h : FnAt w v #[a, b, c, d, e] F pb xb fb W) : W.cell? ⟨xb, 0, none⟩ = some a ∧ W.cell? ⟨xb, 1, none⟩ = some b ∧ W.cell? ⟨xb, 2, none⟩ = some c ∧ W.cell? ⟨xb, 3, none⟩ = some d ∧ W.cell? ⟨xb, 4, none⟩ = some e :=
  ⟨cell_of_row W xb 0 _ _ _ h.xr, cell_of_row W xb 1 _ _ _ h.xr, cell_of_row W xb 2 _ _ _ h.xr, cell_of_row W xb 3 _ _ _ h.xr, cell_of_row W xb 4 _ _ _ h.xr⟩
theorem FnAt.pc {w W : World} {a b : Value} {cs : Array Value} {F : Cform} {pb xb fb : Nat} (h : FnAt w (.agg #[a, b]) cs F pb xb fb W) : W.cell? ⟨pb, 0, none⟩ = some a ∧ W.cell? ⟨pb, 1, none⟩ = some b := by
  obtain ⟨ps, h1, h2⟩ := h.pr
  injection h1 with h1
  subst h1
  exact ⟨cell_of_row W pb 0 _ _ _ h2, cell_of_row W pb 1 _ _ _ h2⟩
theorem FnAt.fc {w W : World} {v : Value} {cs : Array Value} {F : Cform} {pb xb fb : Nat} (h : FnAt w v cs F pb xb fb W) : W.cell? ⟨fb, 0, none⟩ = some (.string ⟨⟨F.word⟩⟩) := cell_of_row W fb 0 _ _ _ h.fr
end Go.Proofs.YtdjbkppdppdcgaaGreatDoor

namespace Go.Proofs.YtdjbkppdppdcgaaGreatDoor
open Go.RowKit

end Go.Proofs.YtdjbkppdppdcgaaGreatDoor

namespace Go.Proofs.YtdjbkppdppdcgaaGreatDoor
open Go.RowKit

/-- What Right answers. -/
def RightPost (w : World) (o : Option Cwr) (e : Ending) (w' : World) : Prop := Below w.heap.size w w' ∧ match o with
  | none => e = .returned .nilIface
  | some c => ∃ b, e = .returned (.iface 61 (.pointer (some ⟨b, 0, none⟩))) ∧ w.heap.size ≤ b ∧ WrAt w' b c.code c.at_ c.ins
end Go.Proofs.YtdjbkppdppdcgaaGreatDoor

namespace Go.Proofs.YtdjbkppdppdcgaaGreatDoor
open Go.RowKit

def CntAt (w : World) (b n : Nat) (l : List (List UInt8)) : Prop :=
  ∃ D : DataW Unit, w.ownsMap Tryz.prog 9 (plainElem Tryz.prog 3) b n D ∧ Maps.IsMap D ∧ ∀ s, D.atKey (.string s) (.lit (.int .i64 0)) = .lit (.int .i64 ((l.count s : Nat) : Int))
theorem cntKey : Maps.Keyed Tryz.prog 9 := Maps.string_keyed Tryz.underlying9
theorem cnt_keyOf (s : ByteArray) (hs : s.size ≤ 140737488351232) : keyOf Tryz.prog 9 (.string s) = some (.string s.data.toList) := by
  have h2 : s.size ≤ maxLen := Nat.le_trans hs (by decide)
  simp [keyOf, mapKey, Tryz.underlying9, h2]
theorem CntAt.made (w : World) : CntAt (w.alloc (.map #[] 0)) w.heap.size 0 [] := ⟨.map [], World.ownsMap_made _ _ _ _, Maps.isMap_empty, fun _ => rfl⟩
theorem CntAt.keep {w w' : World} {b n : Nat} {l : List (List UInt8)} (h : CntAt w b n l) (hb : Below w.heap.size w w') : CntAt w' b n l := by
  obtain ⟨D, h1, h2, h3⟩ := h
  exact ⟨D, h1.kept (row := none) ⟨hb.os, hb.tape, hb.output, hb.size, fun k hk _ => hb.block k hk⟩ (by simp), h2, h3⟩
theorem CntAt.look {w : World} {b n : Nat} {l : List (List UInt8)} (h : CntAt w b n l) (s : ByteArray) (hs : s.size ≤ 140737488351232) :
    (Instr.lookup 65 (.map (some b)) (.string s) false).run Tryz.prog w = .ok (.int .i64 ((l.count s.data.toList : Nat) : Int)) w := by
  obtain ⟨D, h1, h2, h3⟩ := h
  obtain ⟨c, hrun, hat, _⟩ := h1.lookup_int cntKey Tryz.underlying65 Tryz.underlying3 (by kernel_rfl) (cnt_keyOf s hs)
  rw [h3] at hat
  have e := (Lit.int.inj (DataW.lit.inj hat)).2
  rw [e]
  exact hrun
theorem CntAt.put {w : World} {b n : Nat} {l : List (List UInt8)} (h : CntAt w b n l) (s : ByteArray) (hs : s.size ≤ 140737488351232) (hn : n ≤ 140737488351232) (hl : l.length ≤ 140737488351232) :
    ∃ w', (Instr.mapUpdate 65 (.map (some b)) (.string s) (.int .i64 (((l.count s.data.toList : Nat) : Int) + 1))).run Tryz.prog w = .ok () w' ∧ CntAt w' b (n + 1) (s.data.toList :: l) ∧ w.grownBy w' (some b) := by
  obtain ⟨D, h1, h2, h3⟩ := h
  have hc : l.count s.data.toList ≤ l.length := List.count_le_length
  have hw : (Lit.int .i64 (((l.count s.data.toList : Nat) : Int) + 1)).wf = true := WalkArith.wf_i64 (by omega)
  obtain ⟨w', hrun, hown, hg⟩ := h1.update cntKey Tryz.underlying65 (Nat.lt_of_le_of_lt hn (by decide)) (cnt_keyOf s hs) (plainElem_int Tryz.underlying3 hw)
  refine ⟨w', hrun, ⟨_, hown, h2.put _ _, fun s' => ?_⟩, hg⟩
  by_cases he : s' = s.data.toList
  · subst he
    rw [Maps.atKey_put_same h2 (by exact True.intro), List.count_cons_self]
    simp
  · rw [Maps.atKey_put_other (by simpa using he), h3, List.count_cons_of_ne (by simpa using fun e => he e.symm)]
theorem grownTo_below {w w' : World} {b B : Nat} (h : w.grownBy w' (some b)) (hB : B ≤ b) (hs : B ≤ w.heap.size) : Below B w w' :=
  ⟨h.os, h.tape, h.output, h.size, fun k hk => h.block k (by omega) (by intro e; injection e with e; omega)⟩

theorem globalsB_stop {old r : List (List UInt8)} {s : List UInt8} (h : nameL s = false ∨ old.contains s = true) : globalsB old (s :: r) = false := by
  rw [globalsB]; rcases h with h | h
  · rw [h]; rfl
  · rw [h]; cases nameL s <;> rfl
theorem globalsB_go {old r : List (List UInt8)} {s : List UInt8} (h : nameL s = true) (h2 : old.contains s = false) : globalsB old (s :: r) = globalsB (s :: old) r := by
  rw [globalsB, h, h2]; rfl
theorem count_zero_not {l : List (List UInt8)} {s : List UInt8} : l.count s = 0 → l.contains s = false := fun h => by
  rw [List.count_eq_zero] at h
  simpa using h
theorem count_pos_in {l : List (List UInt8)} {s : List UInt8} (h : l.count s ≠ 0) : l.contains s = true := by
  have := List.count_pos_iff.1 (Nat.pos_of_ne_zero h)
  simpa using this

set_option maxRecDepth 100000 in
set_option maxHeartbeats 4000000 in
theorem globals_any (l : List ByteArray) (ga : Option Addr) (gc : Nat) (w : World) (h : Gc w) (hrow : RowIs w w.heap.size ga (l.map Value.string)) (hl : l.length ≤ 140737488351232) (hs : ∀ s ∈ l, s.size ≤ 140737488351232) :
    Calls Tryz.prog 29 #[.slice ga l.length gc] w fun e w' => e = .returned (.bool (globalsB [] (l.map fun s => s.data.toList))) ∧ Below w.heap.size w w' := by
  have hm := mapNew
  have HR := Lib.hid hrow
  have HG := Lib.hid h
  have HS := Lib.hid hs
  obtain ⟨n, hn⟩ : ∃ n, l.length = n := ⟨_, rfl⟩
  have HL := Lib.hid hn
  rw [hn] at hl ⊢
  clear hrow h hs hn
  go_enter Tryz.func29, Tryz.ntmps29
  have HB0 : Hid (Below w.heap.size w (w.alloc (.map #[] 0))) := Lib.hid ((Below.refl _ _).alloc (Nat.le_refl _) _)
  have HC0 : Hid (CntAt (w.alloc (.map #[] 0)) w.heap.size 0 []) := Lib.hid (CntAt.made w)
  go_wp2_with fail
  go_loopw [9] (fun i wr => ∃ j : Nat, j ≤ n ∧ i = .int .i64 j ∧ ∃ old : List (List UInt8), old.length = j ∧ Hid (CntAt wr w.heap.size j old) ∧ Hid (Below w.heap.size w wr) ∧ Hid (globalsB old ((l.map fun s => s.data.toList).drop j) = globalsB [] (l.map fun s => s.data.toList))) (fun i _ => n - (intOf i).toNat)
  case atStart => exact ⟨0, Nat.zero_le _, rfl, [], rfl, HC0, HB0, Lib.hid rfl⟩
  case round =>
    obtain ⟨j, hj, rfl, old, hold, HC, HB, HI⟩ := hrel
    by_cases hlt : j < n
    · obtain ⟨g, o, rfl, hg, hc⟩ := HR.out.at (by rw [List.length_map, HL.out]; omega)
      obtain ⟨s, hsj⟩ : ∃ s, l[j]? = some s := ⟨_, List.getElem?_eq_getElem (by rw [HL.out]; exact hlt)⟩
      have hcell : wr.cell? ⟨g, o + j, none⟩ = some (.string s) := by
        rw [HB.out.cell (p := ⟨g, o + j, none⟩) hg]
        exact hc j _ (by rw [List.getElem?_map, hsj]; rfl)
      have hss := HS.out s (List.mem_of_getElem? hsj)
      have HD : Hid ((l.map fun s => s.data.toList).drop j = s.data.toList :: (l.map fun s => s.data.toList).drop (j + 1)) := Lib.hid (drop_cons (by rw [List.getElem?_map, hsj]; rfl))
      obtain ⟨m, hm'⟩ : ∃ m : Nat, old.count s.data.toList = m := ⟨_, rfl⟩
      have hm2 : m ≤ j := by rw [← hm', ← hold]; exact List.count_le_length
      have hk1 := HC.out.look s hss
      obtain ⟨w1, hu, hC1, hg1⟩ := HC.out.put s hss (by omega) (by omega)
      have hb1 : Below w.heap.size wr w1 := grownTo_below hg1 (Nat.le_refl _) HB.out.size
      have HB1 := Lib.hid (HB.out.trans hb1)
      have HC1 := Lib.hid hC1
      rw [hm'] at hk1 hu
      have HG1 := Lib.hid (HG.out.up HB1.out)
      have HK2 : Hid (∀ w2, Below w1.heap.size w1 w2 → (Instr.lookup 65 (.map (some w.heap.size)) (.string s) false).run Tryz.prog w2 = .ok (.int .i64 ((m + 1 : Nat) : Int)) w2) := Lib.hid fun w2 hb2 => by
        have := (HC1.out.keep hb2).look s hss
        rw [List.count_cons_self, hm'] at this
        exact this
      have HM := Lib.hid hm'
      clear hc hsj hC1 hg1 hb1 hm'
      cases hnm : nameB s with
      | false =>
        go_wp2_with (go_at_call 52; refine (named_any s w1 HG1.out hss).mono ?_; rw [hnm]; rintro e w2 ⟨rfl, hb2⟩)
        go_ret
        refine ⟨ret_bool ?_, HB1.out.trans (hb2.mono HB1.out.size)⟩
        rw [← HI.out, HD.out, globalsB_stop (.inl hnm)]
      | true =>
        by_cases hm0 : m = 0
        · subst hm0
          rw [show ((0 : Nat) : Int) + 1 = 1 from rfl] at hu
          rw [show ((0 : Nat) : Int) = 0 from rfl] at hk1
          go_wp2_with (go_at_call 52; refine (named_any s w1 HG1.out hss).mono ?_; rw [hnm]; rintro e w2 ⟨rfl, hb2⟩; have hk2 := HK2.out w2 hb2)
          go_roundw
          case rel =>
            refine ⟨j + 1, by omega, by go_num, s.data.toList :: old, by simp [hold], Lib.hid (HC1.out.keep hb2), Lib.hid (HB1.out.trans (hb2.mono HB1.out.size)), Lib.hid ?_⟩
            rw [← HI.out, HD.out, globalsB_go hnm (count_zero_not HM.out)]
          case measure => simp [intOf]; omega
        · go_wp2_with (go_at_call 52; refine (named_any s w1 HG1.out hss).mono ?_; rw [hnm]; rintro e w2 ⟨rfl, hb2⟩; have hk2 := HK2.out w2 hb2)
          go_ret
          refine ⟨ret_bool ?_, HB1.out.trans (hb2.mono HB1.out.size)⟩
          rw [← HI.out, HD.out, globalsB_stop (.inr (count_pos_in (by rw [HM.out]; exact hm0)))]
    · obtain rfl : j = n := by omega
      go_wp2_with fail
      go_ret
      refine ⟨ret_bool ?_, HB.out⟩
      rw [← HI.out, List.drop_of_length_le (by rw [List.length_map, HL.out]; exact Nat.le_refl _)]
      rfl
end Go.Proofs.YtdjbkppdppdcgaaGreatDoor
