/- code.many, code.globals, code.headed of a program of one function. code.fine of an instruction as the plain ones are. -/
import Derived.Laws.OwnMore
import Derived.Test.YtdjbkppdppdcgaaGreatDoorCwG
import Derived.Test.YtdjbkppdppdcgaaGreatDoorCwP
import Derived.Test.YtdjbkppdppdcgaaGreatDoorMCwV
namespace Go.Proofs.YtdjbkppdppdcgaaGreatDoor
open Go.RowKit

/-- A program of one function, small, without variables. -/
structure One (p : Cp) (f : Cf) : Prop where
  fs : p.funcs = [f]
  gs : p.globals = []
  code : f.code.length ≤ 60000
  slots : f.slots ≤ 20000
  taken : f.taken.length ≤ 20000
/-- Where it lies. -/
structure OneAt (w : World) (B : Nat) (f : Cf) (g off : Nat) (fv : Fv) : Prop where
  lt : g < B
  cs : w.cell? ⟨g, off, none⟩ = some (.string f.name) ∧ w.cell? ⟨g, off + 1, none⟩ = some (.int .i64 f.params) ∧ w.cell? ⟨g, off + 2, none⟩ = some (.int .i64 f.slots) ∧ w.cell? ⟨g, off + 3, none⟩ = some (.slice fv.ta f.taken.length fv.tc) ∧
      w.cell? ⟨g, off + 4, none⟩ = some (.int .i64 f.around) ∧ w.cell? ⟨g, off + 5, none⟩ = some (.slice fv.ca f.code.length fv.cc)
  own : LiesF w B (f, fv)
theorem LiesC.one {w : World} {B : Nat} {p : Cp} {v : Value} {f : Cf} (h : LiesC w B p v) (ho : One p f) : ∃ g off fc ga gc fv, v = .agg #[.slice (some ⟨g, off, none⟩) 1 fc, .slice ga 0 gc] ∧ 1 ≤ fc ∧ OneAt w B f g off fv := by
  obtain ⟨fa, fc, ga, gc, xs, h1, rfl, h3, h4, h5, h6, h7⟩ := h
  rw [ho.fs] at h1 h5
  rw [ho.gs] at h6 ⊢
  rw [ho.fs]
  obtain ⟨y, rfl⟩ : ∃ y, xs = [y] := by
    match xs, h1 with
    | [y], _ => exact ⟨y, rfl⟩
  simp only [List.map_cons, List.map_nil, List.cons.injEq, and_true] at h1
  obtain ⟨f', fv⟩ := y
  obtain rfl : f' = f := h1
  obtain ⟨g, off, rfl, hg, hc⟩ := h3.at (by simp [fnCells])
  have hcs := fn_at (i := 0) hc rfl
  simp only [Nat.zero_mul, Nat.add_zero] at hcs
  exact ⟨g, off, fc, ga, gc, fv, rfl, h5, hg, hcs, h7 _ (List.mem_singleton.2 rfl)⟩
theorem OneAt.keep {w w' : World} {B : Nat} {f : Cf} {g off : Nat} {fv : Fv} (h : OneAt w B f g off fv) (hk : ∀ b, b < B → w'.heap[b]? = w.heap[b]?) : OneAt w' B f g off fv := by
  have e : ∀ o, w'.cell? ⟨g, o, none⟩ = w.cell? ⟨g, o, none⟩ := fun o => World.cell?_of_block (w := w) (a := ⟨g, o, none⟩) (hk g h.lt)
  refine ⟨h.lt, ?_, h.own.keep hk⟩
  rw [e, e, e, e, e, e]
  exact h.cs

set_option maxRecDepth 100000 in
set_option maxHeartbeats 4000000 in
theorem many_one {p : Cp} {f : Cf} (ho : One p f) {v : Value} {w : World} (hv : LiesC w w.heap.size p v) :
    Calls Tryz.prog 28 #[v] w fun e w' => e = .returned (.pointer none) ∧ Below w.heap.size w w' := by
  obtain ⟨g, off, fc, ga, gc, fv, rfl, hfc, hA⟩ := hv.one ho
  obtain ⟨n, hn⟩ : ∃ n, f.code.length = n := ⟨_, rfl⟩
  obtain ⟨t, ht⟩ : ∃ t, f.taken.length = t := ⟨_, rfl⟩
  have HC := Lib.hid hA.cs
  have hg := hA.lt
  have h1 := ho.code
  have h2 := ho.slots
  have h3 := ho.taken
  rw [hn] at h1 HC
  rw [ht] at h3 HC
  have HCS := Lib.hid (fun (W : World) (hb : Below w.heap.size w W) => (hA.keep hb.block).cs)
  rw [hn, ht] at HCS
  clear hv hA ho hn ht
  go_enter Tryz.func28, Tryz.ntmps28
  have HB0 : Hid (Below w.heap.size w (w.alloc (.cells #[.slice (some ⟨g, off, none⟩) 1 fc, .slice ga 0 gc] 25 (0, 0)))) := Lib.hid ((Below.refl _ _).alloc (Nat.le_refl _) _)
  have HP0 := Lib.hid (heap_alloc_new w (.cells #[.slice (some ⟨g, off, none⟩) 1 fc, .slice ga 0 gc] 25 (0, 0)))
  go_wp2_with fail
  go_loopw [3, 11] (fun all i wr => Hid (Below w.heap.size w wr) ∧ Hid (wr.heap[w.heap.size]? = some (.cells #[.slice (some ⟨g, off, none⟩) 1 fc, .slice ga 0 gc] 25 (0, 0))) ∧ ((all = .int .i64 0 ∧ i = .int .i64 0) ∨ (all = .int .i64 n ∧ i = .int .i64 1))) (fun _ i _ => 1 - (intOf i).toNat)
  case atStart => exact ⟨HB0, HP0, .inl ⟨rfl, rfl⟩⟩
  case round =>
    obtain ⟨HB, HP, h⟩ := hrel
    obtain ⟨x0, x1, x2, x3, x4, x5⟩ := HCS.out _ HB.out
    rcases h with ⟨rfl, rfl⟩ | ⟨rfl, rfl⟩
    · go_wp2_with fail
      go_roundw
      case rel => exact ⟨Lib.hid (HB.out.alloc HB.out.size _), Lib.hid ((heap_alloc_old _ _ (Array.getElem?_eq_some_iff.1 HP.out).1).trans HP.out), .inr ⟨rfl, rfl⟩⟩
      case measure => simp [intOf]
    · have q0 := cell_of_row wr w.heap.size 0 _ _ _ HP.out
      have q1 := cell_of_row wr w.heap.size 1 _ _ _ HP.out
      simp only [List.getElem?_toArray, List.getElem?_cons_zero, List.getElem?_cons_succ] at q0 q1
      have dn : decide (60000 < (n : Int)) = false := by simp; omega
      go_wp2_with fail
      go_loopw [45] (fun i wr => Hid (Below w.heap.size w wr) ∧ (i = .int .i64 0 ∨ i = .int .i64 1)) (fun i _ => 1 - (intOf i).toNat)
      case atStart => exact ⟨HB, .inl rfl⟩
      case round =>
        obtain ⟨HB2, h⟩ := hrel
        rcases h with rfl | rfl
        · obtain ⟨z0, z1, z2, z3, z4, z5⟩ := HCS.out _ HB2.out
          have ds : decide (20000 < f.slots) = false := by simp; omega
          have dt : decide (20000 < (t : Int)) = false := by simp; omega
          clear x0 x1 x2 x3 x4 x5
          go_wp2_with fail
          go_roundw
          case rel => exact ⟨Lib.hid (HB2.out.alloc HB2.out.size _), .inr rfl⟩
          case measure => simp [intOf]
        · go_wp2_with fail
          go_ret
          exact ⟨rfl, HB2.out⟩

theorem mapNew (w : World) : (Instr.makeMap 65 none).run Tryz.prog w = .ok (.map (some w.heap.size)) (w.alloc (.map #[] 0)) := rfl
set_option maxRecDepth 100000 in
set_option maxHeartbeats 4000000 in
theorem globals_none (ga : Option Addr) (gc : Nat) (w : World) : Calls Tryz.prog 29 #[.slice ga 0 gc] w fun e w' => e = .returned (.bool true) ∧ Below w.heap.size w w' := by
  have hm := mapNew
  go_enter Tryz.func29, Tryz.ntmps29
  have HB0 : Hid (Below w.heap.size w (w.alloc (.map #[] 0))) := Lib.hid ((Below.refl _ _).alloc (Nat.le_refl _) _)
  go_wp2_with fail
  go_loopw [9] (fun i wr => Hid (Below w.heap.size w wr) ∧ i = .int .i64 0) (fun _ _ => 0)
  case atStart => exact ⟨HB0, rfl⟩
  case round =>
    obtain ⟨HB, rfl⟩ := hrel
    go_wp2_with fail
    go_ret
    exact ⟨rfl, HB.out⟩

set_option maxRecDepth 100000 in
set_option maxHeartbeats 4000000 in
theorem headed_one {p : Cp} {f : Cf} (ho : One p f) {v : Value} {w : World} (hv : LiesC w w.heap.size p v) (mv : Value) :
    Calls Tryz.prog 31 #[v, .int .i64 0, mv] w fun e w' => e = .returned (.bool (headedB p.funcs 0 f [])) ∧ Below w.heap.size w w' := by
  obtain ⟨g, off, fc, ga, gc, fv, rfl, hfc, hA⟩ := hv.one ho
  obtain ⟨n, hn⟩ : ∃ n, f.code.length = n := ⟨_, rfl⟩
  obtain ⟨t, ht⟩ : ∃ t, f.taken.length = t := ⟨_, rfl⟩
  obtain ⟨x0, x1, x2, x3, x4, x5⟩ := hA.cs
  have hg := hA.lt
  obtain ⟨R, HR⟩ : ∃ R, Hid (headedB p.funcs 0 f [] = R) := ⟨_, rfl⟩
  have hr := HR.out
  unfold headedB at hr
  rw [if_pos rfl, ht] at hr
  rw [HR.out]
  rw [hn] at x5
  rw [ht] at x3
  have hne : f.name.toList.isEmpty = (f.name.data.toList == []) := by rw [ByteArray.toList_eq]; cases f.name.data.toList <;> rfl
  have HRR := Lib.hid hr
  clear hv hA ho hn ht hr HR
  go_enter Tryz.func31, Tryz.ntmps31
  by_cases h1 : f.params < 0 ∨ 13 < f.params ∨ f.slots < f.params
  · have hr := HRR.out
    rw [if_pos h1] at hr
    have HR2 := Lib.hid hr
    clear hr
    rcases h1 with h1 | h1 | h1
    all_goals
      go_wp2_with fail
      all_goals
        go_ret
        refine ⟨ret_bool (by rw [← HR2.out]), ?_⟩
        exact ((Below.refl _ _).alloc (Nat.le_refl _) _).alloc (by simp) _
  · have hr := HRR.out
    rw [if_neg h1] at hr
    have HR2 := Lib.hid hr
    obtain ⟨a1, a2⟩ := not_or.1 h1
    obtain ⟨a3, a4⟩ := not_or.1 a2
    have d1 : decide (f.params < 0) = false := decide_eq_false a1
    have d2 : decide (13 < f.params) = false := decide_eq_false a3
    have d3 : decide (f.slots < f.params) = false := decide_eq_false a4
    clear hr h1 a1 a2 a3 a4
    cases e1 : (f.name.data.toList == []) <;> cases e2 : (f.params == 0) <;> cases e3 : ((t : Int) == 0) <;> cases e4 : (f.around == -1)
    all_goals
      rw [e1] at hne
      go_wp2_with fail
      all_goals
        go_ret
        refine ⟨ret_bool (by rw [← HR2.out, e1, e2]; simp_all), ?_⟩
        exact ((Below.refl _ _).alloc (Nat.le_refl _) _).alloc (by simp) _
end Go.Proofs.YtdjbkppdppdcgaaGreatDoor

namespace Go.Proofs.YtdjbkppdppdcgaaGreatDoor
open Go.RowKit

/-- An instruction that goes nowhere, with nothing in its text. -/
structure PlainI (p : Cp) (f : Nat) (x : Ci) : Prop where
  word : (formOf x.op).word.isEmpty = false
  at0 : 0 ≤ x.at_
  at1 : x.at_ ≤ 60000
  num : numberedB p f x = true
  text : (formOf x.op).text = 0
  says : saysB x = true
  b0 : x.b = 0
  goes : goesB x.op = false
  n26 : x.op ≠ 26

set_option maxRecDepth 100000 in
set_option maxHeartbeats 4000000 in
theorem fine_plain {p : Cp} {v : Value} {w : World} (hG : Gc w) (hv : LiesC w w.heap.size p v) {f k : Nat} {o : Cf} (ho : p.funcs[f]? = some o) {x : Ci} (hx : o.code[k]? = some x) (hlen : o.code.length ≤ 60000) (hp : PlainI p f x) :
    Calls Tryz.prog 32 #[v, .int .i64 f, .int .i64 k] w fun e w' => e = .returned (.bool (decide (k + 1 < o.code.length) || (x.op == 50 || x.op == 34))) ∧ Below w.heap.size w w' := by
  have HV := Lib.hid hv
  have HGc := Lib.hid hG
  obtain ⟨fa, fc, ga, gc, xs, h1, rfl, h3, h4, h5, h6, h7⟩ := hv
  have hfl : f < p.funcs.length := (List.getElem?_eq_some_iff.1 ho).1
  have hkl : k < o.code.length := (List.getElem?_eq_some_iff.1 hx).1
  have hlx : xs.length = p.funcs.length := by have := congrArg List.length h1; simpa using this
  obtain ⟨y, hy⟩ : ∃ y, xs[f]? = some y := ⟨_, List.getElem?_eq_getElem (by omega)⟩
  have hyo : y.1 = o := by
    have : (xs.map Prod.fst)[f]? = some y.1 := by simp [hy]
    rw [h1, ho] at this
    exact (Option.some.inj this).symm
  obtain ⟨o', fv⟩ := y
  obtain rfl : o' = o := hyo
  obtain ⟨g, off, rfl, hg, hc⟩ := h3.at (by rw [flat_len fn_len]; omega)
  have c5 := (fn_at hc hy).2.2.2.2.2
  obtain ⟨_, hcr, _, _⟩ := h7 _ (List.mem_of_getElem? hy)
  dsimp only at hcr
  obtain ⟨ca, co, hca, hcb, hcc⟩ := hcr.at (by rw [flat_len ins_len]; omega)
  rw [hca] at c5
  obtain ⟨x0, x1, x2, x3, x4⟩ := ins_at hcc hx
  have HCC := Lib.hid hcc
  have HF := Lib.hid (forms_call x.op)
  obtain ⟨F, hF⟩ : ∃ F, formOf x.op = F := ⟨_, rfl⟩
  rw [hF] at HF
  have HO := Lib.hid ho
  have HXK := Lib.hid hx
  have HS := Lib.hid (says_plain x hp.text)
  obtain ⟨n, hn⟩ : ∃ n, o'.code.length = n := ⟨_, rfl⟩
  have HN := Lib.hid hn
  obtain ⟨m, hm⟩ : ∃ m, p.funcs.length = m := ⟨_, rfl⟩
  rw [hn] at hkl hlen c5 ⊢
  rw [hm] at hfl h5 ⊢
  have HFF := Lib.hid hF
  have HPV : Hid (LiesC w w.heap.size p (.agg #[.slice (some ⟨g, off, none⟩) m fc, .slice ga p.globals.length gc])) := by rw [← hm]; exact HV
  have HPL := Lib.hid hp
  clear h1 h3 h4 h6 h7 hc hy ho hx hp hn hm hF hca hcr hcc hlx hG HV
  obtain ⟨R, HR⟩ : ∃ R, Hid ((decide (k + 1 < n) || (x.op == 50 || x.op == 34)) = R) := ⟨_, rfl⟩
  rw [HR.out]
  go_enter Tryz.func32, Tryz.ntmps32
  go_upto_region 4 with (go_at_call 39; refine (HF.out _).mono ?_; rintro e w4 ⟨rfl, hb4⟩)
  have hFN : FnAt w (.agg #[.slice (some ⟨g, off, none⟩) m fc, .slice ga p.globals.length gc]) #[.int .i64 x.op, .int .i64 x.a, .int .i64 x.b, .string x.text, .int .i64 x.at_] F w.heap.size (w.heap.size + 1) w4.heap.size (w4.alloc (.cells #[.string ⟨⟨F.word⟩⟩, .int .i64 F.a, .int .i64 F.text, .string ⟨⟨F.takes⟩⟩, .string ⟨⟨F.lays⟩⟩] 80 (0, 0))) := by
    have hs2 : ((w.alloc (.cells #[.slice (some ⟨g, off, none⟩) m fc, .slice ga p.globals.length gc] 25 (0, 0))).alloc (.cells #[.int .i64 x.op, .int .i64 x.a, .int .i64 x.b, .string x.text, .int .i64 x.at_] 46 (0, 0))).heap.size = w.heap.size + 2 := by simp
    have hn1 := heap_alloc_new (w.alloc (.cells #[.slice (some ⟨g, off, none⟩) m fc, .slice ga p.globals.length gc] 25 (0, 0))) (.cells #[.int .i64 x.op, .int .i64 x.a, .int .i64 x.b, .string x.text, .int .i64 x.at_] 46 (0, 0))
    rw [World.size_alloc] at hn1
    have hn0 := (heap_alloc_old (w.alloc (.cells #[.slice (some ⟨g, off, none⟩) m fc, .slice ga p.globals.length gc] 25 (0, 0))) (.cells #[.int .i64 x.op, .int .i64 x.a, .int .i64 x.b, .string x.text, .int .i64 x.at_] 46 (0, 0)) (show w.heap.size < _ by simp)).trans (heap_alloc_new w _)
    have hB2 : Below w.heap.size w ((w.alloc (.cells #[.slice (some ⟨g, off, none⟩) m fc, .slice ga p.globals.length gc] 25 (0, 0))).alloc (.cells #[.int .i64 x.op, .int .i64 x.a, .int .i64 x.b, .string x.text, .int .i64 x.at_] 46 (0, 0))) := ((Below.refl _ _).alloc (Nat.le_refl _) _).alloc (by simp) _
    rw [hs2] at hb4
    have hs4 := hb4.size
    rw [hs2] at hs4
    refine ⟨(hB2.trans (hb4.mono (by omega))).alloc (by omega) _, ⟨_, rfl, (heap_alloc_old _ _ (by omega)).trans ((hb4.block _ (by omega)).trans hn0)⟩, (heap_alloc_old _ _ (by omega)).trans ((hb4.block _ (by omega)).trans hn1), heap_alloc_new _ _⟩
  obtain ⟨pb, hpb⟩ : ∃ pb, w.heap.size = pb := ⟨_, rfl⟩
  obtain ⟨fb, hfb⟩ : ∃ fb, w4.heap.size = fb := ⟨_, rfl⟩
  obtain ⟨W0, hW0⟩ : ∃ W0, w4.alloc (.cells #[.string ⟨⟨F.word⟩⟩, .int .i64 F.a, .int .i64 F.text, .string ⟨⟨F.takes⟩⟩, .string ⟨⟨F.lays⟩⟩] 80 (0, 0)) = W0 := ⟨_, rfl⟩
  rw [hW0] at hFN
  rw [hW0]
  rw [show FnAt w (.agg #[.slice (some ⟨g, off, none⟩) m fc, .slice ga p.globals.length gc]) #[.int .i64 x.op, .int .i64 x.a, .int .i64 x.b, .string x.text, .int .i64 x.at_] F w.heap.size (w.heap.size + 1) w4.heap.size W0 = FnAt w (.agg #[.slice (some ⟨g, off, none⟩) m fc, .slice ga p.globals.length gc]) #[.int .i64 x.op, .int .i64 x.a, .int .i64 x.b, .string x.text, .int .i64 x.at_] F pb (pb + 1) fb W0 by rw [hpb, hfb]] at hFN
  have HFN := Lib.hid hFN
  obtain ⟨z0, z1, z2, z3, z4⟩ := HFN.out.xc
  obtain ⟨p0, p1⟩ := HFN.out.pc
  have f0 := HFN.out.fc
  simp only [hpb, hfb]
  have hp := HPL.out
  have ew : F.word.isEmpty = false := by rw [← HFF.out]; exact hp.word
  have e26 : (x.op == 26) = false := by simp [hp.n26]
  have hwe : (⟨⟨F.word⟩⟩ : ByteArray).toList.isEmpty = F.word.isEmpty := by rw [ByteArray.toList_eq]
  have dA : decide (x.at_ < 0) = false := decide_eq_false (by have := hp.at0; omega)
  have dB : decide (60000 < x.at_) = false := decide_eq_false (by have := hp.at1; omega)
  have db : (x.b == 0) = true := by simp [hp.b0]
  have db2 : (x.b != 0) = false := by simp [hp.b0]
  have en := hp.num
  have es := hp.says
  have eg := hp.goes
  clear hFN hW0 hb4 hfb x0 x1 x2 x3 x4 hp HF
  go_wp2_with (first
    | (go_at_call 57; refine (numbered_any ((HPV.out.keep fun b hb => HFN.out.low.block b hb).more HFN.out.low.size) HO.out x).mono ?_; rintro e w6 ⟨rfl, hb6⟩; rw [en]; have HFN6 := Lib.hid (HFN.out.under hb6); obtain ⟨r0, r1, r2, r3, r4⟩ := HFN6.out.xc; clear hb6)
    | (go_at_call 58; refine (HS.out _ (HGc.out.up HFN6.out.low)).mono ?_; rintro e w7 ⟨rfl, hb7⟩; rw [es]; have HFN7 := Lib.hid (HFN6.out.under hb7); obtain ⟨q0, q1, q2, q3, q4⟩ := HFN7.out.xc; clear hb7)
    | (go_at_call 59; refine (goes_any _ _).mono ?_; rintro e w8 ⟨rfl, hb8⟩; rw [eg]; have HFN8 := Lib.hid (HFN7.out.under hb8); obtain ⟨u0, u1, u2, u3, u4⟩ := HFN8.out.xc; skip; clear hb8))
  all_goals
    go_ret
    refine ⟨ret_bool ?_, (by first | exact HFN8.out.low | (have hlw := HFN8.out.low; simp only [hpb] at hlw; exact hlw))⟩
    rw [← HR.out]
    try first | rfl | (simp [*]; done) | (simp_all; done) | (simp_all; omega) | (rw [Bool.eq_iff_iff]; simp; done) | (rw [Bool.eq_iff_iff]; simp; omega) | (rw [Bool.eq_iff_iff]; simp [*]; done) | (rw [Bool.eq_iff_iff]; simp [*]; omega)
end Go.Proofs.YtdjbkppdppdcgaaGreatDoor
