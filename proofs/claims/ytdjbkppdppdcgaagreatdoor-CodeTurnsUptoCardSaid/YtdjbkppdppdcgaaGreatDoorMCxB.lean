/- code.fine of an instruction as the plain ones are. code.headed of any function of a program. (*strings.Builder).WriteString as this cut has it. -/
import Derived.Lib.Builder
import Derived.Test.YtdjbkppdppdcgaaGreatDoorMCwV
import Derived.Test.YtdjbkppdppdcgaaGreatDoorMCwG
namespace Go.Proofs.YtdjbkppdppdcgaaGreatDoor
open Go.RowKit

/-- An instruction that goes nowhere, with nothing in its text. -/
structure PlainI (p : Cp) (f : Nat) (x : Ci) : Prop where
  word : (formOf x.op).word.isEmpty = false
  at0 : 0 ≤ x.at_
  at1 : x.at_ ≤ 60000
  num : numberedB p f x = true
  text : (formOf x.op).text = 0
  says : saysB x = true
  b0 : x.b = 0
  goes : goesB x.op = false
  n26 : x.op ≠ 26

set_option maxRecDepth 100000 in
set_option maxHeartbeats 4000000 in
theorem fine_plain {p : Cp} {v : Value} {w : World} (hG : Gc w) (hv : LiesC w w.heap.size p v) {f k : Nat} {o : Cf} (ho : p.funcs[f]? = some o) {x : Ci} (hx : o.code[k]? = some x) (hlen : o.code.length ≤ 60000) (hp : PlainI p f x) :
    Calls Tryz.prog 32 #[v, .int .i64 f, .int .i64 k] w fun e w' => e = .returned (.bool (decide (k + 1 < o.code.length) || (x.op == 50 || x.op == 34))) ∧ Below w.heap.size w w' := by
  have HV := Lib.hid hv
  have HGc := Lib.hid hG
  obtain ⟨fa, fc, ga, gc, xs, h1, rfl, h3, h4, h5, h6, h7⟩ := hv
  have hfl : f < p.funcs.length := (List.getElem?_eq_some_iff.1 ho).1
  have hkl : k < o.code.length := (List.getElem?_eq_some_iff.1 hx).1
  have hlx : xs.length = p.funcs.length := by have := congrArg List.length h1; simpa using this
  obtain ⟨y, hy⟩ : ∃ y, xs[f]? = some y := ⟨_, List.getElem?_eq_getElem (by omega)⟩
  have hyo : y.1 = o := by
    have : (xs.map Prod.fst)[f]? = some y.1 := by simp [hy]
    rw [h1, ho] at this
    exact (Option.some.inj this).symm
  obtain ⟨o', fv⟩ := y
  obtain rfl : o' = o := hyo
  obtain ⟨g, off, rfl, hg, hc⟩ := h3.at (by rw [flat_len fn_len]; omega)
  have c5 := (fn_at hc hy).2.2.2.2.2
  obtain ⟨_, hcr, _, _⟩ := h7 _ (List.mem_of_getElem? hy)
  dsimp only at hcr
  obtain ⟨ca, co, hca, hcb, hcc⟩ := hcr.at (by rw [flat_len ins_len]; omega)
  rw [hca] at c5
  obtain ⟨x0, x1, x2, x3, x4⟩ := ins_at hcc hx
  have HCC := Lib.hid hcc
  have HF := Lib.hid (forms_call x.op)
  obtain ⟨F, hF⟩ : ∃ F, formOf x.op = F := ⟨_, rfl⟩
  rw [hF] at HF
  have HO := Lib.hid ho
  have HXK := Lib.hid hx
  have HS := Lib.hid (says_plain x hp.text)
  obtain ⟨n, hn⟩ : ∃ n, o'.code.length = n := ⟨_, rfl⟩
  have HN := Lib.hid hn
  obtain ⟨m, hm⟩ : ∃ m, p.funcs.length = m := ⟨_, rfl⟩
  rw [hn] at hkl hlen c5 ⊢
  rw [hm] at hfl h5 ⊢
  have HFF := Lib.hid hF
  have HPV : Hid (LiesC w w.heap.size p (.agg #[.slice (some ⟨g, off, none⟩) m fc, .slice ga p.globals.length gc])) := by rw [← hm]; exact HV
  have HPL := Lib.hid hp
  clear h1 h3 h4 h6 h7 hc hy ho hx hp hn hm hF hca hcr hcc hlx hG HV
  obtain ⟨R, HR⟩ : ∃ R, Hid ((decide (k + 1 < n) || (x.op == 50 || x.op == 34)) = R) := ⟨_, rfl⟩
  rw [HR.out]
  go_enter Tryz.func32, Tryz.ntmps32
  go_upto_region 4 with (go_at_call 39; refine (HF.out _).mono ?_; rintro e w4 ⟨rfl, hb4⟩)
  have hFN : FnAt w (.agg #[.slice (some ⟨g, off, none⟩) m fc, .slice ga p.globals.length gc]) #[.int .i64 x.op, .int .i64 x.a, .int .i64 x.b, .string x.text, .int .i64 x.at_] F w.heap.size (w.heap.size + 1) w4.heap.size (w4.alloc (.cells #[.string ⟨⟨F.word⟩⟩, .int .i64 F.a, .int .i64 F.text, .string ⟨⟨F.takes⟩⟩, .string ⟨⟨F.lays⟩⟩] 80 (0, 0))) := by
    have hs2 : ((w.alloc (.cells #[.slice (some ⟨g, off, none⟩) m fc, .slice ga p.globals.length gc] 25 (0, 0))).alloc (.cells #[.int .i64 x.op, .int .i64 x.a, .int .i64 x.b, .string x.text, .int .i64 x.at_] 46 (0, 0))).heap.size = w.heap.size + 2 := by simp
    have hn1 := heap_alloc_new (w.alloc (.cells #[.slice (some ⟨g, off, none⟩) m fc, .slice ga p.globals.length gc] 25 (0, 0))) (.cells #[.int .i64 x.op, .int .i64 x.a, .int .i64 x.b, .string x.text, .int .i64 x.at_] 46 (0, 0))
    rw [World.size_alloc] at hn1
    have hn0 := (heap_alloc_old (w.alloc (.cells #[.slice (some ⟨g, off, none⟩) m fc, .slice ga p.globals.length gc] 25 (0, 0))) (.cells #[.int .i64 x.op, .int .i64 x.a, .int .i64 x.b, .string x.text, .int .i64 x.at_] 46 (0, 0)) (show w.heap.size < _ by simp)).trans (heap_alloc_new w _)
    have hB2 : Below w.heap.size w ((w.alloc (.cells #[.slice (some ⟨g, off, none⟩) m fc, .slice ga p.globals.length gc] 25 (0, 0))).alloc (.cells #[.int .i64 x.op, .int .i64 x.a, .int .i64 x.b, .string x.text, .int .i64 x.at_] 46 (0, 0))) := ((Below.refl _ _).alloc (Nat.le_refl _) _).alloc (by simp) _
    rw [hs2] at hb4
    have hs4 := hb4.size
    rw [hs2] at hs4
    refine ⟨(hB2.trans (hb4.mono (by omega))).alloc (by omega) _, ⟨_, rfl, (heap_alloc_old _ _ (by omega)).trans ((hb4.block _ (by omega)).trans hn0)⟩, (heap_alloc_old _ _ (by omega)).trans ((hb4.block _ (by omega)).trans hn1), heap_alloc_new _ _⟩
  obtain ⟨pb, hpb⟩ : ∃ pb, w.heap.size = pb := ⟨_, rfl⟩
  obtain ⟨fb, hfb⟩ : ∃ fb, w4.heap.size = fb := ⟨_, rfl⟩
  obtain ⟨W0, hW0⟩ : ∃ W0, w4.alloc (.cells #[.string ⟨⟨F.word⟩⟩, .int .i64 F.a, .int .i64 F.text, .string ⟨⟨F.takes⟩⟩, .string ⟨⟨F.lays⟩⟩] 80 (0, 0)) = W0 := ⟨_, rfl⟩
  rw [hW0] at hFN
  rw [hW0]
  rw [show FnAt w (.agg #[.slice (some ⟨g, off, none⟩) m fc, .slice ga p.globals.length gc]) #[.int .i64 x.op, .int .i64 x.a, .int .i64 x.b, .string x.text, .int .i64 x.at_] F w.heap.size (w.heap.size + 1) w4.heap.size W0 = FnAt w (.agg #[.slice (some ⟨g, off, none⟩) m fc, .slice ga p.globals.length gc]) #[.int .i64 x.op, .int .i64 x.a, .int .i64 x.b, .string x.text, .int .i64 x.at_] F pb (pb + 1) fb W0 by rw [hpb, hfb]] at hFN
  have HFN := Lib.hid hFN
  obtain ⟨z0, z1, z2, z3, z4⟩ := HFN.out.xc
  obtain ⟨p0, p1⟩ := HFN.out.pc
  have f0 := HFN.out.fc
  simp only [hpb, hfb]
  have hp := HPL.out
  have ew : F.word.isEmpty = false := by rw [← HFF.out]; exact hp.word
  have e26 : (x.op == 26) = false := by simp [hp.n26]
  have hwe : (⟨⟨F.word⟩⟩ : ByteArray).toList.isEmpty = F.word.isEmpty := by rw [ByteArray.toList_eq]
  have dA : decide (x.at_ < 0) = false := decide_eq_false (by have := hp.at0; omega)
  have dB : decide (60000 < x.at_) = false := decide_eq_false (by have := hp.at1; omega)
  have db : (x.b == 0) = true := by simp [hp.b0]
  have db2 : (x.b != 0) = false := by simp [hp.b0]
  have en := hp.num
  have es := hp.says
  have eg := hp.goes
  clear hFN hW0 hb4 hfb x0 x1 x2 x3 x4 hp HF
  go_wp2_with (first
    | (go_at_call 57; refine (numbered_any ((HPV.out.keep fun b hb => HFN.out.low.block b hb).more HFN.out.low.size) HO.out x).mono ?_; rintro e w6 ⟨rfl, hb6⟩; rw [en]; have HFN6 := Lib.hid (HFN.out.under hb6); obtain ⟨r0, r1, r2, r3, r4⟩ := HFN6.out.xc; clear hb6)
    | (go_at_call 58; refine (HS.out _ (HGc.out.up HFN6.out.low)).mono ?_; rintro e w7 ⟨rfl, hb7⟩; rw [es]; have HFN7 := Lib.hid (HFN6.out.under hb7); obtain ⟨q0, q1, q2, q3, q4⟩ := HFN7.out.xc; clear hb7)
    | (go_at_call 59; refine (goes_any _ _).mono ?_; rintro e w8 ⟨rfl, hb8⟩; rw [eg]; have HFN8 := Lib.hid (HFN7.out.under hb8); obtain ⟨u0, u1, u2, u3, u4⟩ := HFN8.out.xc; skip; clear hb8))
  all_goals
    go_ret
    refine ⟨ret_bool ?_, (by first | exact HFN8.out.low | (have hlw := HFN8.out.low; simp only [hpb] at hlw; exact hlw))⟩
    rw [← HR.out]
    try first | rfl | (simp [*]; done) | (simp_all; done) | (simp_all; omega) | (rw [Bool.eq_iff_iff]; simp; done) | (rw [Bool.eq_iff_iff]; simp; omega) | (rw [Bool.eq_iff_iff]; simp [*]; done) | (rw [Bool.eq_iff_iff]; simp [*]; omega)
end Go.Proofs.YtdjbkppdppdcgaaGreatDoor

namespace Go.Proofs.YtdjbkppdppdcgaaGreatDoor
open Go.RowKit

/-- Where a function's cells lie. -/
structure HeadAt (w : World) (g q i n : Nat) (nm : ByteArray) (pa sl ar : Int) (ta : Option Addr) (t tc : Nat) (ca : Option Addr) (cn cc : Nat) : Prop where
  lt : g < w.heap.size
  le : i < n
  x0 : w.cell? ⟨g, q + i * 6, none⟩ = some (.string nm)
  x1 : w.cell? ⟨g, q + i * 6 + 1, none⟩ = some (.int .i64 pa)
  x2 : w.cell? ⟨g, q + i * 6 + 2, none⟩ = some (.int .i64 sl)
  x3 : w.cell? ⟨g, q + i * 6 + 3, none⟩ = some (.slice ta t tc)
  x4 : w.cell? ⟨g, q + i * 6 + 4, none⟩ = some (.int .i64 ar)
  x5 : w.cell? ⟨g, q + i * 6 + 5, none⟩ = some (.slice ca cn cc)
theorem three_cell (w : World) (o1 o2 : Obj) (a : Array Value) (t : TypeId) (j : Nat) (v : Value) (h : a[j]? = some v) : (((w.alloc o1).alloc o2).alloc (.cells a t (0, 0))).cell? ⟨w.heap.size + 2, j, none⟩ = some v := by
  have e : ((w.alloc o1).alloc o2).heap.size = w.heap.size + 2 := by simp
  rw [← e, cell_of_row _ _ j _ _ _ (heap_alloc_new _ _)]
  exact h
set_option maxRecDepth 100000 in
set_option maxHeartbeats 4000000 in
theorem headed_bad {w : World} {g q i n m fc gc t tc cn cc : Nat} {nm : ByteArray} {pa sl ar : Int} {ga ta ca : Option Addr} (hA : HeadAt w g q i n nm pa sl ar ta t tc ca cn cc) (_hn : n ≤ 140737488351232) (_ht : t ≤ 140737488351232) (mv : Value) (h1 : pa < 0 ∨ 13 < pa ∨ sl < pa) :
    Calls Tryz.prog 31 #[.agg #[.slice (some ⟨g, q, none⟩) n fc, .slice ga m gc], .int .i64 i, mv] w fun e w' => e = .returned (.bool false) ∧ Below w.heap.size w w' := by
  have hg := hA.lt
  have hlt := hA.le
  have x0 := hA.x0
  have x1 := hA.x1
  have x2 := hA.x2
  have x3 := hA.x3
  have x4 := hA.x4
  have x5 := hA.x5
  clear hA
  go_enter Tryz.func31, Tryz.ntmps31
  rcases h1 with h1 | h1 | h1
  all_goals
    go_wp2_with fail
    all_goals
      go_ret
      exact ⟨rfl, ((Below.refl _ _).alloc (Nat.le_refl _) _).alloc (by simp) _⟩
set_option maxRecDepth 100000 in
set_option maxHeartbeats 4000000 in
theorem headed_zero {w : World} {g q i n m fc gc t tc cn cc : Nat} {nm : ByteArray} {pa sl ar : Int} {ga ta ca : Option Addr} (hA : HeadAt w g q i n nm pa sl ar ta t tc ca cn cc) (_hn : n ≤ 140737488351232) (_ht : t ≤ 140737488351232) (h1 : ¬(pa < 0 ∨ 13 < pa ∨ sl < pa)) (mv : Value) (hi : i = 0) :
    Calls Tryz.prog 31 #[.agg #[.slice (some ⟨g, q, none⟩) n fc, .slice ga m gc], .int .i64 i, mv] w fun e w' => e = .returned (.bool (nm.data.toList == [] && (pa == 0 && (((t : Int) == 0) && ar == -1)))) ∧ Below w.heap.size w w' := by
  subst hi
  have hg := hA.lt
  have hlt := hA.le
  have x0 := hA.x0
  have x1 := hA.x1
  have x2 := hA.x2
  have x3 := hA.x3
  have x4 := hA.x4
  have x5 := hA.x5
  obtain ⟨a1, a2⟩ := not_or.1 h1
  obtain ⟨a3, a4⟩ := not_or.1 a2
  have d1 : decide (pa < 0) = false := decide_eq_false a1
  have d2 : decide (13 < pa) = false := decide_eq_false a3
  have d3 : decide (sl < pa) = false := decide_eq_false a4
  clear hA h1 a1 a2 a3 a4
  have hne : nm.toList.isEmpty = (nm.data.toList == []) := by rw [ByteArray.toList_eq]; cases nm.data.toList <;> rfl
  simp only [Nat.zero_mul, Nat.add_zero] at x0 x1 x2 x3 x4 x5
  go_enter Tryz.func31, Tryz.ntmps31
  cases e1 : (nm.data.toList == []) <;> cases e2 : (pa == 0) <;> cases e3 : ((t : Int) == 0) <;> cases e4 : (ar == -1)
  all_goals
    rw [e1] at hne
    go_wp2_with fail
    all_goals
      go_ret
      refine ⟨ret_bool (by first | rfl | simp_all), ?_⟩
      exact ((Below.refl _ _).alloc (Nat.le_refl _) _).alloc (by simp) _
set_option maxRecDepth 100000 in
set_option maxHeartbeats 4000000 in
theorem headed_decl {w : World} {g q i n m fc gc t tc cn cc : Nat} {nm : ByteArray} {pa sl ar : Int} {ga ta ca : Option Addr} (hA : HeadAt w g q i n nm pa sl ar ta t tc ca cn cc) (_hn : n ≤ 140737488351232) (_ht : t ≤ 140737488351232) (h1 : ¬(pa < 0 ∨ 13 < pa ∨ sl < pa)) (hi : i ≠ 0) (hr : ar = -1) (hG : Gc w) {b k : Nat} (h13 : 13 ≤ b) {old : List (List UInt8)} (hc : CntAt w b k old) (hk : k ≤ 100000000000000) (ho : old.length ≤ 100000000000000) (hs : nm.size ≤ 4000000000) :
    Calls Tryz.prog 31 #[.agg #[.slice (some ⟨g, q, none⟩) n fc, .slice ga m gc], .int .i64 i, .map (some b)] w fun e w' => e = .returned (.bool (((t : Int) == 0) && (declaredB nm.data.toList && !old.contains nm.data.toList))) ∧ (w.grownBy w' (some b)) ∧ CntAt w' b (k + 1) (nm.data.toList :: old) := by
  subst hr
  have hg := hA.lt
  have hlt := hA.le
  have x0 := hA.x0
  have x1 := hA.x1
  have x2 := hA.x2
  have x3 := hA.x3
  have x4 := hA.x4
  have x5 := hA.x5
  obtain ⟨a1, a2⟩ := not_or.1 h1
  obtain ⟨a3, a4⟩ := not_or.1 a2
  have d1 : decide (pa < 0) = false := decide_eq_false a1
  have d2 : decide (13 < pa) = false := decide_eq_false a3
  have d3 : decide (sl < pa) = false := decide_eq_false a4
  clear hA h1 a1 a2 a3 a4
  have hi0 : ((i : Int) == 0) = false := by simp; omega
  obtain ⟨W2, HW2⟩ : ∃ W2, Hid (W2 = (w.alloc (.cells #[.slice (some ⟨g, q, none⟩) n fc, .slice ga m gc] 25 (0, 0))).alloc (.cells #[.string nm, .int .i64 pa, .int .i64 sl, .slice ta t tc, .int .i64 (-1), .slice ca cn cc] 43 (0, 0))) := ⟨_, rfl⟩
  have hB2 : Below w.heap.size w W2 := by rw [HW2.out]; exact ((Below.refl _ _).alloc (Nat.le_refl _) _).alloc (by simp) _
  have hC2 := hc.keep hB2
  obtain ⟨c, hcc⟩ : ∃ c : Nat, old.count nm.data.toList = c := ⟨_, rfl⟩
  have hcl : c ≤ old.length := by rw [← hcc]; exact List.count_le_length
  have hk1 := hC2.look nm (by omega)
  obtain ⟨w3, hu, hC3, hg3⟩ := hC2.put nm (by omega) (by omega) (by omega)
  have hbw : b < w.heap.size := by obtain ⟨D, h1, _⟩ := hc; exact h1.lt
  rw [hcc] at hk1 hu
  have hcells : ∀ j v, (#[.string nm, .int .i64 pa, .int .i64 sl, .slice ta t tc, .int .i64 (-1), .slice ca cn cc] : Array Value)[j]? = some v → w3.cell? ⟨w.heap.size + 1, j, none⟩ = some v := fun j v hj => by
    rw [World.cell?_of_block (a := ⟨w.heap.size + 1, j, none⟩) (hg3.block (w.heap.size + 1) (by rw [HW2.out]; simp) (by intro e; injection e with e; omega)), HW2.out]
    rw [cell_of_row _ (w.heap.size + 1) j _ _ _ (by have := heap_alloc_new (w.alloc (.cells #[.slice (some ⟨g, q, none⟩) n fc, .slice ga m gc] 25 (0, 0))) (.cells #[.string nm, .int .i64 pa, .int .i64 sl, .slice ta t tc, .int .i64 (-1), .slice ca cn cc] 43 (0, 0)); simpa using this)]
    exact hj
  have z0 := hcells 0 _ rfl
  have z3 := hcells 3 _ rfl
  have hs3 : w.heap.size + 1 < w3.heap.size := World.block_lt_of_cell? w3 ⟨w.heap.size + 1, 0, none⟩ z0
  have hgb : w.grownBy w3 (some b) := ⟨hg3.os.trans hB2.os, hg3.tape.trans hB2.tape, hg3.output.trans hB2.output, Nat.le_trans hB2.size hg3.size, fun j hj hjb => (hg3.block j (Nat.lt_of_lt_of_le hj hB2.size) hjb).trans (hB2.block j hj)⟩
  have HGB := Lib.hid hgb
  have HC3 := Lib.hid hC3
  have HG3 : Hid (Gc w3) := Lib.hid (hG.below (B := 13) (Nat.le_refl 13) ⟨hgb.os, hgb.tape, hgb.output, hgb.size, fun j hj => hgb.block j (Nat.lt_of_lt_of_le hj hG.size) (by intro e; injection e with e; omega)⟩)
  have HK4 : Hid (∀ w4, Below w3.heap.size w3 w4 → (Instr.lookup 65 (.map (some b)) (.string nm) false).run Tryz.prog w4 = .ok (.int .i64 ((c : Int) + 1)) w4) := Lib.hid fun w4 hb4 => by
    have := (HC3.out.keep hb4).look nm (by omega)
    rw [List.count_cons_self, hcc] at this
    exact this
  have HFIN : Hid (∀ w4, Below w3.heap.size w3 w4 → w.grownBy w4 (some b) ∧ CntAt w4 b (k + 1) (nm.data.toList :: old)) := Lib.hid fun w4 hb4 =>
    ⟨⟨hb4.os.trans HGB.out.os, hb4.tape.trans HGB.out.tape, hb4.output.trans HGB.out.output, Nat.le_trans HGB.out.size hb4.size, fun j hj hjb => (hb4.block j (Nat.lt_of_lt_of_le hj HGB.out.size)).trans (HGB.out.block j hj hjb)⟩, HC3.out.keep hb4⟩
  have HD : Hid (∀ W, Gc W → Calls Tryz.prog 54 #[.string nm] W fun e w' => e = .returned (.bool (declaredB nm.data.toList)) ∧ Below W.heap.size W w') := Lib.hid fun W hW => declared_any nm.data.toList W hW (by show nm.size ≤ _; omega)
  have HCC := Lib.hid hcc
  have hW2 := HW2.out
  subst hW2
  clear hc hC2 hC3 hg3 hgb hB2 hcells hcc HW2 hG
  go_enter Tryz.func31, Tryz.ntmps31
  cases e3 : ((t : Int) == 0) with
  | false =>
    go_wp2_with fail
    go_ret
    exact ⟨ret_bool (by first | rfl | simp_all), HFIN.out _ (Below.refl _ _)⟩
  | true =>
    cases e4 : declaredB nm.data.toList with
    | false =>
      go_wp2_with (go_at_call 54; refine (HD.out _ HG3.out).mono ?_; rw [e4]; rintro e w4 ⟨rfl, hb4⟩)
      go_ret
      exact ⟨ret_bool (by first | rfl | simp_all), HFIN.out _ hb4⟩
    | true =>
      by_cases hc0 : c = 0
      · subst hc0
        rw [show ((0 : Nat) : Int) + 1 = 1 from rfl] at hu
        rw [show ((0 : Nat) : Int) = 0 from rfl] at hk1
        have hnc := count_zero_not HCC.out
        go_wp2_with (go_at_call 54; refine (HD.out _ HG3.out).mono ?_; rw [e4]; rintro e w4 ⟨rfl, hb4⟩; have hk4 := HK4.out w4 hb4; have z0' := (hb4.cell (p := ⟨w.heap.size + 1, 0, none⟩) hs3).trans z0)
        go_ret
        exact ⟨ret_bool (by rw [hnc]; first | rfl | simp_all), HFIN.out _ hb4⟩
      · have hnc := count_pos_in (by rw [HCC.out]; exact hc0)
        have hc1 : ((c : Int) + 1 == 1) = false := by simp; omega
        go_wp2_with (go_at_call 54; refine (HD.out _ HG3.out).mono ?_; rw [e4]; rintro e w4 ⟨rfl, hb4⟩; have hk4 := HK4.out w4 hb4; have z0' := (hb4.cell (p := ⟨w.heap.size + 1, 0, none⟩) hs3).trans z0)
        go_ret
        exact ⟨ret_bool (by rw [hnc]; first | rfl | simp_all), HFIN.out _ hb4⟩
set_option maxRecDepth 100000 in
set_option maxHeartbeats 4000000 in
theorem headed_odd {w : World} {g q i n m fc gc t tc cn cc : Nat} {nm : ByteArray} {pa sl ar : Int} {ga ta ca : Option Addr} (hA : HeadAt w g q i n nm pa sl ar ta t tc ca cn cc) (hn : n ≤ 140737488351232) (_ht : t ≤ 140737488351232) (h1 : ¬(pa < 0 ∨ 13 < pa ∨ sl < pa)) (mv : Value) (hi : i ≠ 0) (hr : ar ≠ -1) (hw : nm.data.toList ≠ [102, 117, 110, 99] ∨ ar < 0 ∨ (i : Int) ≤ ar) :
    Calls Tryz.prog 31 #[.agg #[.slice (some ⟨g, q, none⟩) n fc, .slice ga m gc], .int .i64 i, mv] w fun e w' => e = .returned (.bool false) ∧ Below w.heap.size w w' := by
  have hg := hA.lt
  have hlt := hA.le
  have x0 := hA.x0
  have x1 := hA.x1
  have x2 := hA.x2
  have x3 := hA.x3
  have x4 := hA.x4
  have x5 := hA.x5
  obtain ⟨a1, a2⟩ := not_or.1 h1
  obtain ⟨a3, a4⟩ := not_or.1 a2
  have d1 : decide (pa < 0) = false := decide_eq_false a1
  have d2 : decide (13 < pa) = false := decide_eq_false a3
  have d3 : decide (sl < pa) = false := decide_eq_false a4
  clear hA h1 a1 a2 a3 a4
  have hi0 : ((i : Int) == 0) = false := by simp; omega
  have hr0 : (ar == -1) = false := by simpa using hr
  have hne : (nm.toList == [102, 117, 110, 99]) = (nm.data.toList == [102, 117, 110, 99]) := by rw [ByteArray.toList_eq]
  have HW := Lib.hid hw
  clear hw hi hr
  go_enter Tryz.func31, Tryz.ntmps31
  cases e1 : (nm.data.toList == [102, 117, 110, 99])
  · rw [e1] at hne
    go_wp2_with fail
    go_ret
    exact ⟨rfl, ((Below.refl _ _).alloc (Nat.le_refl _) _).alloc (by simp) _⟩
  · rw [e1] at hne
    rcases HW.out with h | h | h
    · exact absurd (by simpa using e1) h
    all_goals
      go_wp2_with fail
      all_goals
        go_ret
        exact ⟨rfl, ((Below.refl _ _).alloc (Nat.le_refl _) _).alloc (by simp) _⟩
set_option maxRecDepth 100000 in
set_option maxHeartbeats 4000000 in
theorem headed_inner {w : World} {g q i n m fc gc t tc cn cc : Nat} {nm : ByteArray} {pa sl ar : Int} {ga ta ca : Option Addr} (hA : HeadAt w g q i n nm pa sl ar ta t tc ca cn cc) (_hn : n ≤ 140737488351232) (ht : t ≤ 140737488351232) (h1 : ¬(pa < 0 ∨ 13 < pa ∨ sl < pa)) (mv : Value) (hi : i ≠ 0) (hr : ar ≠ -1) (hw : nm.data.toList = [102, 117, 110, 99]) {j : Nat} (hj : ar = (j : Int)) (hji : j < i)
    {nm2 : ByteArray} {pa2 sl2 ar2 : Int} {ta2 ca2 : Option Addr} {t2 tc2 cn2 cc2 : Nat} (hA2 : HeadAt w g q j n nm2 pa2 sl2 ar2 ta2 t2 tc2 ca2 cn2 cc2) (ht2 : t2 ≤ 140737488351232) {l : List Int} (hl : l.length = t) (hrow : RowIs w w.heap.size ta (l.map (Value.int .i64))) :
    Calls Tryz.prog 31 #[.agg #[.slice (some ⟨g, q, none⟩) n fc, .slice ga m gc], .int .i64 i, mv] w fun e w' => e = .returned (.bool (!l.any (outB sl2 t2))) ∧ Below w.heap.size w w' := by
  have hg := hA.lt
  have hlt := hA.le
  have x0 := hA.x0
  have x1 := hA.x1
  have x2 := hA.x2
  have x3 := hA.x3
  have x4 := hA.x4
  have x5 := hA.x5
  obtain ⟨a1, a2⟩ := not_or.1 h1
  obtain ⟨a3, a4⟩ := not_or.1 a2
  have d1 : decide (pa < 0) = false := decide_eq_false a1
  have d2 : decide (13 < pa) = false := decide_eq_false a3
  have d3 : decide (sl < pa) = false := decide_eq_false a4
  clear hA h1 a1 a2 a3 a4
  have hi0 : ((i : Int) == 0) = false := by simp; omega
  have hr0 : (ar == -1) = false := by simpa using hr
  have hr1 : decide (ar < 0) = false := by simp; omega
  have hr2 : decide ((i : Int) ≤ ar) = false := by simp; omega
  have hne : (nm.toList == [102, 117, 110, 99]) = true := by rw [ByteArray.toList_eq, hw]; rfl
  subst hj
  have y0 := hA2.x0
  have y1 := hA2.x1
  have y2 := hA2.x2
  have y3 := hA2.x3
  have y4 := hA2.x4
  have y5 := hA2.x5
  have hjn := hA2.le
  have HC : Hid (∀ W, Below w.heap.size w W → ∀ b, W.cell? ⟨b, 2, none⟩ = some (.int .i64 sl2) → W.cell? ⟨b, 3, none⟩ = some (.slice ta2 t2 tc2) → Calls Tryz.prog 55 #[.slice ta t tc, .func (.func 56) #[] #[.pointer (some ⟨b, 0, none⟩)]] W fun e w' => e = .returned (.bool (l.any (outB sl2 t2))) ∧ w' = W) :=
    Lib.hid fun W hW b h2 h3 => hl ▸ containsTaken_any (c := tc) h2 h3 ht2 ((hrow.keep hW.block).more hW.size) (by omega)
  have hmf : ∀ (fn : Fn) (first cap : Array Value) (w : World), (Instr.makeFunc fn first cap).run Tryz.prog w = .ok (.func fn first cap) w := fun _ _ _ _ => rfl
  have HB3 : Hid (∀ o1 o2 o3, Below w.heap.size w (((w.alloc o1).alloc o2).alloc o3)) := Lib.hid fun o1 o2 o3 => (((Below.refl _ _).alloc (Nat.le_refl _) _).alloc (by simp) _).alloc (by simp; omega) _
  clear hA2 hrow hl hw
  go_enter Tryz.func31, Tryz.ntmps31
  go_wp2_with (go_at_call 55; refine (HC.out _ (HB3.out _ _ _) (w.heap.size + 2) ?_ ?_).mono ?_; rotate_left 2; rintro e w4 ⟨rfl, rfl⟩)
  · go_ret
    exact ⟨rfl, HB3.out _ _ _⟩
  · exact three_cell _ _ _ _ _ _ _ rfl
  · exact three_cell _ _ _ _ _ _ _ rfl
end Go.Proofs.YtdjbkppdppdcgaaGreatDoor

namespace Go.Proofs.YtdjbkppdppdcgaaGreatDoor
open Go.RowKit

theorem bldInfo : (Tryz.prog.info? 74).map (·.size) = some 2 := by kernel_rfl
theorem bldLies : liesAt Tryz.prog Tryz.prog.depth 74 (2 / Tryz.prog.cellsOf 74) 0 74 1 = true := by kernel_rfl
/-- A row of one's own where its block is as it was. -/
theorem own_keep' {W W' : World} {lo : Nat} {e : TypeId} {s n : Nat} {v : Value} {xs : List Value} (h : W.ownsRow lo e s v n xs) (hk : ∀ g, v.ownBlock = some g → W'.heap[g]? = W.heap[g]?) : W'.ownsRow lo e s v n xs := by
  refine ⟨h.1, ?_⟩
  rcases h.2 with h | ⟨g, cap, cur, rfl, hlo, hg, h1, h2, h3, h4⟩
  · exact .inl h
  · exact .inr ⟨g, cap, cur, rfl, hlo, (hk g rfl).trans hg, h1, h2, h3, h4⟩
/-- A builder of the call's own. -/
structure BdAt (w0 W : World) (b : Nat) (v : Value) (bs : List UInt8) : Prop where
  box : ∃ p, (p = .pointer none ∨ p = .pointer (some ⟨b, 0, none⟩)) ∧ W.heap[b]? = some (.cells #[p, v] 74 (0, 0))
  own : W.ownsRow w0.heap.size 5 1 v bs.length (Lib.byteCells bs)
  ne : v.ownBlock ≠ some b
  low : Below w0.heap.size w0 W
  lo : w0.heap.size ≤ b
/-- A box beside it. -/
def BxAt (W : World) (b : Nat) (v : Value) (k : Nat) (o : Obj) : Prop := W.heap[k]? = some o ∧ k ≠ b ∧ v.ownBlock ≠ some k

set_option maxRecDepth 100000 in
set_option maxHeartbeats 4000000 in
theorem copyCheck_any {w : World} {b : Nat} {p v : Value} (hp : p = .pointer none ∨ p = .pointer (some ⟨b, 0, none⟩)) (hb : w.heap[b]? = some (.cells #[p, v] 74 (0, 0))) :
    Calls Tryz.prog 64 #[.pointer (some ⟨b, 0, none⟩)] w fun e w' => e = .returned (.tuple #[]) ∧ w'.heap[b]? = some (.cells #[.pointer (some ⟨b, 0, none⟩), v] 74 (0, 0)) ∧ Foot w.heap.size (fun k => k = b) w w' := by
  have c0 := cell_of_row w b 0 _ _ _ hb
  have f0 := frozen_of_row w b 0 _ _ hb
  simp only [List.getElem?_toArray, List.getElem?_cons_zero] at c0
  have hsh : w.shape? b = some (74, 2) := by unfold World.shape?; rw [hb]; rfl
  obtain ⟨j, hj, hjs⟩ := Option.map_eq_some_iff.1 bldInfo
  have HB := Lib.hid hb
  clear hb
  rcases hp with rfl | rfl
  · have k1 : (convert 72 127 (.pointer (some ⟨b, 0, none⟩))).run Tryz.prog w = .ok (.pointer (some ⟨b, 0, none⟩)) w := Lib.run_to_unsafe w ⟨b, 0, none⟩ Tryz.underlying72 Tryz.underlying127 hj (by rw [hjs]; decide) hsh (Nat.zero_lt_succ 1)
    have k3 : (convert 127 72 (.pointer (some ⟨b, 0, none⟩))).run Tryz.prog w = .ok (.pointer (some ⟨b, 0, none⟩)) w := Lib.run_from_unsafe w ⟨b, 0, none⟩ Tryz.underlying127 Tryz.underlying72 hj hsh bldLies
    go_enter Tryz.func64, Tryz.ntmps64
    have k2 : (callFunc 91 #[.pointer (some ⟨b, 0, none⟩)]).run Tryz.prog w = .ok (.value (.pointer (some ⟨b, 0, none⟩))) w := by
      rw [run_callFunc_extern Tryz.func91 (by kernel_rfl) (by kernel_rfl) (by kernel_rfl) (e := Extern.AbiNoEscape.same) (by kernel_rfl), Lib.run_noEscape]
      rfl
    go_wp2_with fail
    go_end0
    exact ⟨rfl, heap_setCell_same _ _ 0 _ _ _ HB.out, Foot.set (g := fun k => k = b) (p := ⟨b, 0, none⟩) (Foot.refl _ _ _) (.inr rfl) _⟩
  · have k4 := Lib.run_neq_ptr_same (P := Tryz.prog) w ⟨b, 0, none⟩ Tryz.underlying72 hj
    go_enter Tryz.func64, Tryz.ntmps64
    go_wp2_with fail
    go_end0
    exact ⟨rfl, HB.out, Foot.refl _ _ _⟩

set_option maxRecDepth 100000 in
set_option maxHeartbeats 4000000 in
theorem writeString_any {w0 w : World} {b : Nat} {v : Value} {bs : List UInt8} (h : BdAt w0 w b v bs) (s : ByteArray) (hlen : bs.length + s.size ≤ 100000000) :
    Calls Tryz.prog 36 #[.pointer (some ⟨b, 0, none⟩), .string s] w fun e w' => e = .returned (.tuple #[.int .i64 s.size, .nilIface]) ∧ ∃ v', BdAt w0 w' b v' (bs ++ s.data.toList) ∧ ∀ k o, BxAt w b v k o → BxAt w' b v' k o := by
  obtain ⟨i0, hi, hz0, hz1, hz2⟩ := info_parts byteInfo
  obtain ⟨p, hp, hb⟩ := h.box
  have hblt : b < w.heap.size := (Array.getElem?_eq_some_iff.1 hb).1
  have HC := Lib.hid (copyCheck_any hp hb)
  have H := Lib.hid h
  have hsz : s.data.toList.length = s.size := by rw [Array.length_toList]; rfl
  have HSZ := Lib.hid hsz
  clear hb hp h hsz
  go_enter Tryz.func36, Tryz.ntmps36
  go_wp2_with (first
    | (go_at_call 64; refine HC.out.mono ?_; rintro e w1 ⟨rfl, hb1, hf1⟩; have c1 := cell_of_row w1 b 1 _ _ _ hb1; simp only [List.getElem?_toArray, List.getElem?_cons_zero, List.getElem?_cons_succ] at c1; have HO1 := Lib.hid (own_keep' H.out.own (fun g hg => hf1.block g (H.out.own.lt g hg).2 (fun e => H.out.ne (by rw [hg, e])))); have HB1 := Lib.hid hb1; have hs1 := hf1.size; have hlow := H.out.low.size; have HF1 := Lib.hid hf1; clear hb1 hf1)
    | (at_builtin; refine wpList_append_str _ rfl _ _ 69 9 rfl w0.heap.size 5 i0 Tryz.underlying69 Tryz.underlying9 hi hz0 hz1 hz2 v bs.length (Lib.byteCells bs) rfl HO1.out s rfl (by unfold maxLen; omega) (by omega) (by omega) ?_; intro v2 w2 ho2 hg2 hn2; obtain ⟨A2, k2, rfl, _, _⟩ := row_form ho2; have hb2 := (hg2.block b (by omega) (fun e => H.out.ne e.symm)).trans HB1.out; have d1 := cell_of_row w2 b 1 _ _ _ hb2; have f1 := frozen_of_row w2 b 1 _ _ hb2; simp only [List.getElem?_toArray, List.getElem?_cons_zero, List.getElem?_cons_succ] at d1))
  go_ret2
  have hset : ∀ k, k ≠ b → (w2.setCell ⟨b, 1, none⟩ (.slice A2 (bs.length + s.size) k2)).heap[k]? = w2.heap[k]? := fun k hk => Below.heap_setCell w2 _ _ _ hk
  have hne2 : ∀ g, (Value.slice A2 (bs.length + s.size) k2).ownBlock = some g → g ≠ b := fun g hg e => by
    rcases hn2 g hg with h | h
    · exact H.out.ne (by rw [h, e])
    · omega
  refine ⟨rfl, .slice A2 (bs.length + s.size) k2, ⟨⟨_, .inr rfl, heap_setCell_same _ _ 1 _ _ _ hb2⟩, ?_, fun e => hne2 b e rfl, ?_, H.out.lo⟩, fun k o hx => ?_⟩
  · have e1 : (bs ++ s.data.toList).length = bs.length + s.size := by rw [List.length_append, HSZ.out]
    have e2 : Lib.byteCells (bs ++ s.data.toList) = Lib.byteCells bs ++ Lib.strCells s := by simp [Lib.byteCells, Lib.strCells]
    rw [e1, e2]
    exact own_keep' ho2 fun g hg => hset g (hne2 g hg)
  · have hf := HF1.out
    refine ⟨hg2.os.trans (hf.os.trans H.out.low.os), hg2.tape.trans (hf.tape.trans H.out.low.tape), hg2.output.trans (hf.output.trans H.out.low.output), by have := hg2.size; rw [World.size_setCell]; omega, fun k hk => ?_⟩
    have hlo := H.out.lo
    refine (hset k (by omega)).trans ((hg2.block k (by omega) (fun e => ?_)).trans ((hf.block k (by omega) (by omega)).trans (H.out.low.block k hk)))
    have := (H.out.own.lt k e.symm).1
    omega
  · have hkl := (Array.getElem?_eq_some_iff.1 hx.1).1
    refine ⟨(hset k hx.2.1).trans ((hg2.block k (by omega) (fun e => hx.2.2 e.symm)).trans ((HF1.out.block k hkl hx.2.1).trans hx.1)), hx.2.1, fun e => ?_⟩
    rcases hn2 k e with h | h
    · exact hx.2.2 h
    · omega
end Go.Proofs.YtdjbkppdppdcgaaGreatDoor
