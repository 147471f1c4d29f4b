/- guiselaw13.told, least, wide. guiselaw13.known: the chapter's first examples are so. CodeTurns: for every program that is not too great the law answers true (the walk). -/
import Derived.Test.YtdjbkppdppdcgaaGreatDoorMCyJ
import Derived.Test.YtdjbkppdppdcgaaGreatDoorMCyD
import Derived.Test.YtdjbkppdppdcgaaGreatDoorCxF
import Derived.Test.YtdjbkppdppdcgaaGreatDoorCxL
import Derived.Test.YtdjbkppdppdcgaaGreatDoorMCzT
import Derived.Test.YtdjbkppdppdcgaaGreatDoorMScanA
namespace Go.Proofs.YtdjbkppdppdcgaaGreatDoor
open Go.RowKit

theorem isWrongC (p : Value) (w : World) : Sem.run Tryz.prog (Instr.typeAssert (.iface 61 p) 33 61 true) w = .ok (.tuple #[p, .bool true]) w := by kernel_rfl
theorem eql_wrong (c a c' a' : Int) (s s' : ByteArray) (w : World) : (binOp .eql 51 (.agg #[.int .i64 c, .int .i64 a, .string s]) (.agg #[.int .i64 c', .int .i64 a', .string s'])).run Tryz.prog w = .ok (.bool (c == c' && (a == a' && decide (s = s')))) w := by
  have hS : Tryz.prog.underlying 51 = some (.struct (Tryz.prog.fieldsOf 51)) := by kernel_rfl
  have hp : Tryz.prog.stoodInHeld 51 = false := by kernel_rfl
  rw [run_eql_struct, show (10000 : Nat) = 9999 + 1 from rfl, run_equalIn_agg w 9999 _ _ _ hS hp]
  simp only [Program.fieldsOf, Tryz.underlying51]
  go_simp
  have ht : s.toList = s'.toList ↔ s = s' := ⟨toList_inj, congrArg _⟩
  by_cases h1 : c = c' <;> by_cases h2 : a = a' <;> by_cases h3 : s = s' <;> simp [ht, h1, h2, h3]

set_option maxRecDepth 100000 in
set_option maxHeartbeats 4000000 in
theorem told_wrong {w : World} {b : Nat} {c a : Int} {i : Option Int} (h : WrAt w b c a i) (c' a' : Int) (s' : ByteArray) (h0 : c' ≠ 0) :
    Calls Tryz.prog 19 #[.iface 61 (.pointer (some ⟨b, 0, none⟩)), .agg #[.int .i64 c', .int .i64 a', .string s']] w fun e w' => e = .returned (.bool (c == c' && (a == a' && decide (insName i = s')))) ∧ Below w.heap.size w w' := by
  obtain ⟨s, hs⟩ : ∃ s, insName i = s := ⟨_, rfl⟩
  unfold WrAt at h
  rw [hs] at h ⊢
  have hb := (Array.getElem?_eq_some_iff.1 h).1
  have hB : Below w.heap.size w (w.alloc (.cells #[.int .i64 c', .int .i64 a', .string s'] 51 (0, 0))) := (Below.refl _ _).alloc (Nat.le_refl _) _
  have h1 := (heap_alloc_old w (.cells #[.int .i64 c', .int .i64 a', .string s'] 51 (0, 0)) hb).trans h
  have h2 := heap_alloc_new w (.cells #[.int .i64 c', .int .i64 a', .string s'] 51 (0, 0))
  have e0 : (c' == 0) = false := by simp [h0]
  have heq := eql_wrong c a c' a' s s'
  have hta := isWrongC
  obtain ⟨R, hR⟩ : ∃ R, (c == c' && (a == a' && decide (s = s'))) = R := ⟨_, rfl⟩
  rw [hR] at heq ⊢
  have HB := Lib.hid hB
  clear hR h hs h0 hB
  go_enter Tryz.func19, Tryz.ntmps19
  go_upto_region 4 with fail
  obtain ⟨nb, hnb⟩ : ∃ nb, w.heap.size = nb := ⟨_, rfl⟩
  obtain ⟨W1, hW1⟩ : ∃ W1, w.alloc (.cells #[.int .i64 c', .int .i64 a', .string s'] 51 (0, 0)) = W1 := ⟨_, rfl⟩
  simp only [hnb, hW1] at h1 h2 HB ⊢
  have t0 : ∀ k, (W1.drewN k).cell? ⟨b, 0, none⟩ = some (.int .i64 c) := fun _ => cell_of_row W1 b 0 _ _ _ h1
  have t1 : ∀ k, (W1.drewN k).cell? ⟨b, 1, none⟩ = some (.int .i64 a) := fun _ => cell_of_row W1 b 1 _ _ _ h1
  have t2 : ∀ k, (W1.drewN k).cell? ⟨b, 2, none⟩ = some (.string s) := fun _ => cell_of_row W1 b 2 _ _ _ h1
  have u0 : ∀ k, (W1.drewN k).cell? ⟨nb, 0, none⟩ = some (.int .i64 c') := fun _ => cell_of_row W1 nb 0 _ _ _ h2
  have u1 : ∀ k, (W1.drewN k).cell? ⟨nb, 1, none⟩ = some (.int .i64 a') := fun _ => cell_of_row W1 nb 1 _ _ _ h2
  have u2 : ∀ k, (W1.drewN k).cell? ⟨nb, 2, none⟩ = some (.string s') := fun _ => cell_of_row W1 nb 2 _ _ _ h2
  clear h1 h2 hW1
  go_quiet (fail)
  go_wp2_with fail
  go_ret
  exact ⟨rfl, by rw [hnb]; exact under_drew HB.out _⟩

theorem prog_result (tmps : Array Value) (W : World) (g : Nat) (v0 v1 : Value) (h2 : tmps.getD 0 undef = .pointer (some ⟨g, 0, none⟩)) (e0 : W.cell? ⟨g, 0, none⟩ = some v0) (e1 : W.cell? ⟨g, 1, none⟩ = some v1) :
    (results Tryz.f18 tmps).run Tryz.prog W = .ok (.agg #[v0, v1]) W := by
  have h2' : tmps[0]?.getD undef = .pointer (some ⟨g, 0, none⟩) := by simpa using h2
  have hres : Tryz.f18.results = #[ResultVar.cell 0 25] := rfl
  simp [results, go_sem, h2', e0, e1]

theorem row_of_block {W : World} {b : Nat} {cs : List Value} {t : TypeId} {fr : Nat × Nat} (h : W.heap[b]? = some (.cells cs.toArray t fr)) : RowIs W W.heap.size (some ⟨b, 0, none⟩) cs :=
  .inr ⟨b, 0, rfl, (Array.getElem?_eq_some_iff.1 h).1, fun j v hj => by rw [Nat.zero_add, cell_of_row W b j _ _ _ h, List.getElem?_toArray, hj]⟩
/-- A program of one function as it is built in the text. -/
theorem one_lies {W : World} {fb cb n : Nat} {f : Cf} {cs1 cs2 : Array Value} (hn : f.code.length = n) (ht : f.taken = []) (e1 : cs1 = (fnCells (f, ⟨none, 0, some ⟨cb, 0, none⟩, n⟩)).toArray) (e2 : cs2 = (f.code.flatMap insCells).toArray) (hf : W.heap[fb]? = some (.cells cs1 43 (0, 0))) (hc : W.heap[cb]? = some (.cells cs2 46 (0, 0))) :
    LiesC W W.heap.size ⟨[f], []⟩ (.agg #[.slice (some ⟨fb, 0, none⟩) 1 1, .slice none 0 0]) := by
  subst e1 e2 hn
  refine ⟨some ⟨fb, 0, none⟩, 1, none, 0, [(f, ⟨none, 0, some ⟨cb, 0, none⟩, f.code.length⟩)], rfl, rfl, ?_, .inl rfl, Nat.le_refl _, Nat.le_refl _, fun x hx => ?_⟩
  · rw [List.flatMap_cons, List.flatMap_nil, List.append_nil]
    exact row_of_block hf
  rw [List.mem_singleton.1 hx]
  exact ⟨.inl (by rw [ht]; rfl), row_of_block hc, by rw [ht]; exact Nat.le_refl _, Nat.le_refl _⟩

set_option maxRecDepth 100000 in
set_option maxHeartbeats 4000000 in
theorem least_any (w : World) : Calls Tryz.prog 18 #[] w fun e w' => ∃ v, e = .returned v ∧ LiesC w' w'.heap.size least v ∧ Below w.heap.size w w' := by
  go_enter Tryz.func18, Tryz.ntmps18
  go_wp2_with fail
  have h0 : ∀ A B C : Obj, (((w.alloc A).alloc B).alloc C).heap[w.heap.size]? = some A ∧ (((w.alloc A).alloc B).alloc C).heap[w.heap.size + 1]? = some B ∧ (((w.alloc A).alloc B).alloc C).heap[w.heap.size + 1 + 1]? = some C ∧ Below w.heap.size w (((w.alloc A).alloc B).alloc C) := by
    intro A B C
    have s1 : (w.alloc A).heap.size = w.heap.size + 1 := World.size_alloc _ _
    have s2 : ((w.alloc A).alloc B).heap.size = w.heap.size + 1 + 1 := by rw [World.size_alloc, s1]
    have n1 := heap_alloc_new (w.alloc A) B
    have n2 := heap_alloc_new ((w.alloc A).alloc B) C
    rw [s1] at n1
    rw [s2] at n2
    refine ⟨(heap_alloc_old _ _ (by omega)).trans ((heap_alloc_old _ _ (by omega)).trans (heap_alloc_new w A)), (heap_alloc_old _ _ (by omega)).trans n1, n2, ?_⟩
    exact (((Below.refl _ _).alloc (Nat.le_refl _) A).alloc (by omega) B).alloc (by omega) C
  obtain ⟨h1, h2, h3, h4⟩ := h0 (.cells #[.slice (some ⟨w.heap.size + 1 + 1, 0, none⟩) 1 1, .slice none 0 0] 25 (0, 0)) (.cells #[.int .i64 7, .int .i64 0, .int .i64 0, .string ⟨#[]⟩, .int .i64 0, .int .i64 50, .int .i64 0, .int .i64 0, .string ⟨#[]⟩, .int .i64 0] 46 (0, 0)) (.cells #[.string ⟨#[]⟩, .int .i64 0, .int .i64 1, .slice none 0 0, .int .i64 (-1), .slice (some ⟨w.heap.size + 1, 0, none⟩) 2 2] 43 (0, 0))
  have c0 := cell_of_row _ w.heap.size 0 _ _ _ h1
  have c1 := cell_of_row _ w.heap.size 1 _ _ _ h1
  simp only [List.getElem?_toArray, List.getElem?_cons_zero, List.getElem?_cons_succ] at c0 c1
  exact bodyPost_ret (prog_result _ _ w.heap.size _ _ rfl c0 c1) rfl ⟨_, rfl, one_lies (f := leastF) rfl rfl rfl rfl h3 h2, h4⟩

end Go.Proofs.YtdjbkppdppdcgaaGreatDoor

namespace Go.Proofs.YtdjbkppdppdcgaaGreatDoor
open Go.RowKit

theorem LiesC.up {w W : World} {p : Cp} {v : Value} (h : LiesC w w.heap.size p v) (hb : Below w.heap.size w W) : LiesC W W.heap.size p v := (h.keep hb.block).more hb.size
def badF : Cf := ⟨⟨#[]⟩, 0, 0, [], -1, [⟨50, 0, 0, ⟨#[]⟩, 0⟩]⟩
theorem bad_plain : Plain ⟨[badF], []⟩ badF := by
  have hlen : badF.code.length = 1 := rfl
  refine ⟨⟨rfl, rfl, by rw [hlen]; omega, by decide, by decide⟩, by kernel_rfl, by rw [hlen]; omega, fun k x hx => ?_, fun x hx => ?_⟩
  · rw [hlen]
    have hk : k < 1 := (List.getElem?_eq_some_iff.1 hx).1
    match k, hk, hx with
    | 0, _, hx =>
      obtain rfl : (⟨50, 0, 0, ⟨#[]⟩, 0⟩ : Ci) = x := Option.some.inj hx
      exact ⟨⟨by kernel_rfl, by decide, by decide, by kernel_rfl, by kernel_rfl, by kernel_rfl, rfl, by kernel_rfl, by decide⟩, .inr (.inl rfl), ⟨fun _ h => absurd rfl h, fun h => absurd h (by decide), fun h => absurd h (by decide), by decide, by decide⟩⟩
  · rw [List.mem_singleton.1 hx]
    exact counted_any _ (by decide) (by decide)
theorem bad_fits : fitsP badF.code = some 0 := by kernel_rfl
theorem okI0 : okI 0 := ⟨by decide, by decide⟩
theorem okI1 : okI 1 := ⟨by decide, by decide⟩
theorem okIm : okI (-1) := ⟨by decide, by decide⟩
theorem least_ci (op : Int) (h : okI op) : CiOk ⟨op, 0, 0, ⟨#[]⟩, 0⟩ := ⟨h, okI0, okI0, okI0, by show (0 : Nat) ≤ _; omega⟩
theorem least_cf : CfOk leastF := by
  refine ⟨by show (0 : Nat) ≤ _; omega, okI0, okI1, okIm, by show (0 : Nat) ≤ _; omega, by show (2 : Nat) ≤ _; omega, fun t ht => (nomatch ht), fun x hx => ?_⟩
  rcases List.mem_cons.1 hx with rfl | hx
  · exact least_ci 7 ⟨by decide, by decide⟩
  · rw [List.mem_singleton.1 hx]
    exact least_ci 50 ⟨by decide, by decide⟩
theorem least_ok : CpOk least := ⟨by decide, by decide, fun f hf => by rw [List.mem_singleton.1 hf]; exact least_cf, fun s hs => (nomatch hs)⟩
theorem ins0 : insName (some 0) = ⟨#[48]⟩ := by simp [insName, itoa_0]
theorem least_B : leastB = [71, 67, 48, 49, 0, 2, 0, 0, 2, 0, 1, 4, 14, 0, 0, 0, 0, 100, 0, 0, 0, 0] := rfl
theorem encode_least {w : World} (hG : Gc w) {v : Value} (hv : LiesC w w.heap.size least v) :
    Calls Tryz.prog 14 #[v] w fun e w' => e = .returned (.tuple #[.string ⟨⟨leastB⟩⟩, .nilIface]) ∧ Below w.heap.size w w' := by
  have := encode_plain least_plain hG hv least_fits least_cf (by rw [least_bytes]; decide)
  rw [least_bytes] at this
  exact this
theorem list_least {w : World} (hG : Gc w) {v : Value} (hv : LiesC w w.heap.size least v) :
    Calls Tryz.prog 15 #[v] w fun e w' => e = .returned (.tuple #[.string ⟨⟨leastL⟩⟩, .nilIface]) ∧ Below w.heap.size w w' := by
  have := list_plain least_plain rfl rfl (by intro x hx; rcases List.mem_cons.1 hx with rfl | hx; · rfl
                                             rw [List.mem_singleton.1 hx]) hG hv least_fits least_cf (by rw [least_lines]; decide)
  rw [least_lines] at this
  exact this

/-- The least program in a box of the call's own. -/
structure KnAt (w W : World) (b : Nat) (v0 v1 : Value) : Prop where
  low : Below w.heap.size w W
  box : W.heap[b]? = some (.cells #[v0, v1] 25 (0, 0))
  lies : LiesC W W.heap.size least (.agg #[v0, v1])
theorem KnAt.under {w W W' : World} {b : Nat} {v0 v1 : Value} (h : KnAt w W b v0 v1) (hb : Below W.heap.size W W') : KnAt w W' b v0 v1 :=
  ⟨h.low.trans (hb.mono h.low.size), (hb.block b (Array.getElem?_eq_some_iff.1 h.box).1).trans h.box, h.lies.up hb⟩
theorem KnAt.new {w W : World} {v0 v1 : Value} (hl : Below w.heap.size w W) (h : LiesC W W.heap.size least (.agg #[v0, v1])) : KnAt w (W.alloc (.cells #[v0, v1] 25 (0, 0))) W.heap.size v0 v1 :=
  ⟨hl.alloc hl.size _, heap_alloc_new _ _, h.up ((Below.refl _ _).alloc (Nat.le_refl _) _)⟩
theorem KnAt.alloc {w W : World} {b : Nat} {v0 v1 : Value} (h : KnAt w W b v0 v1) (o : Obj) : KnAt w (W.alloc o) b v0 v1 := h.under ((Below.refl _ _).alloc (Nat.le_refl _) _)
theorem KnAt.cs {w W : World} {b : Nat} {v0 v1 : Value} (h : KnAt w W b v0 v1) : W.cell? ⟨b, 0, none⟩ = some v0 ∧ W.cell? ⟨b, 1, none⟩ = some v1 := by
  have c0 := cell_of_row W b 0 _ _ _ h.box
  have c1 := cell_of_row W b 1 _ _ _ h.box
  simp only [List.getElem?_toArray, List.getElem?_cons_zero, List.getElem?_cons_succ] at c0 c1
  exact ⟨c0, c1⟩
theorem same_least {W : World} {u v : Value} (h : LiesC W W.heap.size least u) (h' : LiesC W W.heap.size least v) : Calls Tryz.prog 9 #[u, v] W fun e w' => e = .returned (.bool true) ∧ Below W.heap.size W w' := by
  have := same13_any h h' least_ok
  rw [sameC_self] at this
  exact this
theorem sameC_least {W : World} {u v : Value} (h : LiesC W W.heap.size least u) (h' : LiesC W W.heap.size least v) : Calls Tryz.prog 10 #[u, v] W fun e w' => e = .returned (.bool true) ∧ Below W.heap.size W w' := by
  have := sameC_any h h' least_ok
  rw [sameC_self] at this
  exact this
set_option maxRecDepth 100000 in
set_option maxHeartbeats 8000000 in
theorem known_any {w : World} (hG : Gc w) : Calls Tryz.prog 7 #[] w fun e w' => e = .returned (.bool true) ∧ Below w.heap.size w w' := by
  have HG := Lib.hid hG
  clear hG
  go_enter Tryz.func7, Tryz.ntmps7
  go_upto_region 2 with (go_at_call 18; refine (least_any _).mono ?_; rintro e w1 ⟨v1, rfl, hl1, hb1⟩; obtain ⟨n1, m1, fa1, fc1, ga1, gc1, xs1, rfl, _, _, _⟩ := hl1.pieces)
  have HK := Lib.hid (KnAt.new hb1 hl1)
  obtain ⟨pb, hpb⟩ : ∃ pb, w1.heap.size = pb := ⟨_, rfl⟩
  obtain ⟨W1, hW1⟩ : ∃ W1, w1.alloc (.cells #[.slice fa1 n1 fc1, .slice ga1 m1 gc1] 25 (0, 0)) = W1 := ⟨_, rfl⟩
  simp only [hpb, hW1] at HK ⊢
  obtain ⟨c0, c1⟩ := HK.out.cs
  clear hl1 hb1 hpb hW1
  go_upto_region 3 with (go_at_call 13; refine (right_plain least_plain (HG.out.up HK.out.low) HK.out.lies least_fits (by simp)).mono ?_; rintro e w2 ⟨hb2, rfl⟩; have HK2 := Lib.hid (HK.out.under hb2); obtain ⟨d0, d1⟩ := HK2.out.cs; clear hb2)
  clear c0 c1 HK
  go_upto_region 4 with (go_at_call 14; refine (encode_least (HG.out.up HK2.out.low) HK2.out.lies).mono ?_; rintro e w3 ⟨rfl, hb3⟩; rw [least_B]; have HK3 := Lib.hid (HK2.out.under hb3); clear hb3)
  clear d0 d1 HK2
  go_upto_region 5 with (go_at_call 16; refine (decode_least (HG.out.up HK3.out.low)).mono ?_; rintro e w4 ⟨q, rfl, hq4, hb4⟩; obtain ⟨n2, m2, fa2, fc2, ga2, gc2, xs2, rfl, _, _, _⟩ := hq4.pieces)
  have HK4 := Lib.hid (HK3.out.under hb4)
  have HQ := Lib.hid (KnAt.new HK4.out.low hq4)
  have HK5 := Lib.hid (HK4.out.alloc (.cells #[.slice fa2 n2 fc2, .slice ga2 m2 gc2] 25 (0, 0)))
  obtain ⟨qb, hqb⟩ : ∃ qb, w4.heap.size = qb := ⟨_, rfl⟩
  obtain ⟨W5, hW5⟩ : ∃ W5, w4.alloc (.cells #[.slice fa2 n2 fc2, .slice ga2 m2 gc2] 25 (0, 0)) = W5 := ⟨_, rfl⟩
  simp only [hqb, hW5] at HQ HK5 ⊢
  obtain ⟨c0, c1⟩ := HK5.out.cs
  clear hq4 hb4 hqb hW5 HK3 HK4
  go_upto_region 6 with (go_at_call 15; refine (list_least (HG.out.up HK5.out.low) HK5.out.lies).mono ?_; rintro e w6 ⟨rfl, hb6⟩; have HK6 := Lib.hid (HK5.out.under hb6); have HQ6 := Lib.hid (HQ.out.under hb6); clear hb6)
  clear c0 c1 HK5 HQ
  go_upto_region 7 with (go_at_call 17; refine (read_least (HG.out.up HK6.out.low)).mono ?_; rintro e w7 ⟨r, rfl, hr7, hb7⟩; obtain ⟨n3, m3, fa3, fc3, ga3, gc3, xs3, rfl, _, _, _⟩ := hr7.pieces)
  have HK7 := Lib.hid (HK6.out.under hb7)
  have HQ7 := Lib.hid (HQ6.out.under hb7)
  have HR := Lib.hid (KnAt.new HK7.out.low hr7)
  have HK8 := Lib.hid (HK7.out.alloc (.cells #[.slice fa3 n3 fc3, .slice ga3 m3 gc3] 25 (0, 0)))
  have HQ8 := Lib.hid (HQ7.out.alloc (.cells #[.slice fa3 n3 fc3, .slice ga3 m3 gc3] 25 (0, 0)))
  obtain ⟨rb, hrb⟩ : ∃ rb, w7.heap.size = rb := ⟨_, rfl⟩
  obtain ⟨W8, hW8⟩ : ∃ W8, w7.alloc (.cells #[.slice fa3 n3 fc3, .slice ga3 m3 gc3] 25 (0, 0)) = W8 := ⟨_, rfl⟩
  simp only [hrb, hW8] at HR HK8 HQ8 ⊢
  clear hr7 hb7 hrb hW8 HK6 HQ6 HK7 HQ7
  have hB9 : ∀ A B : Obj, Below W8.heap.size W8 ((W8.alloc A).alloc B) := fun A B => ((Below.refl _ _).alloc (Nat.le_refl _) A).alloc (by simp) B
  have HB9 := Lib.hid hB9
  have hbad : LiesC ((W8.alloc (.cells #[.int .i64 50, .int .i64 0, .int .i64 0, .string ⟨#[]⟩, .int .i64 0] 46 (0, 0))).alloc (.cells #[.string ⟨#[]⟩, .int .i64 0, .int .i64 0, .slice none 0 0, .int .i64 (-1), .slice (some ⟨W8.heap.size, 0, none⟩) 1 1] 43 (0, 0))) ((W8.alloc (.cells #[.int .i64 50, .int .i64 0, .int .i64 0, .string ⟨#[]⟩, .int .i64 0] 46 (0, 0))).alloc (.cells #[.string ⟨#[]⟩, .int .i64 0, .int .i64 0, .slice none 0 0, .int .i64 (-1), .slice (some ⟨W8.heap.size, 0, none⟩) 1 1] 43 (0, 0))).heap.size ⟨[badF], []⟩ (.agg #[.slice (some ⟨W8.heap.size + 1, 0, none⟩) 1 1, .slice none 0 0]) := by
    have n1 := heap_alloc_new W8 (.cells #[.int .i64 50, .int .i64 0, .int .i64 0, .string ⟨#[]⟩, .int .i64 0] 46 (0, 0))
    have n2 := heap_alloc_new (W8.alloc (.cells #[.int .i64 50, .int .i64 0, .int .i64 0, .string ⟨#[]⟩, .int .i64 0] 46 (0, 0))) (.cells #[.string ⟨#[]⟩, .int .i64 0, .int .i64 0, .slice none 0 0, .int .i64 (-1), .slice (some ⟨W8.heap.size, 0, none⟩) 1 1] 43 (0, 0))
    rw [World.size_alloc] at n2
    exact one_lies (f := badF) rfl rfl rfl rfl n2 ((heap_alloc_old _ _ (by simp)).trans n1)
  have HBAD := Lib.hid hbad
  clear hB9 hbad
  go_upto_region 8 with (go_at_call 13; refine (right_plain bad_plain (HG.out.up (HK8.out.low.trans ((HB9.out _ _).mono HK8.out.low.size))) HBAD.out bad_fits (by intro k hk; obtain rfl := Option.some.inj hk; exact ⟨by decide, by decide⟩)).mono ?_; rintro e w9 ⟨hb9, jb, rfl, hjb, hwr⟩)
  have hb9' := (HB9.out _ _).trans (hb9.mono (HB9.out _ _).size)
  have HK9 := Lib.hid (HK8.out.under hb9')
  have HQ9 := Lib.hid (HQ8.out.under hb9')
  have HR9 := Lib.hid (HR.out.under hb9')
  have HWR := Lib.hid hwr
  clear hb9 hb9' hwr HK8 HQ8 HR HBAD HB9 hjb
  go_upto_region 9 with (go_at_call 19; refine (told_wrong HWR.out 130 0 ⟨#[48]⟩ (by decide)).mono ?_; rintro e w10 ⟨rfl, hb10⟩; rw [ins0])
  have HK10 := Lib.hid (HK9.out.under hb10)
  have HQ10 := Lib.hid (HQ9.out.under hb10)
  have HR10 := Lib.hid (HR9.out.under hb10)
  obtain ⟨c0, c1⟩ := HK10.out.cs
  obtain ⟨d0, d1⟩ := HQ10.out.cs
  clear hb10 HK9 HQ9 HR9 HWR
  obtain ⟨g0, g1⟩ := HR10.out.cs
  have hw10 := HK10.out.low
  go_wp2_with (first
    | (go_at_call 9; with_reducible refine (same_least HK10.out.lies HQ10.out.lies).mono ?_; rintro e w11 ⟨rfl, hb11⟩; have HK11 := Lib.hid (HK10.out.under hb11); have HQ11 := Lib.hid (HQ10.out.under hb11); have HR11 := Lib.hid (HR10.out.under hb11); obtain ⟨k0, k1⟩ := HK11.out.cs; obtain ⟨l0, l1⟩ := HR11.out.cs)
    | (go_at_call 9; with_reducible refine (same_least HK11.out.lies HR11.out.lies).mono ?_; rintro e w12 ⟨rfl, hb12⟩; have HK12 := Lib.hid (HK11.out.under hb12); have HQ12 := Lib.hid (HQ11.out.under hb12); obtain ⟨m0, m1⟩ := HK12.out.cs; obtain ⟨o0, o1⟩ := HQ12.out.cs)
    | (go_at_call 10; with_reducible refine (sameC_least HK12.out.lies HQ12.out.lies).mono ?_; rintro e w13 ⟨rfl, hb13⟩))
  go_ret
  exact ⟨rfl, HK12.out.low.trans (hb13.mono HK12.out.low.size)⟩
end Go.Proofs.YtdjbkppdppdcgaaGreatDoor

namespace Go.Proofs.YtdjbkppdppdcgaaGreatDoor
open Go.RowKit

/-- A function's head in every later world. -/
theorem headAll {w0 : World} {p : Cp} {n m i : Nat} {fa ga : Option Addr} {xs : List (Cf × Fv)} (hp : PgAt w0 p n m fa ga xs) {f : Cf} (hf : p.funcs[i]? = some f) :
    ∃ g q fv, fa = some ⟨g, q, none⟩ ∧ LiesF w0 w0.heap.size (f, fv) ∧ ∀ w, Below w0.heap.size w0 w → HeadAt w g q i n f.name f.params f.slots f.around fv.ta f.taken.length fv.tc fv.ca f.code.length fv.cc := by
  obtain ⟨g, q, fv, e, hl, x0, x1, x2, x3, x4, x5⟩ := hp.func hf
  have hg : g < w0.heap.size := World.block_lt_of_cell? w0 ⟨g, q + i * 6, none⟩ x0
  have hi : i < p.funcs.length := (List.getElem?_eq_some_iff.1 hf).1
  refine ⟨g, q, fv, e, hl, fun w hb0 => ?_⟩
  have hc : ∀ o v, w0.cell? ⟨g, o, none⟩ = some v → w.cell? ⟨g, o, none⟩ = some v := fun o v h => (hb0.cell (p := ⟨g, o, none⟩) hg).trans h
  exact ⟨Nat.lt_of_lt_of_le hg hb0.size, by rw [← hp.fn]; exact hi, hc _ _ x0, hc _ _ x1, hc _ _ x2, hc _ _ x3, hc _ _ x4, hc _ _ x5⟩
/-- An instruction's cells. -/
structure InsAt (w : World) (g q k : Nat) (op a b : Int) (t : ByteArray) (at_ : Int) : Prop where
  lt : g < w.heap.size
  x0 : w.cell? ⟨g, q + k * 5, none⟩ = some (.int .i64 op)
  x1 : w.cell? ⟨g, q + k * 5 + 1, none⟩ = some (.int .i64 a)
  x2 : w.cell? ⟨g, q + k * 5 + 2, none⟩ = some (.int .i64 b)
  x3 : w.cell? ⟨g, q + k * 5 + 3, none⟩ = some (.string t)
  x4 : w.cell? ⟨g, q + k * 5 + 4, none⟩ = some (.int .i64 at_)
theorem insAll {w0 : World} {f : Cf} {fv : Fv} (hl : LiesF w0 w0.heap.size (f, fv)) (h0 : 0 < f.code.length) :
    ∃ g q, fv.ca = some ⟨g, q, none⟩ ∧ ∀ w, Below w0.heap.size w0 w → ∀ k x, f.code[k]? = some x → InsAt w g q k x.op x.a x.b x.text x.at_ := by
  obtain ⟨g, q, e, hg, hc⟩ := hl.2.1.at (by rw [flat_len ins_len]; dsimp only; omega)
  refine ⟨g, q, e, fun w hb k x hx => ?_⟩
  obtain ⟨x0, x1, x2, x3, x4⟩ := ins_at hc hx
  have hc : ∀ o v, w0.cell? ⟨g, o, none⟩ = some v → w.cell? ⟨g, o, none⟩ = some v := fun o v h => (hb.cell (p := ⟨g, o, none⟩) hg).trans h
  exact ⟨Nat.lt_of_lt_of_le hg hb.size, hc _ _ x0, hc _ _ x1, hc _ _ x2, hc _ _ x3, hc _ _ x4⟩

set_option maxRecDepth 100000 in
set_option maxHeartbeats 8000000 in
theorem CodeTurns_any {p : Cp} {n m fc gc : Nat} {fa ga : Option Addr} {xs : List (Cf × Fv)} {w : World} (hp : PgAt w p n m fa ga xs) (h1 : n ≤ fc) (h2 : m ≤ gc) (ht : Tame p) (hG : Gc w) :
    Calls Tryz.prog 6 #[.agg #[.slice fa n fc, .slice ga m gc]] w fun e w' => e = .returned (.bool true) ∧ Below w.heap.size w w' := by
  have HGc := Lib.hid hG
  have hn : n ≤ 140737488351232 := hp.fn ▸ ht.ok.1
  have HN := Lib.hid hp.fn
  have HRT : Hid (∀ W, Below w.heap.size w W → Calls Tryz.prog 13 #[.agg #[.slice fa n fc, .slice ga m gc]] W (RightPost W (rightC p))) := Lib.hid fun W hW => right_all (hp.rise hW) h1 h2 ht (hG.up hW)
  have HFN : Hid (∀ i f, p.funcs[i]? = some f → ∃ g q fv, fa = some ⟨g, q, none⟩ ∧ LiesF w w.heap.size (f, fv) ∧ ∀ W, Below w.heap.size w W → HeadAt W g q i n f.name f.params f.slots f.around fv.ta f.taken.length fv.tc fv.ca f.code.length fv.cc) := Lib.hid fun i f hf => headAll hp hf
  have HOK := Lib.hid ht.ok
  clear hp ht hG h1 h2
  have HB0 : Hid (Below w.heap.size w (w.alloc (.cells #[.slice fa n fc, .slice ga m gc] 25 (0, 0)))) := Lib.hid ((Below.refl _ _).alloc (Nat.le_refl _) _)
  have HP0 := Lib.hid (heap_alloc_new w (.cells #[.slice fa n fc, .slice ga m gc] 25 (0, 0)))
  go_enter Tryz.func6, Tryz.ntmps6
  cases hR : rightC p with
  | some c =>
    rw [hR] at HRT
    clear hR
    go_wp2_with (first
      | (go_at_call 7; refine (known_any (HGc.out.up HB0.out)).mono ?_; rintro e w1 ⟨rfl, hb1⟩; have hB1 := HB0.out.trans (hb1.mono HB0.out.size); have hP1 := (hb1.block _ (Array.getElem?_eq_some_iff.1 HP0.out).1).trans HP0.out; have p0 := cell_of_row w1 _ 0 _ _ _ hP1; have p1 := cell_of_row w1 _ 1 _ _ _ hP1; simp only [List.getElem?_toArray, List.getElem?_cons_zero, List.getElem?_cons_succ] at p0 p1; have HB1 := Lib.hid hB1; clear hB1 hP1 hb1)
      | (go_at_call 13; refine (HRT.out _ HB1.out).mono ?_; rintro e w2 ⟨hb2, b, rfl, _, _⟩; have HB2 := Lib.hid (HB1.out.trans (hb2.mono HB1.out.size)); clear hb2))
    go_ret
    exact ⟨rfl, HB2.out⟩
  | none =>
  rw [hR] at HRT
  have HR := Lib.hid hR
  clear hR
  go_wp2_with (first
    | (go_at_call 7; refine (known_any (HGc.out.up HB0.out)).mono ?_; rintro e w1 ⟨rfl, hb1⟩; have hB1 := HB0.out.trans (hb1.mono HB0.out.size); have hP1 := (hb1.block _ (Array.getElem?_eq_some_iff.1 HP0.out).1).trans HP0.out; have p0 := cell_of_row w1 _ 0 _ _ _ hP1; have p1 := cell_of_row w1 _ 1 _ _ _ hP1; simp only [List.getElem?_toArray, List.getElem?_cons_zero, List.getElem?_cons_succ] at p0 p1; have HB1 := Lib.hid hB1; have HP1 := Lib.hid hP1; clear hB1 hP1 hb1)
    | (go_at_call 13; refine (HRT.out _ HB1.out).mono ?_; rintro e w2 ⟨hb2, rfl⟩; have hP2 := (hb2.block _ (Array.getElem?_eq_some_iff.1 HP1.out).1).trans HP1.out; have HB2 := Lib.hid (HB1.out.trans (hb2.mono HB1.out.size)); have HP2 := Lib.hid hP2; clear hb2 hP2))
  clear p0 p1
  go_loopw [5] (fun i wr => Hid (Below w.heap.size w wr) ∧ Hid (wr.heap[w.heap.size]? = some (.cells #[.slice fa n fc, .slice ga m gc] 25 (0, 0))) ∧ ∃ j : Nat, j ≤ n ∧ i = .int .i64 j) (fun i _ => n - (intOf i).toNat)
  case atStart => exact ⟨HB2, HP2, 0, Nat.zero_le _, rfl⟩
  case round =>
    clear HB0 HP0 HB1 HP1 HB2 HP2
    obtain ⟨HB, HP, j, hj, rfl⟩ := hrel
    have q0 := cell_of_row wr _ 0 _ _ _ HP.out
    have q1 := cell_of_row wr _ 1 _ _ _ HP.out
    simp only [List.getElem?_toArray, List.getElem?_cons_zero, List.getElem?_cons_succ] at q0 q1
    by_cases hlt : j < n
    · obtain ⟨f, hf⟩ : ∃ f, p.funcs[j]? = some f := ⟨_, List.getElem?_eq_getElem (by rw [HN.out]; exact hlt)⟩
      obtain ⟨g, off, fv, rfl, hl, hA⟩ := HFN.out j f hf
      have HF := Lib.hid hf
      have HH := Lib.hid hA
      have HL := Lib.hid hl
      have hcl : f.code.length ≤ 140737488351232 := (HOK.out.2.2.1 f (List.mem_of_getElem? hf)).2.2.2.2.2.1
      obtain ⟨cn, hcn⟩ : ∃ cn, f.code.length = cn := ⟨_, rfl⟩
      have HCN := Lib.hid hcn
      rw [hcn] at HH hcl
      clear hA hl hf hcn
      go_wp2_with fail
      go_loopw [6] (fun k wr => Hid (Below w.heap.size w wr) ∧ Hid (wr.heap[w.heap.size]? = some (.cells #[.slice (some ⟨g, off, none⟩) n fc, .slice ga m gc] 25 (0, 0))) ∧ ∃ q : Nat, q ≤ cn ∧ k = .int .i64 q) (fun k _ => cn - (intOf k).toNat)
      case atStart => exact ⟨HB, HP, 0, Nat.zero_le _, rfl⟩
      case round =>
        clear HB HP q0 q1
        obtain ⟨HB, HP, k, hk, rfl⟩ := hrel
        have q0 := cell_of_row wr _ 0 _ _ _ HP.out
        have q1 := cell_of_row wr _ 1 _ _ _ HP.out
        simp only [List.getElem?_toArray, List.getElem?_cons_zero, List.getElem?_cons_succ] at q0 q1
        have hA := HH.out wr HB.out
        have hg := hA.lt
        have hbl := (Array.getElem?_eq_some_iff.1 HP.out).1
        have x5 := hA.x5
        clear hA
        by_cases hlt2 : k < cn
        · obtain ⟨x, hx⟩ : ∃ x, f.code[k]? = some x := ⟨_, List.getElem?_eq_getElem (by rw [HCN.out]; exact hlt2)⟩
          obtain ⟨ca, co, hca, hI⟩ := insAll HL.out (by rw [HCN.out]; omega)
          rw [hca] at x5
          have hI1 := hI wr HB.out k x hx
          have hcl2 := hI1.lt
          have HB3 : Hid (∀ o, Below w.heap.size w (wr.alloc o)) := Lib.hid fun o => HB.out.alloc HB.out.size _
          have HP3 : Hid (∀ o, (wr.alloc o).heap[w.heap.size]? = some (.cells #[.slice (some ⟨g, off, none⟩) n fc, .slice ga m gc] 25 (0, 0))) := Lib.hid fun o => (heap_alloc_old _ _ hbl).trans HP.out
          by_cases ho : x.op = 34 ∨ x.op = 35 ∨ x.op = 36 ∨ x.op = 37 ∨ x.op = 52
          · obtain ⟨ha0, ha1, y, hy, hyo⟩ := turns_ok HR.out HF.out hx ho
            rw [HCN.out] at ha1
            have hI2 := hI wr HB.out _ y hy
            obtain ⟨op, a, b, t, at_⟩ := x
            dsimp only at ho ha0 ha1 hI1 hI2 hyo
            obtain ⟨ja, rfl⟩ := Int.eq_ofNat_of_zero_le ha0
            rw [Int.toNat_natCast] at hI2
            have x0 := hI1.x0
            have x1 := hI1.x1
            have x2 := hI1.x2
            have x3 := hI1.x3
            have x4 := hI1.x4
            have y0 := hI2.x0
            have hja : ja < cn := by omega
            have e1 : decide ((ja : Int) < 0) = false := by simp
            have e2 : decide (cn ≤ ja) = false := by simp; omega
            clear hI hI1 hI2 hx hy ha0 ha1 hca
            obtain ⟨yo, hyo2⟩ : ∃ yo, y.op = yo := ⟨_, rfl⟩
            rw [hyo2] at y0 hyo
            clear hyo2
            by_cases hjk : ja ≤ k
            · rcases hyo (by omega) with rfl | rfl
              all_goals
                clear hyo
                rcases ho with rfl | rfl | rfl | rfl | rfl
                all_goals
                  go_wp2_with fail
                  go_quiet (fail)
                  go_wp2_with fail
                  go_quiet (fail)
                  go_wp2_with fail
                  go_roundw
                  case rel => exact ⟨Lib.hid (Below.drewN' (HB3.out _) _), Lib.hid (HP3.out _), k + 1, by omega, by go_num⟩
                  case measure => simp [intOf]; omega
            · clear hyo
              have e3 : decide (ja ≤ k) = false := by simp; omega
              rcases ho with rfl | rfl | rfl | rfl | rfl
              all_goals
                go_wp2_with fail
                go_quiet (fail)
                go_wp2_with fail
                go_quiet (fail)
                go_wp2_with fail
                go_roundw
                case rel => exact ⟨Lib.hid (Below.drewN' (HB3.out _) _), Lib.hid (HP3.out _), k + 1, by omega, by go_num⟩
                case measure => simp [intOf]; omega
          · obtain ⟨op, a, b, t, at_⟩ := x
            dsimp only at ho hI1
            have x0 := hI1.x0
            have x1 := hI1.x1
            have x2 := hI1.x2
            have x3 := hI1.x3
            have x4 := hI1.x4
            have e1 : (op == 34) = false := by simp; omega
            have e2 : (op == 35) = false := by simp; omega
            have e3 : (op == 36) = false := by simp; omega
            have e4 : (op == 37) = false := by simp; omega
            have e5 : (op == 52) = false := by simp; omega
            clear hI hI1 hx ho hca
            go_wp2_with fail
            go_roundw
            case rel => exact ⟨Lib.hid (HB3.out _), Lib.hid (HP3.out _), k + 1, by omega, by go_num⟩
            case measure => simp [intOf]; omega
        · obtain rfl : k = cn := by omega
          go_wp2_with fail
          go_roundw
          case rel => exact ⟨HB, HP, j + 1, by omega, by go_num⟩
          case measure => simp [intOf]; omega
    · obtain rfl : j = n := by omega
      go_wp2_with fail
      go_ret
      exact ⟨rfl, HB.out⟩
end Go.Proofs.YtdjbkppdppdcgaaGreatDoor
