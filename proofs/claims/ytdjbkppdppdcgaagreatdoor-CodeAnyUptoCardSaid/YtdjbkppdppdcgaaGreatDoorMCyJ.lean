/- (*Program).line of the first line, and of a function's line. strings.SplitN and strings.Split of a line's text, at blanks. (*Program).line of a function's line. code.Read of the least program's lines. guiselaw13.told, least, wide. guiselaw13.known: the chapter's first examples are so. -/
import Derived.Test.YtdjbkppdppdcgaaGreatDoorMCyG
import Derived.Test.YtdjbkppdppdcgaaGreatDoorMUnA
import Derived.Test.YtdjbkppdppdcgaaGreatDoorOdA
import Derived.Test.YtdjbkppdppdcgaaGreatDoorSqC
import Derived.Test.YtdjbkppdppdcgaaGreatDoorMCyD
import Derived.Test.YtdjbkppdppdcgaaGreatDoorMCxE
import Derived.Test.YtdjbkppdppdcgaaGreatDoorMCxJ
namespace Go.Proofs.YtdjbkppdppdcgaaGreatDoor
open Go.RowKit

end Go.Proofs.YtdjbkppdppdcgaaGreatDoor

namespace Go.Proofs.YtdjbkppdppdcgaaGreatDoor
open Go.RowKit

theorem cutAt_len (c : UInt8) : ∀ s : List UInt8, (cutAt c s).1.length ≤ s.length ∧ ∀ r, (cutAt c s).2 = some r → r.length < s.length
  | [] => ⟨Nat.le_refl _, fun _ h => by cases h⟩
  | x :: q => by
    obtain ⟨h1, h2⟩ := cutAt_len c q
    rw [cutAt]
    split
    · exact ⟨Nat.zero_le _, fun r h => by injection h with h; subst h; simp⟩
    · exact ⟨by simp only [List.length_cons]; omega, fun r h => by have := h2 r h; simp only [List.length_cons]; omega⟩
theorem splitM_same (c : UInt8) : ∀ (k j : Nat) (s : List UInt8), s.length ≤ k → s.length ≤ j → splitM c k s = splitM c j s
  | 0, 0, _, _, _ => rfl
  | 0, j + 1, s, h, _ => by
    obtain rfl := List.eq_nil_of_length_eq_zero (Nat.le_zero.1 h)
    rfl
  | k + 1, 0, s, _, h => by
    obtain rfl := List.eq_nil_of_length_eq_zero (Nat.le_zero.1 h)
    rfl
  | k + 1, j + 1, s, h1, h2 => by
    rw [splitM, splitM]
    have hl := (cutAt_len c s).2
    rcases hc : cutAt c s with ⟨t, _ | r⟩
    · rfl
    · have := hl r (by rw [hc])
      simp only
      rw [splitM_same c k j r (by omega) (by omega)]
theorem splitM_len (c : UInt8) : ∀ (k : Nat) (s : List UInt8), (splitM c k s).length ≤ k + 1 ∧ 1 ≤ (splitM c k s).length ∧ (splitM c k s).length ≤ s.length + 1 ∧ ∀ x ∈ splitM c k s, x.length ≤ s.length
  | 0, s => ⟨by simp [splitM], by simp [splitM], by simp [splitM], fun x hx => by rw [splitM, List.mem_singleton] at hx; rw [hx]; exact Nat.le_refl _⟩
  | k + 1, s => by
    obtain ⟨h1, h2⟩ := cutAt_len c s
    rw [splitM]
    rcases hc : cutAt c s with ⟨t, _ | r⟩
    · rw [hc] at h1
      exact ⟨by simp, by simp, by simp, fun x hx => by rw [List.mem_singleton.1 hx]; exact h1⟩
    · rw [hc] at h1
      have h3 := h2 r (by rw [hc])
      obtain ⟨a1, a2, a3, a4⟩ := splitM_len c k r
      refine ⟨by simp only [List.length_cons]; omega, by simp, by simp only [List.length_cons]; omega, fun x hx => ?_⟩
      rcases List.mem_cons.1 hx with rfl | hx
      · exact h1
      · have := a4 x hx; omega
theorem splitB_list (k : Nat) (s : List UInt8) : Lib.splitB ⟨#[32]⟩ 0 k ⟨⟨s⟩⟩ = (splitM 32 k s).map fun s => (⟨⟨s⟩⟩ : ByteArray) := by
  have h := Lib.splitB_data ⟨#[32]⟩ 0 k ⟨⟨s⟩⟩
  rw [show (⟨#[32]⟩ : ByteArray).data.toList = [32] from rfl, splitK_one, show (⟨⟨s⟩⟩ : ByteArray).data.toList = s from rfl] at h
  rw [← h, List.map_map]
  exact (List.map_id' _).symm
/-- At most five parts. -/
theorem splitN_any (s : List UInt8) (hs : s.length ≤ 4000000000) (W : World) (hG : Gc W) : Calls Tryz.prog 96 #[.string ⟨⟨s⟩⟩, .string ⟨#[32]⟩, .int .i64 5] W fun e w' => ∃ cp, e = .returned (.slice (some ⟨W.heap.size, 0, none⟩) (splitM 32 4 s).length cp) ∧ (splitM 32 4 s).length ≤ cp ∧ cp ≤ 5 ∧ Below W.heap.size W w' ∧ W.heap.size < w'.heap.size ∧
    ∀ j x, (splitM 32 4 s)[j]? = some x → w'.cell? ⟨W.heap.size, j, none⟩ = some (.string ⟨⟨x⟩⟩) := by
  obtain ⟨m, hm⟩ := hG.max
  have hsz : (⟨⟨s⟩⟩ : ByteArray).size = s.length := rfl
  have h := Tryz.strings_SplitN ⟨⟨s⟩⟩ ⟨#[32]⟩ 5 m W (by rw [hsz]; omega) hm (by decide) (by decide) (by decide)
  rw [hsz, splitB_list] at h
  have hM : splitM 32 (min 5 (s.length + 1) - 1) s = splitM 32 4 s := by
    by_cases h4 : 4 ≤ s.length
    · rw [show min 5 (s.length + 1) - 1 = 4 by omega]
    · exact splitM_same 32 _ _ s (by omega) (by omega)
  rw [hM] at h
  obtain ⟨a1, a2, a3, a4⟩ := splitM_len 32 4 s
  refine h.mono ?_
  rintro e w' ⟨rfl, rfl⟩
  refine ⟨min 5 (s.length + 1), by rw [List.length_map], by omega, by omega, (Below.refl _ _).alloc (Nat.le_refl _) _, by simp, fun j x hx => ?_⟩
  refine (cell_of_row _ _ j _ _ _ (heap_alloc_new W _)).trans ?_
  unfold Lib.cellsOf
  rw [List.getElem?_toArray, List.getElem?_append_left (by rw [List.length_map, List.length_map]; exact (List.getElem?_eq_some_iff.1 hx).1), List.getElem?_map, List.getElem?_map, hx]
  rfl
theorem splitC_M (c : UInt8) : ∀ (k : Nat) (s : List UInt8), s.length ≤ k → splitM c k s = splitC c s
  | 0, s, h => by
    obtain rfl := List.eq_nil_of_length_eq_zero (Nat.le_zero.1 h)
    rfl
  | k + 1, s, h => by
    rw [splitM, splitC_cut]
    have hl := (cutAt_len c s).2
    rcases hc : cutAt c s with ⟨t, _ | r⟩
    · rfl
    · have := hl r (by rw [hc])
      simp only
      rw [splitC_M c k r (by omega)]
end Go.Proofs.YtdjbkppdppdcgaaGreatDoor

namespace Go.Proofs.YtdjbkppdppdcgaaGreatDoor
open Go.RowKit

theorem RdS.first {lo : Nat} {W0 W W2 : World} {pb g2 cap2 gc : Nat} {ga : Option Addr} {o : Obj} {A : Option Addr} {ic : Nat} (hl : Below lo W0 W) (hlo : lo ≤ W.heap.size) (hlp : lo ≤ pb) (hbx : W.heap[pb]? = some (.cells #[.slice none 0 0, .slice ga 0 gc] 25 (0, 0)))
    (ho : W2.ownsRow lo 43 6 (.slice (some ⟨g2, 0, none⟩) (0 + 1) cap2) (0 + 1) ([] ++ fnCells (rdF [], ⟨A, ic, none, 0⟩))) (hg : (W.alloc o).grownBy W2 (Value.ownBlock (.slice none 0 0))) (hb : Value.ownBlock (.slice none 0 0) = some g2 ∨ g2 = (W.alloc o).heap.size) :
    (W2.cell? ⟨pb, 0, none⟩ = some (.slice none 0 0) ∧ W2.frozen? ⟨pb, 0, none⟩ = false) ∧ RdS lo W0 (W2.setCell ⟨pb, 0, none⟩ (.slice (some ⟨g2, 0, none⟩) 1 cap2)) pb g2 cap2 ga gc ⟨A, ic, none, 0⟩ [] := by
  have hpl := (Array.getElem?_eq_some_iff.1 hbx).1
  have hg2 : g2 = W.heap.size + 1 := by
    rcases hb with h | h
    · simp [Value.ownBlock] at h
    · rwa [World.size_alloc] at h
  have hb2 := (grown_keep hg hpl (by simp [Value.ownBlock])).trans hbx
  have p0 := cell_of_row W2 pb 0 _ _ _ hb2
  simp only [List.getElem?_toArray, List.getElem?_cons_zero] at p0
  refine ⟨⟨p0, frozen_of_row W2 pb 0 _ _ hb2⟩, ?_, heap_setCell_same _ _ 0 _ _ _ hb2, ownsRow_setCell_other (by simpa using ho) (by simp [Value.ownBlock]; omega) _, World.ownsRow_nil _ _ _ _, by omega, by simp [Value.ownBlock], by simp [Value.ownBlock], hlp⟩
  exact ((hl.alloc hlo o).trans ⟨hg.os, hg.tape, hg.output, hg.size, fun k hk => hg.block k (by rw [World.size_alloc]; omega) (by simp [Value.ownBlock])⟩).setCell hlp _

end Go.Proofs.YtdjbkppdppdcgaaGreatDoor

namespace Go.Proofs.YtdjbkppdppdcgaaGreatDoor
open Go.RowKit

/-- What has been read behind so many lines. -/
def LsS (lo : Nat) (W0 : World) (pb : Nat) : Nat → World → Prop
  | 0, W => Below lo W0 W ∧ W.heap[pb]? = some (.cells #[.slice none 0 0, .slice none 0 0] 25 (0, 0))
  | 1, W => Below lo W0 W ∧ ∃ ga gc, W.heap[pb]? = some (.cells #[.slice none 0 0, .slice ga 0 gc] 25 (0, 0))
  | 2, W => ∃ g cap ga gc fv, RdS lo W0 W pb g cap ga gc fv []
  | 3, W => ∃ g cap ga gc fv, RdS lo W0 W pb g cap ga gc fv [⟨7, 0, 0, ⟨#[]⟩, 0⟩]
  | _, W => ∃ g cap ga gc fv, RdS lo W0 W pb g cap ga gc fv [⟨7, 0, 0, ⟨#[]⟩, 0⟩, ⟨50, 0, 0, ⟨#[]⟩, 0⟩]
theorem LsS.low {lo : Nat} {W0 : World} {pb : Nat} : ∀ (k : Nat) {W : World}, LsS lo W0 pb k W → Below lo W0 W
  | 0, _, h => h.1
  | 1, _, h => h.1
  | 2, _, ⟨_, _, _, _, _, h⟩ => h.low
  | 3, _, ⟨_, _, _, _, _, h⟩ => h.low
  | _ + 4, _, ⟨_, _, _, _, _, h⟩ => h.low
theorem LsS.under {lo : Nat} {W0 : World} {pb : Nat} (hp : lo ≤ pb) : ∀ (k : Nat) {W W' : World}, LsS lo W0 pb k W → Below W.heap.size W W' → LsS lo W0 pb k W'
  | 0, _, _, h, hb => by
    have := (Array.getElem?_eq_some_iff.1 h.2).1
    exact ⟨h.1.trans (hb.mono (by omega)), (hb.block pb this).trans h.2⟩
  | 1, _, _, h, hb => by
    obtain ⟨h1, ga, gc, h2⟩ := h
    have := (Array.getElem?_eq_some_iff.1 h2).1
    exact ⟨h1.trans (hb.mono (by omega)), ga, gc, (hb.block pb this).trans h2⟩
  | 2, _, _, ⟨g, cap, ga, gc, fv, h⟩, hb => ⟨g, cap, ga, gc, fv, h.under hb⟩
  | 3, _, _, ⟨g, cap, ga, gc, fv, h⟩, hb => ⟨g, cap, ga, gc, fv, h.under hb⟩
  | _ + 4, _, _, ⟨g, cap, ga, gc, fv, h⟩, hb => ⟨g, cap, ga, gc, fv, h.under hb⟩
/-- The least program in memory of its own, its globals a row of none. -/
theorem lies_own {lo : Nat} {W : World} {g cap gc : Nat} {ga : Option Addr} {fv : Fv} (h1 : W.ownsRow lo 43 6 (.slice (some ⟨g, 0, none⟩) 1 cap) 1 (fnCells (leastF, fv))) (h2 : W.ownsRow lo 46 5 (.slice fv.ca 2 fv.cc) 2 (leastF.code.flatMap insCells)) : LiesC W W.heap.size least (.agg #[.slice (some ⟨g, 0, none⟩) 1 cap, .slice ga 0 gc]) := by
  obtain ⟨r1, c1⟩ := own_row h1
  obtain ⟨r2, c2⟩ := own_row h2
  refine ⟨some ⟨g, 0, none⟩, cap, ga, gc, [(leastF, fv)], rfl, rfl, ?_, .inl rfl, c1, Nat.zero_le _, fun x hx => ?_⟩
  · rw [List.flatMap_cons, List.flatMap_nil, List.append_nil]
    exact r1
  rw [List.mem_singleton.1 hx]
  exact ⟨.inl rfl, r2, Nat.zero_le _, c2⟩
theorem RdS.lies {lo : Nat} {W0 W : World} {pb g cap gc : Nat} {ga : Option Addr} {fv : Fv} (h : RdS lo W0 W pb g cap ga gc fv [⟨7, 0, 0, ⟨#[]⟩, 0⟩, ⟨50, 0, 0, ⟨#[]⟩, 0⟩]) : LiesC W W.heap.size least (.agg #[.slice (some ⟨g, 0, none⟩) 1 cap, .slice ga 0 gc]) := lies_own h.fns h.ins
end Go.Proofs.YtdjbkppdppdcgaaGreatDoor

namespace Go.Proofs.YtdjbkppdppdcgaaGreatDoor
open Go.RowKit

theorem isWrongC (p : Value) (w : World) : Sem.run Tryz.prog (Instr.typeAssert (.iface 61 p) 33 61 true) w = .ok (.tuple #[p, .bool true]) w := by kernel_rfl
theorem eql_wrong (c a c' a' : Int) (s s' : ByteArray) (w : World) : (binOp .eql 51 (.agg #[.int .i64 c, .int .i64 a, .string s]) (.agg #[.int .i64 c', .int .i64 a', .string s'])).run Tryz.prog w = .ok (.bool (c == c' && (a == a' && decide (s = s')))) w := by
  have hS : Tryz.prog.underlying 51 = some (.struct (Tryz.prog.fieldsOf 51)) := by kernel_rfl
  have hp : Tryz.prog.stoodInHeld 51 = false := by kernel_rfl
  rw [run_eql_struct, show (10000 : Nat) = 9999 + 1 from rfl, run_equalIn_agg w 9999 _ _ _ hS hp]
  simp only [Program.fieldsOf, Tryz.underlying51]
  go_simp
  have ht : s.toList = s'.toList ↔ s = s' := ⟨toList_inj, congrArg _⟩
  by_cases h1 : c = c' <;> by_cases h2 : a = a' <;> by_cases h3 : s = s' <;> simp [ht, h1, h2, h3]

set_option maxRecDepth 100000 in
set_option maxHeartbeats 4000000 in
theorem told_wrong {w : World} {b : Nat} {c a : Int} {i : Option Int} (h : WrAt w b c a i) (c' a' : Int) (s' : ByteArray) (h0 : c' ≠ 0) :
    Calls Tryz.prog 19 #[.iface 61 (.pointer (some ⟨b, 0, none⟩)), .agg #[.int .i64 c', .int .i64 a', .string s']] w fun e w' => e = .returned (.bool (c == c' && (a == a' && decide (insName i = s')))) ∧ Below w.heap.size w w' := by
  obtain ⟨s, hs⟩ : ∃ s, insName i = s := ⟨_, rfl⟩
  unfold WrAt at h
  rw [hs] at h ⊢
  have hb := (Array.getElem?_eq_some_iff.1 h).1
  have hB : Below w.heap.size w (w.alloc (.cells #[.int .i64 c', .int .i64 a', .string s'] 51 (0, 0))) := (Below.refl _ _).alloc (Nat.le_refl _) _
  have h1 := (heap_alloc_old w (.cells #[.int .i64 c', .int .i64 a', .string s'] 51 (0, 0)) hb).trans h
  have h2 := heap_alloc_new w (.cells #[.int .i64 c', .int .i64 a', .string s'] 51 (0, 0))
  have e0 : (c' == 0) = false := by simp [h0]
  have heq := eql_wrong c a c' a' s s'
  have hta := isWrongC
  obtain ⟨R, hR⟩ : ∃ R, (c == c' && (a == a' && decide (s = s'))) = R := ⟨_, rfl⟩
  rw [hR] at heq ⊢
  have HB := Lib.hid hB
  clear hR h hs h0 hB
  go_enter Tryz.func19, Tryz.ntmps19
  go_upto_region 4 with fail
  obtain ⟨nb, hnb⟩ : ∃ nb, w.heap.size = nb := ⟨_, rfl⟩
  obtain ⟨W1, hW1⟩ : ∃ W1, w.alloc (.cells #[.int .i64 c', .int .i64 a', .string s'] 51 (0, 0)) = W1 := ⟨_, rfl⟩
  simp only [hnb, hW1] at h1 h2 HB ⊢
  have t0 : ∀ k, (W1.drewN k).cell? ⟨b, 0, none⟩ = some (.int .i64 c) := fun _ => cell_of_row W1 b 0 _ _ _ h1
  have t1 : ∀ k, (W1.drewN k).cell? ⟨b, 1, none⟩ = some (.int .i64 a) := fun _ => cell_of_row W1 b 1 _ _ _ h1
  have t2 : ∀ k, (W1.drewN k).cell? ⟨b, 2, none⟩ = some (.string s) := fun _ => cell_of_row W1 b 2 _ _ _ h1
  have u0 : ∀ k, (W1.drewN k).cell? ⟨nb, 0, none⟩ = some (.int .i64 c') := fun _ => cell_of_row W1 nb 0 _ _ _ h2
  have u1 : ∀ k, (W1.drewN k).cell? ⟨nb, 1, none⟩ = some (.int .i64 a') := fun _ => cell_of_row W1 nb 1 _ _ _ h2
  have u2 : ∀ k, (W1.drewN k).cell? ⟨nb, 2, none⟩ = some (.string s') := fun _ => cell_of_row W1 nb 2 _ _ _ h2
  clear h1 h2 hW1
  go_quiet (fail)
  go_wp2_with fail
  go_ret
  exact ⟨rfl, by rw [hnb]; exact under_drew HB.out _⟩

theorem prog_result (tmps : Array Value) (W : World) (g : Nat) (v0 v1 : Value) (h2 : tmps.getD 0 undef = .pointer (some ⟨g, 0, none⟩)) (e0 : W.cell? ⟨g, 0, none⟩ = some v0) (e1 : W.cell? ⟨g, 1, none⟩ = some v1) :
    (results Tryz.f18 tmps).run Tryz.prog W = .ok (.agg #[v0, v1]) W := by
  have h2' : tmps[0]?.getD undef = .pointer (some ⟨g, 0, none⟩) := by simpa using h2
  have hres : Tryz.f18.results = #[ResultVar.cell 0 25] := rfl
  simp [results, go_sem, h2', e0, e1]

theorem row_of_block {W : World} {b : Nat} {cs : List Value} {t : TypeId} {fr : Nat × Nat} (h : W.heap[b]? = some (.cells cs.toArray t fr)) : RowIs W W.heap.size (some ⟨b, 0, none⟩) cs :=
  .inr ⟨b, 0, rfl, (Array.getElem?_eq_some_iff.1 h).1, fun j v hj => by rw [Nat.zero_add, cell_of_row W b j _ _ _ h, List.getElem?_toArray, hj]⟩
/-- A program of one function as it is built in the text. -/
theorem one_lies {W : World} {fb cb n : Nat} {f : Cf} {cs1 cs2 : Array Value} (hn : f.code.length = n) (ht : f.taken = []) (e1 : cs1 = (fnCells (f, ⟨none, 0, some ⟨cb, 0, none⟩, n⟩)).toArray) (e2 : cs2 = (f.code.flatMap insCells).toArray) (hf : W.heap[fb]? = some (.cells cs1 43 (0, 0))) (hc : W.heap[cb]? = some (.cells cs2 46 (0, 0))) :
    LiesC W W.heap.size ⟨[f], []⟩ (.agg #[.slice (some ⟨fb, 0, none⟩) 1 1, .slice none 0 0]) := by
  subst e1 e2 hn
  refine ⟨some ⟨fb, 0, none⟩, 1, none, 0, [(f, ⟨none, 0, some ⟨cb, 0, none⟩, f.code.length⟩)], rfl, rfl, ?_, .inl rfl, Nat.le_refl _, Nat.le_refl _, fun x hx => ?_⟩
  · rw [List.flatMap_cons, List.flatMap_nil, List.append_nil]
    exact row_of_block hf
  rw [List.mem_singleton.1 hx]
  exact ⟨.inl (by rw [ht]; rfl), row_of_block hc, by rw [ht]; exact Nat.le_refl _, Nat.le_refl _⟩

set_option maxRecDepth 100000 in
set_option maxHeartbeats 4000000 in
theorem least_any (w : World) : Calls Tryz.prog 18 #[] w fun e w' => ∃ v, e = .returned v ∧ LiesC w' w'.heap.size least v ∧ Below w.heap.size w w' := by
  go_enter Tryz.func18, Tryz.ntmps18
  go_wp2_with fail
  have h0 : ∀ A B C : Obj, (((w.alloc A).alloc B).alloc C).heap[w.heap.size]? = some A ∧ (((w.alloc A).alloc B).alloc C).heap[w.heap.size + 1]? = some B ∧ (((w.alloc A).alloc B).alloc C).heap[w.heap.size + 1 + 1]? = some C ∧ Below w.heap.size w (((w.alloc A).alloc B).alloc C) := by
    intro A B C
    have s1 : (w.alloc A).heap.size = w.heap.size + 1 := World.size_alloc _ _
    have s2 : ((w.alloc A).alloc B).heap.size = w.heap.size + 1 + 1 := by rw [World.size_alloc, s1]
    have n1 := heap_alloc_new (w.alloc A) B
    have n2 := heap_alloc_new ((w.alloc A).alloc B) C
    rw [s1] at n1
    rw [s2] at n2
    refine ⟨(heap_alloc_old _ _ (by omega)).trans ((heap_alloc_old _ _ (by omega)).trans (heap_alloc_new w A)), (heap_alloc_old _ _ (by omega)).trans n1, n2, ?_⟩
    exact (((Below.refl _ _).alloc (Nat.le_refl _) A).alloc (by omega) B).alloc (by omega) C
  obtain ⟨h1, h2, h3, h4⟩ := h0 (.cells #[.slice (some ⟨w.heap.size + 1 + 1, 0, none⟩) 1 1, .slice none 0 0] 25 (0, 0)) (.cells #[.int .i64 7, .int .i64 0, .int .i64 0, .string ⟨#[]⟩, .int .i64 0, .int .i64 50, .int .i64 0, .int .i64 0, .string ⟨#[]⟩, .int .i64 0] 46 (0, 0)) (.cells #[.string ⟨#[]⟩, .int .i64 0, .int .i64 1, .slice none 0 0, .int .i64 (-1), .slice (some ⟨w.heap.size + 1, 0, none⟩) 2 2] 43 (0, 0))
  have c0 := cell_of_row _ w.heap.size 0 _ _ _ h1
  have c1 := cell_of_row _ w.heap.size 1 _ _ _ h1
  simp only [List.getElem?_toArray, List.getElem?_cons_zero, List.getElem?_cons_succ] at c0 c1
  exact bodyPost_ret (prog_result _ _ w.heap.size _ _ rfl c0 c1) rfl ⟨_, rfl, one_lies (f := leastF) rfl rfl rfl rfl h3 h2, h4⟩

end Go.Proofs.YtdjbkppdppdcgaaGreatDoor

namespace Go.Proofs.YtdjbkppdppdcgaaGreatDoor
open Go.RowKit

theorem LiesC.up {w W : World} {p : Cp} {v : Value} (h : LiesC w w.heap.size p v) (hb : Below w.heap.size w W) : LiesC W W.heap.size p v := (h.keep hb.block).more hb.size
def badF : Cf := ⟨⟨#[]⟩, 0, 0, [], -1, [⟨50, 0, 0, ⟨#[]⟩, 0⟩]⟩
theorem okI0 : okI 0 := ⟨by decide, by decide⟩
theorem okI1 : okI 1 := ⟨by decide, by decide⟩
theorem okIm : okI (-1) := ⟨by decide, by decide⟩
theorem least_ci (op : Int) (h : okI op) : CiOk ⟨op, 0, 0, ⟨#[]⟩, 0⟩ := ⟨h, okI0, okI0, okI0, by show (0 : Nat) ≤ _; omega⟩
theorem least_cf : CfOk leastF := by
  refine ⟨by show (0 : Nat) ≤ _; omega, okI0, okI1, okIm, by show (0 : Nat) ≤ _; omega, by show (2 : Nat) ≤ _; omega, fun t ht => (nomatch ht), fun x hx => ?_⟩
  rcases List.mem_cons.1 hx with rfl | hx
  · exact least_ci 7 ⟨by decide, by decide⟩
  · rw [List.mem_singleton.1 hx]
    exact least_ci 50 ⟨by decide, by decide⟩
theorem least_ok : CpOk least := ⟨by decide, by decide, fun f hf => by rw [List.mem_singleton.1 hf]; exact least_cf, fun s hs => (nomatch hs)⟩
theorem ins0 : insName (some 0) = ⟨#[48]⟩ := by simp [insName, itoa_0]
theorem least_B : leastB = [71, 67, 48, 49, 0, 2, 0, 0, 2, 0, 1, 4, 14, 0, 0, 0, 0, 100, 0, 0, 0, 0] := rfl
/-- The least program in a box of the call's own. -/
structure KnAt (w W : World) (b : Nat) (v0 v1 : Value) : Prop where
  low : Below w.heap.size w W
  box : W.heap[b]? = some (.cells #[v0, v1] 25 (0, 0))
  lies : LiesC W W.heap.size least (.agg #[v0, v1])
theorem KnAt.under {w W W' : World} {b : Nat} {v0 v1 : Value} (h : KnAt w W b v0 v1) (hb : Below W.heap.size W W') : KnAt w W' b v0 v1 :=
  ⟨h.low.trans (hb.mono h.low.size), (hb.block b (Array.getElem?_eq_some_iff.1 h.box).1).trans h.box, h.lies.up hb⟩
theorem KnAt.new {w W : World} {v0 v1 : Value} (hl : Below w.heap.size w W) (h : LiesC W W.heap.size least (.agg #[v0, v1])) : KnAt w (W.alloc (.cells #[v0, v1] 25 (0, 0))) W.heap.size v0 v1 :=
  ⟨hl.alloc hl.size _, heap_alloc_new _ _, h.up ((Below.refl _ _).alloc (Nat.le_refl _) _)⟩
theorem KnAt.alloc {w W : World} {b : Nat} {v0 v1 : Value} (h : KnAt w W b v0 v1) (o : Obj) : KnAt w (W.alloc o) b v0 v1 := h.under ((Below.refl _ _).alloc (Nat.le_refl _) _)
theorem KnAt.cs {w W : World} {b : Nat} {v0 v1 : Value} (h : KnAt w W b v0 v1) : W.cell? ⟨b, 0, none⟩ = some v0 ∧ W.cell? ⟨b, 1, none⟩ = some v1 := by
  have c0 := cell_of_row W b 0 _ _ _ h.box
  have c1 := cell_of_row W b 1 _ _ _ h.box
  simp only [List.getElem?_toArray, List.getElem?_cons_zero, List.getElem?_cons_succ] at c0 c1
  exact ⟨c0, c1⟩
theorem same_least {W : World} {u v : Value} (h : LiesC W W.heap.size least u) (h' : LiesC W W.heap.size least v) : Calls Tryz.prog 9 #[u, v] W fun e w' => e = .returned (.bool true) ∧ Below W.heap.size W w' := by
  have := same13_any h h' least_ok
  rw [sameC_self] at this
  exact this
theorem sameC_least {W : World} {u v : Value} (h : LiesC W W.heap.size least u) (h' : LiesC W W.heap.size least v) : Calls Tryz.prog 10 #[u, v] W fun e w' => e = .returned (.bool true) ∧ Below W.heap.size W w' := by
  have := sameC_any h h' least_ok
  rw [sameC_self] at this
  exact this
end Go.Proofs.YtdjbkppdppdcgaaGreatDoor
