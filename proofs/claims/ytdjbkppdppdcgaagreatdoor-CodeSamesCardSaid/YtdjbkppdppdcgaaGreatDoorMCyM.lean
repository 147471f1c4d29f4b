/- guiselaw13.told, least, wide. copy and make at whatever size of an element; what guiselaw13.lent has laid so far. -/
import Derived.Laws.MakeOwn
import Derived.Laws.CopyRow
import Derived.Test.YtdjbkppdppdcgaaGreatDoorCyL
namespace Go.Proofs.YtdjbkppdppdcgaaGreatDoor
open Go.RowKit

theorem isWrongC (p : Value) (w : World) : Sem.run Tryz.prog (Instr.typeAssert (.iface 61 p) 33 61 true) w = .ok (.tuple #[p, .bool true]) w := by kernel_rfl
theorem eql_wrong (c a c' a' : Int) (s s' : ByteArray) (w : World) : (binOp .eql 51 (.agg #[.int .i64 c, .int .i64 a, .string s]) (.agg #[.int .i64 c', .int .i64 a', .string s'])).run Tryz.prog w = .ok (.bool (c == c' && (a == a' && decide (s = s')))) w := by
  have hS : Tryz.prog.underlying 51 = some (.struct (Tryz.prog.fieldsOf 51)) := by kernel_rfl
  have hp : Tryz.prog.stoodInHeld 51 = false := by kernel_rfl
  rw [run_eql_struct, show (10000 : Nat) = 9999 + 1 from rfl, run_equalIn_agg w 9999 _ _ _ hS hp]
  simp only [Program.fieldsOf, Tryz.underlying51]
  go_simp
  have ht : s.toList = s'.toList ↔ s = s' := ⟨toList_inj, congrArg _⟩
  by_cases h1 : c = c' <;> by_cases h2 : a = a' <;> by_cases h3 : s = s' <;> simp [ht, h1, h2, h3]

set_option maxRecDepth 100000 in
set_option maxHeartbeats 4000000 in
theorem told_wrong {w : World} {b : Nat} {c a : Int} {i : Option Int} (h : WrAt w b c a i) (c' a' : Int) (s' : ByteArray) (h0 : c' ≠ 0) :
    Calls Tryz.prog 19 #[.iface 61 (.pointer (some ⟨b, 0, none⟩)), .agg #[.int .i64 c', .int .i64 a', .string s']] w fun e w' => e = .returned (.bool (c == c' && (a == a' && decide (insName i = s')))) ∧ Below w.heap.size w w' := by
  obtain ⟨s, hs⟩ : ∃ s, insName i = s := ⟨_, rfl⟩
  unfold WrAt at h
  rw [hs] at h ⊢
  have hb := (Array.getElem?_eq_some_iff.1 h).1
  have hB : Below w.heap.size w (w.alloc (.cells #[.int .i64 c', .int .i64 a', .string s'] 51 (0, 0))) := (Below.refl _ _).alloc (Nat.le_refl _) _
  have h1 := (heap_alloc_old w (.cells #[.int .i64 c', .int .i64 a', .string s'] 51 (0, 0)) hb).trans h
  have h2 := heap_alloc_new w (.cells #[.int .i64 c', .int .i64 a', .string s'] 51 (0, 0))
  have e0 : (c' == 0) = false := by simp [h0]
  have heq := eql_wrong c a c' a' s s'
  have hta := isWrongC
  obtain ⟨R, hR⟩ : ∃ R, (c == c' && (a == a' && decide (s = s'))) = R := ⟨_, rfl⟩
  rw [hR] at heq ⊢
  have HB := Lib.hid hB
  clear hR h hs h0 hB
  go_enter Tryz.func19, Tryz.ntmps19
  go_upto_region 4 with fail
  obtain ⟨nb, hnb⟩ : ∃ nb, w.heap.size = nb := ⟨_, rfl⟩
  obtain ⟨W1, hW1⟩ : ∃ W1, w.alloc (.cells #[.int .i64 c', .int .i64 a', .string s'] 51 (0, 0)) = W1 := ⟨_, rfl⟩
  simp only [hnb, hW1] at h1 h2 HB ⊢
  have t0 : ∀ k, (W1.drewN k).cell? ⟨b, 0, none⟩ = some (.int .i64 c) := fun _ => cell_of_row W1 b 0 _ _ _ h1
  have t1 : ∀ k, (W1.drewN k).cell? ⟨b, 1, none⟩ = some (.int .i64 a) := fun _ => cell_of_row W1 b 1 _ _ _ h1
  have t2 : ∀ k, (W1.drewN k).cell? ⟨b, 2, none⟩ = some (.string s) := fun _ => cell_of_row W1 b 2 _ _ _ h1
  have u0 : ∀ k, (W1.drewN k).cell? ⟨nb, 0, none⟩ = some (.int .i64 c') := fun _ => cell_of_row W1 nb 0 _ _ _ h2
  have u1 : ∀ k, (W1.drewN k).cell? ⟨nb, 1, none⟩ = some (.int .i64 a') := fun _ => cell_of_row W1 nb 1 _ _ _ h2
  have u2 : ∀ k, (W1.drewN k).cell? ⟨nb, 2, none⟩ = some (.string s') := fun _ => cell_of_row W1 nb 2 _ _ _ h2
  clear h1 h2 hW1
  go_quiet (fail)
  go_wp2_with fail
  go_ret
  exact ⟨rfl, by rw [hnb]; exact under_drew HB.out _⟩

theorem prog_result (tmps : Array Value) (W : World) (g : Nat) (v0 v1 : Value) (h2 : tmps.getD 0 undef = .pointer (some ⟨g, 0, none⟩)) (e0 : W.cell? ⟨g, 0, none⟩ = some v0) (e1 : W.cell? ⟨g, 1, none⟩ = some v1) :
    (results Tryz.f18 tmps).run Tryz.prog W = .ok (.agg #[v0, v1]) W := by
  have h2' : tmps[0]?.getD undef = .pointer (some ⟨g, 0, none⟩) := by simpa using h2
  have hres : Tryz.f18.results = #[ResultVar.cell 0 25] := rfl
  simp [results, go_sem, h2', e0, e1]

theorem row_of_block {W : World} {b : Nat} {cs : List Value} {t : TypeId} {fr : Nat × Nat} (h : W.heap[b]? = some (.cells cs.toArray t fr)) : RowIs W W.heap.size (some ⟨b, 0, none⟩) cs :=
  .inr ⟨b, 0, rfl, (Array.getElem?_eq_some_iff.1 h).1, fun j v hj => by rw [Nat.zero_add, cell_of_row W b j _ _ _ h, List.getElem?_toArray, hj]⟩
/-- A program of one function as it is built in the text. -/
theorem one_lies {W : World} {fb cb n : Nat} {f : Cf} {cs1 cs2 : Array Value} (hn : f.code.length = n) (ht : f.taken = []) (e1 : cs1 = (fnCells (f, ⟨none, 0, some ⟨cb, 0, none⟩, n⟩)).toArray) (e2 : cs2 = (f.code.flatMap insCells).toArray) (hf : W.heap[fb]? = some (.cells cs1 43 (0, 0))) (hc : W.heap[cb]? = some (.cells cs2 46 (0, 0))) :
    LiesC W W.heap.size ⟨[f], []⟩ (.agg #[.slice (some ⟨fb, 0, none⟩) 1 1, .slice none 0 0]) := by
  subst e1 e2 hn
  refine ⟨some ⟨fb, 0, none⟩, 1, none, 0, [(f, ⟨none, 0, some ⟨cb, 0, none⟩, f.code.length⟩)], rfl, rfl, ?_, .inl rfl, Nat.le_refl _, Nat.le_refl _, fun x hx => ?_⟩
  · rw [List.flatMap_cons, List.flatMap_nil, List.append_nil]
    exact row_of_block hf
  rw [List.mem_singleton.1 hx]
  exact ⟨.inl (by rw [ht]; rfl), row_of_block hc, by rw [ht]; exact Nat.le_refl _, Nat.le_refl _⟩

set_option maxRecDepth 100000 in
set_option maxHeartbeats 4000000 in
theorem least_any (w : World) : Calls Tryz.prog 18 #[] w fun e w' => ∃ v, e = .returned v ∧ LiesC w' w'.heap.size least v ∧ Below w.heap.size w w' := by
  go_enter Tryz.func18, Tryz.ntmps18
  go_wp2_with fail
  have h0 : ∀ A B C : Obj, (((w.alloc A).alloc B).alloc C).heap[w.heap.size]? = some A ∧ (((w.alloc A).alloc B).alloc C).heap[w.heap.size + 1]? = some B ∧ (((w.alloc A).alloc B).alloc C).heap[w.heap.size + 1 + 1]? = some C ∧ Below w.heap.size w (((w.alloc A).alloc B).alloc C) := by
    intro A B C
    have s1 : (w.alloc A).heap.size = w.heap.size + 1 := World.size_alloc _ _
    have s2 : ((w.alloc A).alloc B).heap.size = w.heap.size + 1 + 1 := by rw [World.size_alloc, s1]
    have n1 := heap_alloc_new (w.alloc A) B
    have n2 := heap_alloc_new ((w.alloc A).alloc B) C
    rw [s1] at n1
    rw [s2] at n2
    refine ⟨(heap_alloc_old _ _ (by omega)).trans ((heap_alloc_old _ _ (by omega)).trans (heap_alloc_new w A)), (heap_alloc_old _ _ (by omega)).trans n1, n2, ?_⟩
    exact (((Below.refl _ _).alloc (Nat.le_refl _) A).alloc (by omega) B).alloc (by omega) C
  obtain ⟨h1, h2, h3, h4⟩ := h0 (.cells #[.slice (some ⟨w.heap.size + 1 + 1, 0, none⟩) 1 1, .slice none 0 0] 25 (0, 0)) (.cells #[.int .i64 7, .int .i64 0, .int .i64 0, .string ⟨#[]⟩, .int .i64 0, .int .i64 50, .int .i64 0, .int .i64 0, .string ⟨#[]⟩, .int .i64 0] 46 (0, 0)) (.cells #[.string ⟨#[]⟩, .int .i64 0, .int .i64 1, .slice none 0 0, .int .i64 (-1), .slice (some ⟨w.heap.size + 1, 0, none⟩) 2 2] 43 (0, 0))
  have c0 := cell_of_row _ w.heap.size 0 _ _ _ h1
  have c1 := cell_of_row _ w.heap.size 1 _ _ _ h1
  simp only [List.getElem?_toArray, List.getElem?_cons_zero, List.getElem?_cons_succ] at c0 c1
  exact bodyPost_ret (prog_result _ _ w.heap.size _ _ rfl c0 c1) rfl ⟨_, rfl, one_lies (f := leastF) rfl rfl rfl rfl h3 h2, h4⟩

/-- So few parts that it is copied. -/
def partsN (l : List Cf) : Nat := l.foldr (fun f n => f.code.length + f.taken.length + n) 0
theorem partsN_cons (f : Cf) (l : List Cf) : partsN (f :: l) = f.code.length + f.taken.length + partsN l := rfl

set_option maxRecDepth 100000 in
set_option maxHeartbeats 4000000 in
theorem wide_any {w : World} {p : Cp} {v : Value} (h : LiesC w w.heap.size p v) (hok : CpOk p) :
    Calls Tryz.prog 8 #[v] w fun e w' => ∃ b, e = .returned (.bool b) ∧ (b = false → p.globals.length + p.funcs.length + partsN p.funcs ≤ 90000) ∧ Below w.heap.size w w' := by
  obtain ⟨n, m, fa, fc, ga, gc, xs, rfl, _, _, hp⟩ := h.pieces
  have hn47 : n ≤ 140737488351232 := hp.fn ▸ hok.1
  have hm47 : m ≤ 140737488351232 := hp.gn ▸ hok.2.1
  rw [hp.fn, hp.gn]
  have hW : Below w.heap.size w (w.alloc (.cells #[.slice fa n fc, .slice ga m gc] 25 (0, 0))) := (Below.refl _ _).alloc (Nat.le_refl _) _
  have hb0 := heap_alloc_new w (.cells #[.slice fa n fc, .slice ga m gc] 25 (0, 0))
  have HP := Lib.hid hp
  have HOK := Lib.hid hok
  have HN : Hid (partsN p.funcs = partsN (p.funcs.drop 0)) := Lib.hid rfl
  clear h hp hok
  go_enter Tryz.func8, Tryz.ntmps8
  go_wp2_with fail
  obtain ⟨pb, hpb⟩ : ∃ pb, w.heap.size = pb := ⟨_, rfl⟩
  obtain ⟨W1, hW1⟩ : ∃ W1, w.alloc (.cells #[.slice fa n fc, .slice ga m gc] 25 (0, 0)) = W1 := ⟨_, rfl⟩
  simp only [hW1, hpb] at hW hb0 ⊢
  have p0 := cell_of_row W1 pb 0 _ _ _ hb0
  have p1 := cell_of_row W1 pb 1 _ _ _ hb0
  simp only [List.getElem?_toArray, List.getElem?_cons_zero, List.getElem?_cons_succ] at p0 p1
  have HW := Lib.hid hW
  have HP0 := Lib.hid p0
  clear hW hW1 hb0 p0 p1
  go_loopw [3, 4] (fun s i wr => ∃ k t : Nat, i = .int .i64 k ∧ k ≤ n ∧ s = .int .i64 t ∧ t ≤ 90000 + 281474976702464 ∧ Hid (Below W1.heap.size W1 wr) ∧ Hid (t + partsN (p.funcs.drop k) = m + n + partsN p.funcs)) (fun _ i _ => n - (intOf i).toNat)
  case atStart => exact ⟨0, m + n, rfl, Nat.zero_le _, by simp, by omega, Lib.hid (Below.refl _ _), Lib.hid (by simp)⟩
  case round =>
    obtain ⟨k, t, rfl, hk, rfl, ht, HB, HQ⟩ := hrel
    have P0 := old_cell HP0.out HB.out
    have P0' := P0 0
    simp only [World.drewN_zero] at P0'
    by_cases hlt : k < n
    · by_cases hle : t ≤ 90000
      · obtain ⟨x, hx⟩ : ∃ x, p.funcs[k]? = some x := ⟨_, List.getElem?_eq_getElem (by rw [HP.out.fn]; exact hlt)⟩
        obtain ⟨g, o, fv, rfl, hlx, x0, x1, x2, x3, x4, x5⟩ := HP.out.func hx
        have hbw : Below w.heap.size w wr := by
          have := HW.out.trans (HB.out.mono (by have := HW.out.size; omega))
          rw [hpb]
          exact this
        have c3 := old_cell x3 hbw
        have c5 := old_cell x5 hbw
        have hxo := HOK.out.2.2.1 x (List.mem_of_getElem? hx)
        have hq := HQ.out
        rw [drop_cons hx, partsN_cons] at hq
        obtain ⟨tn, htn⟩ : ∃ tn, x.taken.length = tn := ⟨_, rfl⟩
        obtain ⟨cn, hcn⟩ : ∃ cn, x.code.length = cn := ⟨_, rfl⟩
        rw [htn] at c3 hq
        rw [hcn] at c5 hq
        have htb : tn ≤ 140737488351232 := by rw [← htn]; exact hxo.2.2.2.2.1
        have hcb : cn ≤ 140737488351232 := by rw [← hcn]; exact hxo.2.2.2.2.2.1
        have HQ2 : Hid (t + cn + tn + partsN (p.funcs.drop (k + 1)) = m + n + partsN p.funcs) := Lib.hid (by omega)
        clear hx hlx x0 x1 x2 x3 x4 x5 hq hxo htn hcn hbw
        go_upto_region 5 with fail
        go_quiet (fail)
        go_wp2_with fail
        go_roundw
        case rel => exact ⟨k + 1, t + cn + tn, by simp, by omega, by simp, by omega, Lib.hid (under_drew HB.out _), HQ2⟩
        case measure => simp [intOf]; omega
      · go_wp2_with fail
        go_ret
        exact ⟨_, rfl, fun h => absurd h (by first | (simp; done) | (simp; omega)), by rw [hpb]; exact HW.out.trans (HB.out.mono (by have := HW.out.size; omega))⟩
    · obtain rfl : k = n := by omega
      have hq := HQ.out
      rw [List.drop_of_length_le (by rw [HP.out.fn]; exact Nat.le_refl _)] at hq
      have hq2 : t = m + k + partsN p.funcs := hq
      clear hq
      go_wp2_with fail
      go_ret
      exact ⟨_, rfl, fun h => by simp at h; omega, by rw [hpb]; exact HW.out.trans (HB.out.mono (by have := HW.out.size; omega))⟩
end Go.Proofs.YtdjbkppdppdcgaaGreatDoor

namespace Go.Proofs.YtdjbkppdppdcgaaGreatDoor
open Go.RowKit

/-- One block written, all else as it was. -/
structure Only (g : Nat) (w w' : World) : Prop where
  os : w'.os = w.os
  tape : w'.tape = w.tape
  output : w'.output = w.output
  size : w'.heap.size = w.heap.size
  block : ∀ k, k ≠ g → w'.heap[k]? = w.heap[k]?
theorem Only.below {g : Nat} {B : Nat} {w0 w w' : World} (h : Only g w w') (hb : Below B w0 w) (hB : B ≤ g) : Below B w0 w' :=
  hb.trans ⟨h.os, h.tape, h.output, by rw [h.size]; exact Nat.le_refl _, fun k hk => h.block k (by omega)⟩
theorem Only.set (g : Nat) (w : World) (i : Nat) (v : Value) : Only g w (w.setCell ⟨g, i, none⟩ v) := ⟨rfl, rfl, rfl, by simp, fun k hk => Below.heap_setCell _ _ _ _ hk⟩
theorem Only.trans {g : Nat} {a b c : World} (h : Only g a b) (k : Only g b c) : Only g a c := ⟨k.os.trans h.os, k.tape.trans h.tape, k.output.trans h.output, k.size.trans h.size, fun i hi => (k.block i hi).trans (h.block i hi)⟩
section
variable {P : Program}
theorem run_copyK (w : World) (dT sT ty elem : TypeId) (i : TypeInfo) (hu : P.underlying dT = some (.slice elem)) (hi : P.info? elem = some i) (g o dLen dCap : Nat) (sp : Option Addr) (sLen sCap : Nat) (cur : Array Value) (t : TypeId) (cs : List Value)
    (hg : w.heap[g]? = some (.cells cur t (0, 0))) (hle : sLen ≤ dLen) (hn : cs.length = sLen * i.size) (hsrc : cs ≠ [] → ∃ ad, sp = some ad ∧ ∀ j v, cs[j]? = some v → w.cell? (ad.add j) = some v) (hfit : o + cs.length ≤ cur.size) (h1 : ∀ v ∈ cs, v.oneCell' = true) :
    (Builtin.copy_ #[dT, sT] ty #[.slice (some ⟨g, o, none⟩) dLen dCap, .slice sp sLen sCap]).run P w = .ok (goInt sLen) (w.setRow g (cur.toList.take o ++ cs ++ cur.toList.drop (o + cs.length)).toArray) := by
  have hf : (Builtin.firstCells i.size sLen (.slice sp sLen sCap)).run P w = .ok cs.toArray w := by
    by_cases h0 : cs = []
    · subst h0
      have hz : sLen * i.size = 0 := hn.symm
      cases sp with
      | none => exact run_firstCells_none w i.size sLen sLen sCap
      | some a => exact run_firstCells_some w i.size sLen a sLen sCap [] (by simpa using hz.symm) (fun j v h => by cases h)
    · obtain ⟨ad, rfl, hc⟩ := hsrc h0
      exact run_firstCells_some w i.size sLen ad sLen sCap cs (by simpa using hn) hc
  have hmin : Nat.min sLen dLen = sLen := Nat.min_eq_left hle
  have hst := run_storeCells_at P g o t cs 0 cur w hg (by simpa using hfit) h1
  rw [Nat.add_zero] at hst
  have hmin2 : sLen.min dLen = sLen := hmin
  simp [Builtin.copy_, run_underlying hu, sizeOf, typeInfo, hi, Builtin.lenOf, hmin2, hf, hst]
theorem copy_facts {w : World} (dT sT ty elem : TypeId) (i : TypeInfo) (hu : P.underlying dT = some (.slice elem)) (hi : P.info? elem = some i) (size : Nat) (hz : i.size = size)
    (g dLen dCap : Nat) (sp : Option Addr) (sLen sCap : Nat) (cur : List Value) (t : TypeId) (cs : List Value)
    (hg : w.heap[g]? = some (.cells cur.toArray t (0, 0))) (hle : sLen ≤ dLen) (hn : cs.length = sLen * size) (hsrc : cs ≠ [] → ∃ ad, sp = some ad ∧ ∀ j v, cs[j]? = some v → w.cell? (ad.add j) = some v) (hfit : cs.length ≤ cur.length) (h1 : ∀ v ∈ cs, v.oneCell' = true) :
    ∃ w', (Builtin.copy_ #[dT, sT] ty #[.slice (some ⟨g, 0, none⟩) dLen dCap, .slice sp sLen sCap]).run P w = .ok (.int .i64 sLen) w' ∧ w'.heap[g]? = some (.cells (cs ++ cur.drop cs.length).toArray t (0, 0)) ∧ Only g w w' := by
  subst hz
  have hrun := run_copyK (P := P) w dT sT ty elem i hu hi g 0 dLen dCap sp sLen sCap cur.toArray t cs hg hle hn hsrc (by simpa using hfit) h1
  refine ⟨_, hrun, ?_, ⟨rfl, rfl, rfl, by simp [World.setRow], fun k hk => setRow_other w g k _ hk⟩⟩
  have := setRow_heap w g _ (cur.toArray.toList.take 0 ++ cs ++ cur.toArray.toList.drop (0 + cs.length)).toArray t _ hg
  simpa using this
end

/-- A row of cells from block lo on. -/
def RowHi (W : World) (lo : Nat) (A : Option Addr) (cs : List Value) : Prop := cs = [] ∨ ∃ g o, A = some ⟨g, o, none⟩ ∧ lo ≤ g ∧ g < W.heap.size ∧ ∀ (j : Nat) (v : Value), cs[j]? = some v → W.cell? ⟨g, o + j, none⟩ = some v
theorem RowHi.row {W : World} {lo : Nat} {A : Option Addr} {cs : List Value} (h : RowHi W lo A cs) : RowIs W W.heap.size A cs := by
  rcases h with h | ⟨g, o, hA, _, hg, hc⟩
  · exact .inl h
  · exact .inr ⟨g, o, hA, hg, hc⟩
theorem RowHi.keep {W W' : World} {lo : Nat} {A : Option Addr} {cs : List Value} (h : RowHi W lo A cs) (hs : W.heap.size ≤ W'.heap.size) (hk : ∀ k, lo ≤ k → k < W.heap.size → W'.heap[k]? = W.heap[k]?) : RowHi W' lo A cs := by
  rcases h with h | ⟨g, o, hA, hl, hg, hc⟩
  · exact .inl h
  · exact .inr ⟨g, o, hA, hl, by omega, fun j v hj => (World.cell?_of_block (w := W) (a := ⟨g, o + j, none⟩) (hk g hl hg)).trans (hc j v hj)⟩
theorem RowHi.of_block {W : World} {lo b : Nat} {cs xs : List Value} {t : TypeId} {fr : Nat × Nat} (h : W.heap[b]? = some (.cells xs.toArray t fr)) (hb : lo ≤ b) (hx : ∀ (j : Nat) (v : Value), cs[j]? = some v → xs[j]? = some v) : RowHi W lo (some ⟨b, 0, none⟩) cs :=
  .inr ⟨b, 0, rfl, hb, (Array.getElem?_eq_some_iff.1 h).1, fun j v hj => by rw [Nat.zero_add, cell_of_row W b j _ _ _ h, List.getElem?_toArray]; exact hx j v hj⟩
def LiesHi (W : World) (lo : Nat) (x : Cf × Fv) : Prop := RowHi W lo x.2.ta (x.1.taken.map (Value.int .i64)) ∧ RowHi W lo x.2.ca (x.1.code.flatMap insCells) ∧ x.1.taken.length ≤ x.2.tc ∧ x.1.code.length ≤ x.2.cc
/-- Lending: what has been laid behind k functions. -/
structure LtS (w W : World) (p : Cp) (n m : Nat) (v0 v1 : Value) (pb rb ob gb fb lo k : Nat) (ys : List (Cf × Fv)) : Prop where
  low : Below w.heap.size w W
  lp : w.heap.size ≤ pb
  hpb : W.heap[pb]? = some (.cells #[v0, v1] 25 (0, 0))
  hrb : W.heap[rb]? = some (.cells #[.slice none 0 0, .slice none 0 0] 25 (0, 0))
  hob : W.heap[ob]? = some (.cells #[.slice (some ⟨fb, 0, none⟩) (n + 2) (n + 2), .slice (some ⟨gb, 0, none⟩) (m + 2) (m + 2)] 25 (0, 0))
  hgb : ∃ cs : List Value, cs.length = m + 2 ∧ cs.take m = p.globals.map Value.string ∧ W.heap[gb]? = some (.cells cs.toArray 9 (0, 0))
  hfb : ∃ cs : List Value, cs.length = (n + 2) * 6 ∧ cs.take (k * 6) = ys.flatMap fnCells ∧ W.heap[fb]? = some (.cells cs.toArray 43 (0, 0))
  yf : ys.map Prod.fst = p.funcs.take k
  rows : ∀ y ∈ ys, LiesHi W lo y
  llo : lo ≤ W.heap.size
  d : w.heap.size ≤ gb ∧ w.heap.size ≤ fb ∧ w.heap.size ≤ rb ∧ w.heap.size ≤ ob ∧ pb < lo ∧ rb < lo ∧ ob < lo ∧ gb < lo ∧ fb < lo ∧ pb ≠ gb ∧ pb ≠ fb ∧ rb ≠ gb ∧ rb ≠ fb ∧ ob ≠ gb ∧ ob ≠ fb ∧ gb ≠ fb ∧ pb ≠ rb ∧ ob ≠ rb ∧ ob ≠ pb
section
variable {w W W' : World} {p : Cp} {n m : Nat} {v0 v1 : Value} {pb rb ob gb fb lo k : Nat} {ys : List (Cf × Fv)}
theorem LtS.under (h : LtS w W p n m v0 v1 pb rb ob gb fb lo k ys) (hb : Below W.heap.size W W') : LtS w W' p n m v0 v1 pb rb ob gb fb lo k ys := by
  have hd := h.d
  have hl := h.llo
  have hk : ∀ j, j < lo → W'.heap[j]? = W.heap[j]? := fun j hj => hb.block j (by omega)
  obtain ⟨cg, g1, g2, g3⟩ := h.hgb
  obtain ⟨cf, f1, f2, f3⟩ := h.hfb
  exact ⟨h.low.trans (hb.mono h.low.size), h.lp, (hk _ (by omega)).trans h.hpb, (hk _ (by omega)).trans h.hrb, (hk _ (by omega)).trans h.hob, ⟨cg, g1, g2, (hk _ (by omega)).trans g3⟩, ⟨cf, f1, f2, (hk _ (by omega)).trans f3⟩, h.yf,
    fun y hy => ⟨(h.rows y hy).1.keep hb.size fun j _ hj => hb.block j hj, (h.rows y hy).2.1.keep hb.size fun j _ hj => hb.block j hj, (h.rows y hy).2.2⟩, Nat.le_trans hl hb.size, hd⟩
theorem LtS.alloc (h : LtS w W p n m v0 v1 pb rb ob gb fb lo k ys) (o : Obj) : LtS w (W.alloc o) p n m v0 v1 pb rb ob gb fb lo k ys := h.under ((Below.refl _ _).alloc (Nat.le_refl _) _)
/-- A block of the loop's own is written. -/
theorem LtS.set (h : LtS w W p n m v0 v1 pb rb ob gb fb lo k ys) {x : Nat} (hx : lo ≤ x) (hy : ∀ y ∈ ys, Value.ownBlock (.slice y.2.ta 0 0) ≠ some x ∧ Value.ownBlock (.slice y.2.ca 0 0) ≠ some x) (hw : Only x W W') : LtS w W' p n m v0 v1 pb rb ob gb fb lo k ys := by
  have hd := h.d
  have hl := h.llo
  have hk : ∀ j, j < lo → W'.heap[j]? = W.heap[j]? := fun j hj => hw.block j (by omega)
  obtain ⟨cg, g1, g2, g3⟩ := h.hgb
  obtain ⟨cf, f1, f2, f3⟩ := h.hfb
  have hr : ∀ (A : Option Addr) (cs : List Value), RowHi W lo A cs → Value.ownBlock (.slice A 0 0) ≠ some x → RowHi W' lo A cs := by
    intro A cs h1 h2
    rcases h1 with h1 | ⟨g, o, rfl, h3, h4, hc⟩
    · exact .inl h1
    · have hgx : g ≠ x := fun e => h2 (by simp [Value.ownBlock, e])
      exact .inr ⟨g, o, rfl, h3, by rw [hw.size]; exact h4, fun j v hj => (World.cell?_of_block (w := W) (a := ⟨g, o + j, none⟩) (hw.block g hgx)).trans (hc j v hj)⟩
  exact ⟨hw.below h.low (by have := hd; have := h.lp; omega), h.lp, (hk _ (by omega)).trans h.hpb, (hk _ (by omega)).trans h.hrb, (hk _ (by omega)).trans h.hob, ⟨cg, g1, g2, (hk _ (by omega)).trans g3⟩, ⟨cf, f1, f2, (hk _ (by omega)).trans f3⟩, h.yf,
    fun y hy1 => ⟨hr _ _ (h.rows y hy1).1 (hy y hy1).1, hr _ _ (h.rows y hy1).2.1 (hy y hy1).2, (h.rows y hy1).2.2⟩, by rw [hw.size]; exact hl, hd⟩
/-- The row of names is written behind its names. -/
theorem LtS.markG (h : LtS w W p n m v0 v1 pb rb ob gb fb lo k ys) {j : Nat} (hj : m ≤ j) (v : Value) : LtS w (W.setCell ⟨gb, j, none⟩ v) p n m v0 v1 pb rb ob gb fb lo k ys := by
  have hd := h.d
  have hl := h.llo
  have hw := Only.set gb W j v
  have hk : ∀ j, j ≠ gb → (W.setCell ⟨gb, j, none⟩ v).heap[j]? = W.heap[j]? := fun j hj => Below.heap_setCell _ _ _ _ hj
  have hk' : ∀ i, i ≠ gb → (W.setCell ⟨gb, j, none⟩ v).heap[i]? = W.heap[i]? := fun i hi => Below.heap_setCell _ _ _ _ hi
  obtain ⟨cg, g1, g2, g3⟩ := h.hgb
  obtain ⟨cf, f1, f2, f3⟩ := h.hfb
  refine ⟨hw.below h.low hd.1, h.lp, (hk' _ (by omega)).trans h.hpb, (hk' _ (by omega)).trans h.hrb, (hk' _ (by omega)).trans h.hob, ⟨cg.set j v, by simpa using g1, ?_, ?_⟩, ⟨cf, f1, f2, (hk' _ (by omega)).trans f3⟩, h.yf,
    fun y hy => ⟨(h.rows y hy).1.keep (by simp) fun i hi _ => hk' i (by omega), (h.rows y hy).2.1.keep (by simp) fun i hi _ => hk' i (by omega), (h.rows y hy).2.2⟩, by simpa using hl, hd⟩
  · rw [← g2, List.take_set, List.set_eq_of_length_le (by simp; omega)]
  · have := heap_setCell_same W gb j _ _ v g3
    simpa using this
/-- The row of functions is written, where none stands yet. -/
theorem LtS.markF (h : LtS w W p n m v0 v1 pb rb ob gb fb lo 0 []) (j : Nat) (v : Value) : LtS w (W.setCell ⟨fb, j, none⟩ v) p n m v0 v1 pb rb ob gb fb lo 0 [] := by
  have hd := h.d
  have hl := h.llo
  have hw := Only.set fb W j v
  have hk' : ∀ i, i ≠ fb → (W.setCell ⟨fb, j, none⟩ v).heap[i]? = W.heap[i]? := fun i hi => Below.heap_setCell _ _ _ _ hi
  obtain ⟨cg, g1, g2, g3⟩ := h.hgb
  obtain ⟨cf, f1, f2, f3⟩ := h.hfb
  refine ⟨hw.below h.low hd.2.1, h.lp, (hk' _ (by omega)).trans h.hpb, (hk' _ (by omega)).trans h.hrb, (hk' _ (by omega)).trans h.hob, ⟨cg, g1, g2, (hk' _ (by omega)).trans g3⟩, ⟨cf.set j v, by simpa using f1, by simp, ?_⟩, h.yf, fun y hy => (nomatch hy), by simpa using hl, hd⟩
  have := heap_setCell_same W fb j _ _ v f3
  simpa using this
end
end Go.Proofs.YtdjbkppdppdcgaaGreatDoor
