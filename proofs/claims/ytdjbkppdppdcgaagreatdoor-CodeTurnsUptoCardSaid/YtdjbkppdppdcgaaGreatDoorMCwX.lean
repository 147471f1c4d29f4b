/- code.many, code.globals, code.headed of a program of one function. A map of texts and how often each came (map[string]int, as globals, headed and names use it); code.globals. -/
import Derived.Laws.OwnMore
import Derived.Maps.OwnOps
import Derived.Maps.Views
import Derived.Test.YtdjbkppdppdcgaaGreatDoorMCwG
import Derived.Test.YtdjbkppdppdcgaaGreatDoorMCwO
namespace Go.Proofs.YtdjbkppdppdcgaaGreatDoor
open Go.RowKit

/-- A program of one function, small, without variables. -/
structure One (p : Cp) (f : Cf) : Prop where
  fs : p.funcs = [f]
  gs : p.globals = []
  code : f.code.length ≤ 60000
  slots : f.slots ≤ 20000
  taken : f.taken.length ≤ 20000
/-- Where it lies. -/
structure OneAt (w : World) (B : Nat) (f : Cf) (g off : Nat) (fv : Fv) : Prop where
  lt : g < B
  cs : w.cell? ⟨g, off, none⟩ = some (.string f.name) ∧ w.cell? ⟨g, off + 1, none⟩ = some (.int .i64 f.params) ∧ w.cell? ⟨g, off + 2, none⟩ = some (.int .i64 f.slots) ∧ w.cell? ⟨g, off + 3, none⟩ = some (.slice fv.ta f.taken.length fv.tc) ∧
      w.cell? ⟨g, off + 4, none⟩ = some (.int .i64 f.around) ∧ w.cell? ⟨g, off + 5, none⟩ = some (.slice fv.ca f.code.length fv.cc)
  own : LiesF w B (f, fv)
theorem LiesC.one {w : World} {B : Nat} {p : Cp} {v : Value} {f : Cf} (h : LiesC w B p v) (ho : One p f) : ∃ g off fc ga gc fv, v = .agg #[.slice (some ⟨g, off, none⟩) 1 fc, .slice ga 0 gc] ∧ 1 ≤ fc ∧ OneAt w B f g off fv := by
  obtain ⟨fa, fc, ga, gc, xs, h1, rfl, h3, h4, h5, h6, h7⟩ := h
  rw [ho.fs] at h1 h5
  rw [ho.gs] at h6 ⊢
  rw [ho.fs]
  obtain ⟨y, rfl⟩ : ∃ y, xs = [y] := by
    match xs, h1 with
    | [y], _ => exact ⟨y, rfl⟩
  simp only [List.map_cons, List.map_nil, List.cons.injEq, and_true] at h1
  obtain ⟨f', fv⟩ := y
  obtain rfl : f' = f := h1
  obtain ⟨g, off, rfl, hg, hc⟩ := h3.at (by simp [fnCells])
  have hcs := fn_at (i := 0) hc rfl
  simp only [Nat.zero_mul, Nat.add_zero] at hcs
  exact ⟨g, off, fc, ga, gc, fv, rfl, h5, hg, hcs, h7 _ (List.mem_singleton.2 rfl)⟩
theorem OneAt.keep {w w' : World} {B : Nat} {f : Cf} {g off : Nat} {fv : Fv} (h : OneAt w B f g off fv) (hk : ∀ b, b < B → w'.heap[b]? = w.heap[b]?) : OneAt w' B f g off fv := by
  have e : ∀ o, w'.cell? ⟨g, o, none⟩ = w.cell? ⟨g, o, none⟩ := fun o => World.cell?_of_block (w := w) (a := ⟨g, o, none⟩) (hk g h.lt)
  refine ⟨h.lt, ?_, h.own.keep hk⟩
  rw [e, e, e, e, e, e]
  exact h.cs

set_option maxRecDepth 100000 in
set_option maxHeartbeats 4000000 in
theorem many_one {p : Cp} {f : Cf} (ho : One p f) {v : Value} {w : World} (hv : LiesC w w.heap.size p v) :
    Calls Tryz.prog 28 #[v] w fun e w' => e = .returned (.pointer none) ∧ Below w.heap.size w w' := by
  obtain ⟨g, off, fc, ga, gc, fv, rfl, hfc, hA⟩ := hv.one ho
  obtain ⟨n, hn⟩ : ∃ n, f.code.length = n := ⟨_, rfl⟩
  obtain ⟨t, ht⟩ : ∃ t, f.taken.length = t := ⟨_, rfl⟩
  have HC := Lib.hid hA.cs
  have hg := hA.lt
  have h1 := ho.code
  have h2 := ho.slots
  have h3 := ho.taken
  rw [hn] at h1 HC
  rw [ht] at h3 HC
  have HCS := Lib.hid (fun (W : World) (hb : Below w.heap.size w W) => (hA.keep hb.block).cs)
  rw [hn, ht] at HCS
  clear hv hA ho hn ht
  go_enter Tryz.func28, Tryz.ntmps28
  have HB0 : Hid (Below w.heap.size w (w.alloc (.cells #[.slice (some ⟨g, off, none⟩) 1 fc, .slice ga 0 gc] 25 (0, 0)))) := Lib.hid ((Below.refl _ _).alloc (Nat.le_refl _) _)
  have HP0 := Lib.hid (heap_alloc_new w (.cells #[.slice (some ⟨g, off, none⟩) 1 fc, .slice ga 0 gc] 25 (0, 0)))
  go_wp2_with fail
  go_loopw [3, 11] (fun all i wr => Hid (Below w.heap.size w wr) ∧ Hid (wr.heap[w.heap.size]? = some (.cells #[.slice (some ⟨g, off, none⟩) 1 fc, .slice ga 0 gc] 25 (0, 0))) ∧ ((all = .int .i64 0 ∧ i = .int .i64 0) ∨ (all = .int .i64 n ∧ i = .int .i64 1))) (fun _ i _ => 1 - (intOf i).toNat)
  case atStart => exact ⟨HB0, HP0, .inl ⟨rfl, rfl⟩⟩
  case round =>
    obtain ⟨HB, HP, h⟩ := hrel
    obtain ⟨x0, x1, x2, x3, x4, x5⟩ := HCS.out _ HB.out
    rcases h with ⟨rfl, rfl⟩ | ⟨rfl, rfl⟩
    · go_wp2_with fail
      go_roundw
      case rel => exact ⟨Lib.hid (HB.out.alloc HB.out.size _), Lib.hid ((heap_alloc_old _ _ (Array.getElem?_eq_some_iff.1 HP.out).1).trans HP.out), .inr ⟨rfl, rfl⟩⟩
      case measure => simp [intOf]
    · have q0 := cell_of_row wr w.heap.size 0 _ _ _ HP.out
      have q1 := cell_of_row wr w.heap.size 1 _ _ _ HP.out
      simp only [List.getElem?_toArray, List.getElem?_cons_zero, List.getElem?_cons_succ] at q0 q1
      have dn : decide (60000 < (n : Int)) = false := by simp; omega
      go_wp2_with fail
      go_loopw [45] (fun i wr => Hid (Below w.heap.size w wr) ∧ (i = .int .i64 0 ∨ i = .int .i64 1)) (fun i _ => 1 - (intOf i).toNat)
      case atStart => exact ⟨HB, .inl rfl⟩
      case round =>
        obtain ⟨HB2, h⟩ := hrel
        rcases h with rfl | rfl
        · obtain ⟨z0, z1, z2, z3, z4, z5⟩ := HCS.out _ HB2.out
          have ds : decide (20000 < f.slots) = false := by simp; omega
          have dt : decide (20000 < (t : Int)) = false := by simp; omega
          clear x0 x1 x2 x3 x4 x5
          go_wp2_with fail
          go_roundw
          case rel => exact ⟨Lib.hid (HB2.out.alloc HB2.out.size _), .inr rfl⟩
          case measure => simp [intOf]
        · go_wp2_with fail
          go_ret
          exact ⟨rfl, HB2.out⟩

theorem mapNew (w : World) : (Instr.makeMap 65 none).run Tryz.prog w = .ok (.map (some w.heap.size)) (w.alloc (.map #[] 0)) := rfl
set_option maxRecDepth 100000 in
set_option maxHeartbeats 4000000 in
theorem globals_none (ga : Option Addr) (gc : Nat) (w : World) : Calls Tryz.prog 29 #[.slice ga 0 gc] w fun e w' => e = .returned (.bool true) ∧ Below w.heap.size w w' := by
  have hm := mapNew
  go_enter Tryz.func29, Tryz.ntmps29
  have HB0 : Hid (Below w.heap.size w (w.alloc (.map #[] 0))) := Lib.hid ((Below.refl _ _).alloc (Nat.le_refl _) _)
  go_wp2_with fail
  go_loopw [9] (fun i wr => Hid (Below w.heap.size w wr) ∧ i = .int .i64 0) (fun _ _ => 0)
  case atStart => exact ⟨HB0, rfl⟩
  case round =>
    obtain ⟨HB, rfl⟩ := hrel
    go_wp2_with fail
    go_ret
    exact ⟨rfl, HB.out⟩

set_option maxRecDepth 100000 in
set_option maxHeartbeats 4000000 in
theorem headed_one {p : Cp} {f : Cf} (ho : One p f) {v : Value} {w : World} (hv : LiesC w w.heap.size p v) (mv : Value) :
    Calls Tryz.prog 31 #[v, .int .i64 0, mv] w fun e w' => e = .returned (.bool (headedB p.funcs 0 f [])) ∧ Below w.heap.size w w' := by
  obtain ⟨g, off, fc, ga, gc, fv, rfl, hfc, hA⟩ := hv.one ho
  obtain ⟨n, hn⟩ : ∃ n, f.code.length = n := ⟨_, rfl⟩
  obtain ⟨t, ht⟩ : ∃ t, f.taken.length = t := ⟨_, rfl⟩
  obtain ⟨x0, x1, x2, x3, x4, x5⟩ := hA.cs
  have hg := hA.lt
  obtain ⟨R, HR⟩ : ∃ R, Hid (headedB p.funcs 0 f [] = R) := ⟨_, rfl⟩
  have hr := HR.out
  unfold headedB at hr
  rw [if_pos rfl, ht] at hr
  rw [HR.out]
  rw [hn] at x5
  rw [ht] at x3
  have hne : f.name.toList.isEmpty = (f.name.data.toList == []) := by rw [ByteArray.toList_eq]; cases f.name.data.toList <;> rfl
  have HRR := Lib.hid hr
  clear hv hA ho hn ht hr HR
  go_enter Tryz.func31, Tryz.ntmps31
  by_cases h1 : f.params < 0 ∨ 13 < f.params ∨ f.slots < f.params
  · have hr := HRR.out
    rw [if_pos h1] at hr
    have HR2 := Lib.hid hr
    clear hr
    rcases h1 with h1 | h1 | h1
    all_goals
      go_wp2_with fail
      all_goals
        go_ret
        refine ⟨ret_bool (by rw [← HR2.out]), ?_⟩
        exact ((Below.refl _ _).alloc (Nat.le_refl _) _).alloc (by simp) _
  · have hr := HRR.out
    rw [if_neg h1] at hr
    have HR2 := Lib.hid hr
    obtain ⟨a1, a2⟩ := not_or.1 h1
    obtain ⟨a3, a4⟩ := not_or.1 a2
    have d1 : decide (f.params < 0) = false := decide_eq_false a1
    have d2 : decide (13 < f.params) = false := decide_eq_false a3
    have d3 : decide (f.slots < f.params) = false := decide_eq_false a4
    clear hr h1 a1 a2 a3 a4
    cases e1 : (f.name.data.toList == []) <;> cases e2 : (f.params == 0) <;> cases e3 : ((t : Int) == 0) <;> cases e4 : (f.around == -1)
    all_goals
      rw [e1] at hne
      go_wp2_with fail
      all_goals
        go_ret
        refine ⟨ret_bool (by rw [← HR2.out, e1, e2]; simp_all), ?_⟩
        exact ((Below.refl _ _).alloc (Nat.le_refl _) _).alloc (by simp) _
end Go.Proofs.YtdjbkppdppdcgaaGreatDoor

namespace Go.Proofs.YtdjbkppdppdcgaaGreatDoor
open Go.RowKit

def CntAt (w : World) (b n : Nat) (l : List (List UInt8)) : Prop :=
  ∃ D : DataW Unit, w.ownsMap Tryz.prog 9 (plainElem Tryz.prog 3) b n D ∧ Maps.IsMap D ∧ ∀ s, D.atKey (.string s) (.lit (.int .i64 0)) = .lit (.int .i64 ((l.count s : Nat) : Int))
theorem cntKey : Maps.Keyed Tryz.prog 9 := Maps.string_keyed Tryz.underlying9
theorem cnt_keyOf (s : ByteArray) (hs : s.size ≤ 140737488351232) : keyOf Tryz.prog 9 (.string s) = some (.string s.data.toList) := by
  have h2 : s.size ≤ maxLen := Nat.le_trans hs (by decide)
  simp [keyOf, mapKey, Tryz.underlying9, h2]
theorem CntAt.made (w : World) : CntAt (w.alloc (.map #[] 0)) w.heap.size 0 [] := ⟨.map [], World.ownsMap_made _ _ _ _, Maps.isMap_empty, fun _ => rfl⟩
theorem CntAt.keep {w w' : World} {b n : Nat} {l : List (List UInt8)} (h : CntAt w b n l) (hb : Below w.heap.size w w') : CntAt w' b n l := by
  obtain ⟨D, h1, h2, h3⟩ := h
  exact ⟨D, h1.kept (row := none) ⟨hb.os, hb.tape, hb.output, hb.size, fun k hk _ => hb.block k hk⟩ (by simp), h2, h3⟩
theorem CntAt.look {w : World} {b n : Nat} {l : List (List UInt8)} (h : CntAt w b n l) (s : ByteArray) (hs : s.size ≤ 140737488351232) :
    (Instr.lookup 65 (.map (some b)) (.string s) false).run Tryz.prog w = .ok (.int .i64 ((l.count s.data.toList : Nat) : Int)) w := by
  obtain ⟨D, h1, h2, h3⟩ := h
  obtain ⟨c, hrun, hat, _⟩ := h1.lookup_int cntKey Tryz.underlying65 Tryz.underlying3 (by kernel_rfl) (cnt_keyOf s hs)
  rw [h3] at hat
  have e := (Lit.int.inj (DataW.lit.inj hat)).2
  rw [e]
  exact hrun
theorem CntAt.put {w : World} {b n : Nat} {l : List (List UInt8)} (h : CntAt w b n l) (s : ByteArray) (hs : s.size ≤ 140737488351232) (hn : n ≤ 140737488351232) (hl : l.length ≤ 140737488351232) :
    ∃ w', (Instr.mapUpdate 65 (.map (some b)) (.string s) (.int .i64 (((l.count s.data.toList : Nat) : Int) + 1))).run Tryz.prog w = .ok () w' ∧ CntAt w' b (n + 1) (s.data.toList :: l) ∧ w.grownBy w' (some b) := by
  obtain ⟨D, h1, h2, h3⟩ := h
  have hc : l.count s.data.toList ≤ l.length := List.count_le_length
  have hw : (Lit.int .i64 (((l.count s.data.toList : Nat) : Int) + 1)).wf = true := WalkArith.wf_i64 (by omega)
  obtain ⟨w', hrun, hown, hg⟩ := h1.update cntKey Tryz.underlying65 (Nat.lt_of_le_of_lt hn (by decide)) (cnt_keyOf s hs) (plainElem_int Tryz.underlying3 hw)
  refine ⟨w', hrun, ⟨_, hown, h2.put _ _, fun s' => ?_⟩, hg⟩
  by_cases he : s' = s.data.toList
  · subst he
    rw [Maps.atKey_put_same h2 (by exact True.intro), List.count_cons_self]
    simp
  · rw [Maps.atKey_put_other (by simpa using he), h3, List.count_cons_of_ne (by simpa using fun e => he e.symm)]
theorem grownTo_below {w w' : World} {b B : Nat} (h : w.grownBy w' (some b)) (hB : B ≤ b) (hs : B ≤ w.heap.size) : Below B w w' :=
  ⟨h.os, h.tape, h.output, h.size, fun k hk => h.block k (by omega) (by intro e; injection e with e; omega)⟩

theorem globalsB_stop {old r : List (List UInt8)} {s : List UInt8} (h : nameL s = false ∨ old.contains s = true) : globalsB old (s :: r) = false := by
  rw [globalsB]; rcases h with h | h
  · rw [h]; rfl
  · rw [h]; cases nameL s <;> rfl
theorem globalsB_go {old r : List (List UInt8)} {s : List UInt8} (h : nameL s = true) (h2 : old.contains s = false) : globalsB old (s :: r) = globalsB (s :: old) r := by
  rw [globalsB, h, h2]; rfl
theorem count_zero_not {l : List (List UInt8)} {s : List UInt8} : l.count s = 0 → l.contains s = false := fun h => by
  rw [List.count_eq_zero] at h
  simpa using h
theorem count_pos_in {l : List (List UInt8)} {s : List UInt8} (h : l.count s ≠ 0) : l.contains s = true := by
  have := List.count_pos_iff.1 (Nat.pos_of_ne_zero h)
  simpa using this

set_option maxRecDepth 100000 in
set_option maxHeartbeats 4000000 in
theorem globals_any (l : List ByteArray) (ga : Option Addr) (gc : Nat) (w : World) (h : Gc w) (hrow : RowIs w w.heap.size ga (l.map Value.string)) (hl : l.length ≤ 140737488351232) (hs : ∀ s ∈ l, s.size ≤ 140737488351232) :
    Calls Tryz.prog 29 #[.slice ga l.length gc] w fun e w' => e = .returned (.bool (globalsB [] (l.map fun s => s.data.toList))) ∧ Below w.heap.size w w' := by
  have hm := mapNew
  have HR := Lib.hid hrow
  have HG := Lib.hid h
  have HS := Lib.hid hs
  obtain ⟨n, hn⟩ : ∃ n, l.length = n := ⟨_, rfl⟩
  have HL := Lib.hid hn
  rw [hn] at hl ⊢
  clear hrow h hs hn
  go_enter Tryz.func29, Tryz.ntmps29
  have HB0 : Hid (Below w.heap.size w (w.alloc (.map #[] 0))) := Lib.hid ((Below.refl _ _).alloc (Nat.le_refl _) _)
  have HC0 : Hid (CntAt (w.alloc (.map #[] 0)) w.heap.size 0 []) := Lib.hid (CntAt.made w)
  go_wp2_with fail
  go_loopw [9] (fun i wr => ∃ j : Nat, j ≤ n ∧ i = .int .i64 j ∧ ∃ old : List (List UInt8), old.length = j ∧ Hid (CntAt wr w.heap.size j old) ∧ Hid (Below w.heap.size w wr) ∧ Hid (globalsB old ((l.map fun s => s.data.toList).drop j) = globalsB [] (l.map fun s => s.data.toList))) (fun i _ => n - (intOf i).toNat)
  case atStart => exact ⟨0, Nat.zero_le _, rfl, [], rfl, HC0, HB0, Lib.hid rfl⟩
  case round =>
    obtain ⟨j, hj, rfl, old, hold, HC, HB, HI⟩ := hrel
    by_cases hlt : j < n
    · obtain ⟨g, o, rfl, hg, hc⟩ := HR.out.at (by rw [List.length_map, HL.out]; omega)
      obtain ⟨s, hsj⟩ : ∃ s, l[j]? = some s := ⟨_, List.getElem?_eq_getElem (by rw [HL.out]; exact hlt)⟩
      have hcell : wr.cell? ⟨g, o + j, none⟩ = some (.string s) := by
        rw [HB.out.cell (p := ⟨g, o + j, none⟩) hg]
        exact hc j _ (by rw [List.getElem?_map, hsj]; rfl)
      have hss := HS.out s (List.mem_of_getElem? hsj)
      have HD : Hid ((l.map fun s => s.data.toList).drop j = s.data.toList :: (l.map fun s => s.data.toList).drop (j + 1)) := Lib.hid (drop_cons (by rw [List.getElem?_map, hsj]; rfl))
      obtain ⟨m, hm'⟩ : ∃ m : Nat, old.count s.data.toList = m := ⟨_, rfl⟩
      have hm2 : m ≤ j := by rw [← hm', ← hold]; exact List.count_le_length
      have hk1 := HC.out.look s hss
      obtain ⟨w1, hu, hC1, hg1⟩ := HC.out.put s hss (by omega) (by omega)
      have hb1 : Below w.heap.size wr w1 := grownTo_below hg1 (Nat.le_refl _) HB.out.size
      have HB1 := Lib.hid (HB.out.trans hb1)
      have HC1 := Lib.hid hC1
      rw [hm'] at hk1 hu
      have HG1 := Lib.hid (HG.out.up HB1.out)
      have HK2 : Hid (∀ w2, Below w1.heap.size w1 w2 → (Instr.lookup 65 (.map (some w.heap.size)) (.string s) false).run Tryz.prog w2 = .ok (.int .i64 ((m + 1 : Nat) : Int)) w2) := Lib.hid fun w2 hb2 => by
        have := (HC1.out.keep hb2).look s hss
        rw [List.count_cons_self, hm'] at this
        exact this
      have HM := Lib.hid hm'
      clear hc hsj hC1 hg1 hb1 hm'
      cases hnm : nameB s with
      | false =>
        go_wp2_with (go_at_call 52; refine (named_any s w1 HG1.out hss).mono ?_; rw [hnm]; rintro e w2 ⟨rfl, hb2⟩)
        go_ret
        refine ⟨ret_bool ?_, HB1.out.trans (hb2.mono HB1.out.size)⟩
        rw [← HI.out, HD.out, globalsB_stop (.inl hnm)]
      | true =>
        by_cases hm0 : m = 0
        · subst hm0
          rw [show ((0 : Nat) : Int) + 1 = 1 from rfl] at hu
          rw [show ((0 : Nat) : Int) = 0 from rfl] at hk1
          go_wp2_with (go_at_call 52; refine (named_any s w1 HG1.out hss).mono ?_; rw [hnm]; rintro e w2 ⟨rfl, hb2⟩; have hk2 := HK2.out w2 hb2)
          go_roundw
          case rel =>
            refine ⟨j + 1, by omega, by go_num, s.data.toList :: old, by simp [hold], Lib.hid (HC1.out.keep hb2), Lib.hid (HB1.out.trans (hb2.mono HB1.out.size)), Lib.hid ?_⟩
            rw [← HI.out, HD.out, globalsB_go hnm (count_zero_not HM.out)]
          case measure => simp [intOf]; omega
        · go_wp2_with (go_at_call 52; refine (named_any s w1 HG1.out hss).mono ?_; rw [hnm]; rintro e w2 ⟨rfl, hb2⟩; have hk2 := HK2.out w2 hb2)
          go_ret
          refine ⟨ret_bool ?_, HB1.out.trans (hb2.mono HB1.out.size)⟩
          rw [← HI.out, HD.out, globalsB_stop (.inr (count_pos_in (by rw [HM.out]; exact hm0)))]
    · obtain rfl : j = n := by omega
      go_wp2_with fail
      go_ret
      refine ⟨ret_bool ?_, HB.out⟩
      rw [← HI.out, List.drop_of_length_le (by rw [List.length_map, HL.out]; exact Nat.le_refl _)]
      rfl
end Go.Proofs.YtdjbkppdppdcgaaGreatDoor
