/- guiselaw13.lent: the two rows, the copy of the names. -/
import Derived.Test.YtdjbkppdppdcgaaGreatDoorCyO
import Derived.Test.YtdjbkppdppdcgaaGreatDoorCyN
namespace Go.Proofs.YtdjbkppdppdcgaaGreatDoor
open Go.RowKit

theorem make_k {T e : TypeId} {i : TypeInfo} {z : Value} {size bytes : Nat} (ht : Tryz.prog.underlying T = some (.slice e)) (hi : Tryz.prog.info? e = some i) (hz0 : i.zero = some z) (hz1 : i.size = size) (hz2 : i.bytes = bytes) (n : Nat) (hn : bytes * (n + 2) ≤ 281474976710656) (hn2 : n ≤ 1000000) :
    ∃ cs : List Value, cs.length = (n + 2) * size ∧ ∀ W, (Instr.makeSlice T (.int .i64 ((n : Int) + 2)) (.int .i64 ((n : Int) + 2))).run Tryz.prog W = .ok (.slice (some ⟨W.heap.size, 0, none⟩) (n + 2) (n + 2)) (W.alloc (.cells cs.toArray e (0, 0))) := by
  refine ⟨(madeCells z.cells ((n + 2) * size)).toList, by rw [Array.length_toList, size_madeCells], fun W => ?_⟩
  have := run_make (P := Tryz.prog) W T e i z ht hi hz0 .i64 .i64 ((n : Int) + 2) ((n : Int) + 2) (by omega) (Int.le_refl _) (by rw [hz2]; have h2 : ((bytes * (n + 2) : Nat) : Int) ≤ 281474976710656 := (by omega); rw [Int.natCast_mul] at h2; exact h2) (by omega)
  rw [this, hz1, show ((n : Int) + 2).toNat = n + 2 by omega]
theorem strInfoC : (Tryz.prog.info? 9).map (fun i => (i.zero, i.size, i.bytes)) = some (some (.string ⟨#[]⟩), 1, 16) := by kernel_rfl
theorem named_alloc {lo : Nat} {w W : World} (hl : Below lo w W) (hlo : lo ≤ W.heap.size) (o : Obj) : ∃ Wn rn, W.alloc o = Wn ∧ W.heap.size = rn ∧ Below lo w Wn ∧ lo ≤ Wn.heap.size ∧ lo ≤ rn ∧ Wn.heap[rn]? = some o ∧ rn < Wn.heap.size ∧ ∀ k x, W.heap[k]? = some x → Wn.heap[k]? = some x ∧ k ≠ rn :=
  ⟨_, _, rfl, rfl, hl.alloc hlo o, by rw [World.size_alloc]; omega, hlo, heap_alloc_new _ _, by rw [World.size_alloc]; omega, fun k x hx => by
    have := (Array.getElem?_eq_some_iff.1 hx).1
    exact ⟨(heap_alloc_old _ _ this).trans hx, by omega⟩⟩

section
variable {w W : World} {p : Cp} {n m : Nat} {v0 v1 : Value} {pb rb ob gb fb lo k : Nat} {ys : List (Cf × Fv)}
theorem LtS.pc (h : LtS w W p n m v0 v1 pb rb ob gb fb lo k ys) : W.cell? ⟨pb, 0, none⟩ = some v0 ∧ W.cell? ⟨pb, 1, none⟩ = some v1 := by
  have c0 := cell_of_row W pb 0 _ _ _ h.hpb
  have c1 := cell_of_row W pb 1 _ _ _ h.hpb
  simp only [List.getElem?_toArray, List.getElem?_cons_zero, List.getElem?_cons_succ] at c0 c1
  exact ⟨c0, c1⟩
theorem LtS.oc (h : LtS w W p n m v0 v1 pb rb ob gb fb lo k ys) : W.cell? ⟨ob, 0, none⟩ = some (.slice (some ⟨fb, 0, none⟩) (n + 2) (n + 2)) ∧ W.cell? ⟨ob, 1, none⟩ = some (.slice (some ⟨gb, 0, none⟩) (m + 2) (m + 2)) := by
  have c0 := cell_of_row W ob 0 _ _ _ h.hob
  have c1 := cell_of_row W ob 1 _ _ _ h.hob
  simp only [List.getElem?_toArray, List.getElem?_cons_zero, List.getElem?_cons_succ] at c0 c1
  exact ⟨c0, c1⟩
theorem LtS.gc (h : LtS w W p n m v0 v1 pb rb ob gb fb lo k ys) {j : Nat} (hj : j < m + 2) : (∃ u, W.cell? ⟨gb, j, none⟩ = some u) ∧ W.frozen? ⟨gb, j, none⟩ = false := by
  obtain ⟨cs, h1, _, h2⟩ := h.hgb
  have hjl : j < cs.length := by omega
  refine ⟨⟨cs[j], (cell_of_row W gb j _ _ _ h2).trans ?_⟩, frozen_of_row W gb j _ _ h2⟩
  rw [List.getElem?_toArray]
  exact List.getElem?_eq_getElem hjl
theorem LtS.fc (h : LtS w W p n m v0 v1 pb rb ob gb fb lo k ys) {j : Nat} (hj : j < (n + 2) * 6) : (∃ u, W.cell? ⟨fb, j, none⟩ = some u) ∧ W.frozen? ⟨fb, j, none⟩ = false := by
  obtain ⟨cs, h1, _, h2⟩ := h.hfb
  have hjl : j < cs.length := by omega
  refine ⟨⟨cs[j], (cell_of_row W fb j _ _ _ h2).trans ?_⟩, frozen_of_row W fb j _ _ h2⟩
  rw [List.getElem?_toArray]
  exact List.getElem?_eq_getElem hjl
end

theorem partsN_mem {f : Cf} : ∀ {l : List Cf}, f ∈ l → f.code.length + f.taken.length ≤ partsN l
  | [], h => (nomatch h)
  | g :: l, h => by
    rw [partsN_cons]
    rcases List.mem_cons.1 h with rfl | h
    · omega
    · have := partsN_mem h; omega

theorem lent_result (tmps : Array Value) (W : World) (g : Nat) (v0 v1 : Value) (h2 : tmps.getD 2 undef = .pointer (some ⟨g, 0, none⟩)) (e0 : W.cell? ⟨g, 0, none⟩ = some v0) (e1 : W.cell? ⟨g, 1, none⟩ = some v1) :
    (results Tryz.f11 tmps).run Tryz.prog W = .ok (.agg #[v0, v1]) W := by
  have h2' : tmps[2]?.getD undef = .pointer (some ⟨g, 0, none⟩) := by simpa using h2
  have hres : Tryz.f11.results = #[ResultVar.cell 2 25] := rfl
  simp [results, go_sem, h2', e0, e1]

set_option maxRecDepth 100000 in
set_option maxHeartbeats 40000000 in
theorem lent_any {w : World} {p : Cp} {v : Value} (h : LiesC w w.heap.size p v) (hok : CpOk p) (hsm : p.globals.length + p.funcs.length + partsN p.funcs ≤ 90000) :
    Calls Tryz.prog 11 #[v] w fun e w' => ∃ u, e = .returned u ∧ LiesC w' w'.heap.size p u ∧ Below w.heap.size w w' := by
  obtain ⟨n, m, fa, fc, ga, gc, xs, rfl, hnf, hmg, hp⟩ := h.pieces
  have hn9 : n ≤ 90000 := by rw [← hp.fn]; omega
  have hm9 : m ≤ 90000 := by rw [← hp.gn]; omega
  obtain ⟨js, hjs, hjz, hjs1, hjs2⟩ := info_parts strInfoC
  obtain ⟨jf, hjf, hjz2, hjf1, hjf2⟩ := info_parts funcInfo
  obtain ⟨ji, hji, hjz3, hji1, hji2⟩ := info_parts intInfo
  obtain ⟨jx, hjx, hjz4, hjx1, hjx2⟩ := info_parts instInfo
  obtain ⟨cg, hcg, hmg2⟩ := make_k Tryz.underlying23 hjs hjz hjs1 hjs2 m (by omega) (by omega)
  obtain ⟨cf, hcf, hmf2⟩ := make_k Tryz.underlying22 hjf hjz2 hjf1 hjf2 n (by omega) (by omega)
  have HP := Lib.hid hp
  have HOK := Lib.hid hok
  have HSM := Lib.hid hsm
  have hW : ∀ X : World, X = (w.alloc (.cells #[.slice fa n fc, .slice ga m gc] 25 (0, 0))).alloc (.cells #[.slice none 0 0, .slice none 0 0] 25 (0, 0)) → Below w.heap.size w X ∧ X.heap[w.heap.size]? = some (.cells #[.slice fa n fc, .slice ga m gc] 25 (0, 0)) ∧ X.heap[w.heap.size + 1]? = some (.cells #[.slice none 0 0, .slice none 0 0] 25 (0, 0)) ∧ X.heap.size = w.heap.size + 2 := by
    rintro X rfl
    have h2 := heap_alloc_new (w.alloc (.cells #[.slice fa n fc, .slice ga m gc] 25 (0, 0))) (.cells #[.slice none 0 0, .slice none 0 0] 25 (0, 0))
    rw [World.size_alloc] at h2
    exact ⟨((Below.refl _ _).alloc (Nat.le_refl _) _).alloc (by simp) _, (heap_alloc_old _ _ (by simp)).trans (heap_alloc_new w _), h2, by simp⟩
  have HW := Lib.hid hW
  clear h hp hok hsm hW
  go_enter Tryz.func11, Tryz.ntmps11
  go_upto_region 1 with fail
  obtain ⟨hl, hpb, hrb, hsz⟩ := HW.out _ rfl
  obtain ⟨W1, hW1⟩ : ∃ W1, (w.alloc (.cells #[.slice fa n fc, .slice ga m gc] 25 (0, 0))).alloc (.cells #[.slice none 0 0, .slice none 0 0] 25 (0, 0)) = W1 := ⟨_, rfl⟩
  simp only [hW1] at hl hpb hrb hsz ⊢
  obtain ⟨pb, hpbe⟩ : ∃ pb, w.heap.size = pb := ⟨_, rfl⟩
  simp only [hpbe] at hl hpb hrb hsz ⊢
  obtain ⟨rb, hrbe⟩ : ∃ rb, pb + 1 = rb := ⟨_, rfl⟩
  simp only [hrbe] at hrb ⊢
  have hwm : IntKind.i64.wrap ((m : Int) + 2) = (m : Int) + 2 := by rw [IntKind.wrap_i64]; omega
  have hwn : IntKind.i64.wrap ((n : Int) + 2) = (n : Int) + 2 := by rw [IntKind.wrap_i64]; omega
  have hpr : pb ≠ rb := by omega
  have hple : pb ≤ rb := by omega
  clear hW1 HW
  go_cut [3] (fun s3 wx => ∃ ob gb fb cs : _, s3 = .pointer (some ⟨ob, 0, none⟩) ∧ (cs : List Value).length = (m + 2) * 1 ∧ Hid (wx.heap[gb]? = some (.cells cs.toArray 9 (0, 0))) ∧ Hid (Below pb w wx) ∧ Hid (wx.heap[pb]? = some (.cells #[.slice fa n fc, .slice ga m gc] 25 (0, 0))) ∧ Hid (wx.heap[rb]? = some (.cells #[.slice none 0 0, .slice none 0 0] 25 (0, 0))) ∧ Hid (wx.heap[ob]? = some (.cells #[.slice (some ⟨fb, 0, none⟩) (n + 2) (n + 2), .slice (some ⟨gb, 0, none⟩) (m + 2) (m + 2)] 25 (0, 0))) ∧ Hid (wx.heap[fb]? = some (.cells cf.toArray 43 (0, 0))) ∧
    Hid (pb ≤ gb ∧ pb ≤ fb ∧ pb ≤ ob ∧ pb ≠ gb ∧ pb ≠ fb ∧ rb ≠ gb ∧ rb ≠ fb ∧ ob ≠ gb ∧ ob ≠ fb ∧ gb ≠ fb ∧ ob ≠ rb ∧ ob ≠ pb))
  case first =>
    have p0 := cell_of_row W1 pb 0 _ _ _ hpb
    have p1 := cell_of_row W1 pb 1 _ _ _ hpb
    simp only [List.getElem?_toArray, List.getElem?_cons_zero, List.getElem?_cons_succ] at p0 p1
    have HB : Hid (Below pb w W1.drew) := Lib.hid ⟨hl.os, hl.tape, hl.output, hl.size, hl.block⟩
    have HXpb := Lib.hid (show W1.drew.heap[pb]? = some (.cells #[.slice fa n fc, .slice ga m gc] 25 (0, 0)) from hpb)
    have HXrb := Lib.hid (show W1.drew.heap[rb]? = some (.cells #[.slice none 0 0, .slice none 0 0] 25 (0, 0)) from hrb)
    have hle : pb ≤ W1.drew.heap.size := by show pb ≤ W1.heap.size; omega
    have p0 : W1.drew.cell? ⟨pb, 0, none⟩ = some (.slice fa n fc) := p0
    have p1 : W1.drew.cell? ⟨pb, 1, none⟩ = some (.slice ga m gc) := p1
    clear hl hpb hrb hsz
    refine wp_region_G [] (fun u => u.cell? ⟨pb, 0, none⟩ = some (.slice fa n fc) ∧ u.cell? ⟨pb, 1, none⟩ = some (.slice ga m gc)) (by rfl) ?_ (fun hHeld => ?_)
    · exact ⟨p0, p1⟩
    generalize hwd : World.drew W1 = wd at HB HXpb HXrb hle p0 p1 hHeld ⊢
    refine wpAnyG_take (i := 0) (v := ?_) rfl (by kernel_rfl) (by kernel_rfl) (by kernel_rfl) (by kernel_rfl) (by kernel_rfl) (fun _ _ _ h => h) (Or.inl ⟨by rfl, ?_⟩) (by assumption) ?_
    rotate_left
    · (intro w hSw; (try dsimp only at hSw); go_simp; try with_reducible rfl)
    try simp only [Act.put, List.getElem_toArray, List.getElem_cons_zero, List.setIfInBounds_toArray, List.set_cons_zero, List.set_cons_succ]
    refine wpAnyG_take (i := 1) (v := ?_) rfl (by kernel_rfl) (by kernel_rfl) (by kernel_rfl) (by kernel_rfl) (by kernel_rfl) (fun _ _ _ h => h) (Or.inl ⟨by rfl, ?_⟩) (by assumption) ?_
    rotate_left
    · (intro w hSw; (try dsimp only at hSw); go_simp; try with_reducible rfl)
    try simp only [Act.put, List.getElem_toArray, List.getElem_cons_zero, List.getElem_cons_succ, List.setIfInBounds_toArray, List.set_cons_zero, List.set_cons_succ]
    refine wpAnyG_take (i := 2) (v := ?_) rfl (by kernel_rfl) (by kernel_rfl) (by kernel_rfl) (by kernel_rfl) (by kernel_rfl) (fun _ _ _ h => h) (Or.inl ⟨by rfl, ?_⟩) (by assumption) ?_
    rotate_left
    · (intro w hSw; (try dsimp only at hSw); go_simp; try with_reducible rfl)
    try simp only [Act.put, List.getElem_toArray, List.getElem_cons_zero, List.getElem_cons_succ, List.setIfInBounds_toArray, List.set_cons_zero, List.set_cons_succ]
    refine wpAnyG_take (i := 3) (v := ?_) rfl (by kernel_rfl) (by kernel_rfl) (by kernel_rfl) (by kernel_rfl) (by kernel_rfl) (fun _ _ _ h => h) (Or.inl ⟨by rfl, ?_⟩) (by assumption) ?_
    rotate_left
    · (intro w hSw; (try dsimp only at hSw); go_simp; try with_reducible rfl)
    try simp only [Act.put, List.getElem_toArray, List.getElem_cons_zero, List.getElem_cons_succ, List.setIfInBounds_toArray, List.set_cons_zero, List.set_cons_succ]
    refine wpAnyG_take (i := 5) (v := ?_) rfl (by kernel_rfl) (by kernel_rfl) (by kernel_rfl) (by kernel_rfl) (by kernel_rfl) (fun _ _ _ h => h) (Or.inl ⟨by rfl, ?_⟩) (by assumption) ?_
    rotate_left
    · (intro w hSw; (try dsimp only at hSw); go_simp; try with_reducible rfl)
    try simp only [Act.put, List.getElem_toArray, List.getElem_cons_zero, List.getElem_cons_succ, List.setIfInBounds_toArray, List.set_cons_zero, List.set_cons_succ]
    refine wpAnyG_take (i := 6) (v := ?_) rfl (by kernel_rfl) (by kernel_rfl) (by kernel_rfl) (by kernel_rfl) (by kernel_rfl) (fun _ _ _ h => h) (Or.inl ⟨by rfl, ?_⟩) (by assumption) ?_
    rotate_left
    · (intro w hSw; (try dsimp only at hSw); go_simp; try with_reducible rfl)
    try simp only [Act.put, List.getElem_toArray, List.getElem_cons_zero, List.getElem_cons_succ, List.setIfInBounds_toArray, List.set_cons_zero, List.set_cons_succ]
    refine wpAnyG_take (i := 7) (v := ?_) rfl (by kernel_rfl) (by kernel_rfl) (by kernel_rfl) (by kernel_rfl) (by kernel_rfl) (fun _ _ _ h => h) (Or.inl ⟨by rfl, ?_⟩) (by assumption) ?_
    rotate_left
    · (intro w hSw; (try dsimp only at hSw); go_simp; try with_reducible rfl)
    try simp only [Act.put, List.getElem_toArray, List.getElem_cons_zero, List.getElem_cons_succ, List.setIfInBounds_toArray, List.set_cons_zero, List.set_cons_succ]
    refine wpAnyG_take (i := 8) (v := ?_) rfl (by kernel_rfl) (by kernel_rfl) (by kernel_rfl) (by kernel_rfl) (by kernel_rfl) (fun _ _ _ h => h) (Or.inl ⟨by rfl, ?_⟩) (by assumption) ?_
    rotate_left
    · (intro w hSw; (try dsimp only at hSw); go_simp; try with_reducible rfl)
    try simp only [Act.put, List.getElem_toArray, List.getElem_cons_zero, List.getElem_cons_succ, List.setIfInBounds_toArray, List.set_cons_zero, List.set_cons_succ]
    refine wpAnyG_ready (rs := [4, 9, 11]) (by kernel_rfl) (by simp) ?_
    refine AllReadyG.cons rfl (fun KK hKK => ?_) (AllReadyG.cons rfl (fun KK hKK => ?_) (AllReadyG.cons rfl (fun KK hKK => ?_) AllReadyG.nil))
    · go_simp
      obtain ⟨wn, gb, eW, eA, hB, hle, hlgb, hX, hlt, hk⟩ := named_alloc HB.out hle (.cells cg.toArray 9 (0, 0))
      simp only [eW, eA]
      clear eW eA
      have HXgb := Lib.hid hX
      have hnpbgb := (hk _ _ HXpb.out).2
      have HXpb := Lib.hid (hk _ _ HXpb.out).1
      have hnrbgb := (hk _ _ HXrb.out).2
      have HXrb := Lib.hid (hk _ _ HXrb.out).1
      have HB := Lib.hid hB
      clear hB hX hk
      have p0 := cell_of_row _ pb 0 _ _ _ HXpb.out
      have p1 := cell_of_row _ pb 1 _ _ _ HXpb.out
      simp only [List.getElem?_toArray, List.getElem?_cons_zero, List.getElem?_cons_succ] at p0 p1
      refine hKK.out _ _ (⟨p0, p1⟩) (fun hHeld => ?_)
      clear hKK KK
      try simp only [Act.put, List.getElem_toArray, List.getElem_cons_zero, List.getElem_cons_succ, List.setIfInBounds_toArray, List.set_cons_zero, List.set_cons_succ]
      refine wpAnyG_ready (rs := [9, 11]) (by kernel_rfl) (by simp) ?_
      refine AllReadyG.cons rfl (fun KK hKK => ?_) (AllReadyG.cons rfl (fun KK hKK => ?_) AllReadyG.nil)
      · go_simp
        obtain ⟨wn, fb, eW, eA, hB, hle, hlfb, hX, hlt, hk⟩ := named_alloc HB.out hle (.cells cf.toArray 43 (0, 0))
        simp only [eW, eA]
        clear eW eA
        have HXfb := Lib.hid hX
        have hnpbfb := (hk _ _ HXpb.out).2
        have HXpb := Lib.hid (hk _ _ HXpb.out).1
        have hnrbfb := (hk _ _ HXrb.out).2
        have HXrb := Lib.hid (hk _ _ HXrb.out).1
        have hngbfb := (hk _ _ HXgb.out).2
        have HXgb := Lib.hid (hk _ _ HXgb.out).1
        have HB := Lib.hid hB
        clear hB hX hk
        have p0 := cell_of_row _ pb 0 _ _ _ HXpb.out
        have p1 := cell_of_row _ pb 1 _ _ _ HXpb.out
        simp only [List.getElem?_toArray, List.getElem?_cons_zero, List.getElem?_cons_succ] at p0 p1
        refine hKK.out _ _ (⟨p0, p1⟩) (fun hHeld => ?_)
        clear hKK KK
        try simp only [Act.put, List.getElem_toArray, List.getElem_cons_zero, List.getElem_cons_succ, List.setIfInBounds_toArray, List.set_cons_zero, List.set_cons_succ]
        refine wpAnyG_take (i := 10) (v := ?_) rfl (by kernel_rfl) (by kernel_rfl) (by kernel_rfl) (by kernel_rfl) (by kernel_rfl) (fun _ _ _ h => h) (Or.inl ⟨by rfl, ?_⟩) (by assumption) ?_
        rotate_left
        · (intro w hSw; (try dsimp only at hSw); go_simp; try with_reducible rfl)
        try simp only [Act.put, List.getElem_toArray, List.getElem_cons_zero, List.getElem_cons_succ, List.setIfInBounds_toArray, List.set_cons_zero, List.set_cons_succ]
        refine wpAnyG_ready (rs := [11]) (by kernel_rfl) (by simp) ?_
        refine AllReadyG.cons rfl (fun KK hKK => ?_) AllReadyG.nil
        go_simp
        obtain ⟨wn, ob, eW, eA, hB, hle, hlob, hX, hlt, hk⟩ := named_alloc HB.out hle (.cells #[.slice none 0 0, .slice none 0 0] 25 (0, 0))
        simp only [eW, eA]
        clear eW eA
        have HXob := Lib.hid hX
        have hnpbob := (hk _ _ HXpb.out).2
        have HXpb := Lib.hid (hk _ _ HXpb.out).1
        have hnrbob := (hk _ _ HXrb.out).2
        have HXrb := Lib.hid (hk _ _ HXrb.out).1
        have hngbob := (hk _ _ HXgb.out).2
        have HXgb := Lib.hid (hk _ _ HXgb.out).1
        have hnfbob := (hk _ _ HXfb.out).2
        have HXfb := Lib.hid (hk _ _ HXfb.out).1
        have HB := Lib.hid hB
        clear hB hX hk
        have p0 := cell_of_row _ pb 0 _ _ _ HXpb.out
        have p1 := cell_of_row _ pb 1 _ _ _ HXpb.out
        simp only [List.getElem?_toArray, List.getElem?_cons_zero, List.getElem?_cons_succ] at p0 p1
        refine hKK.out _ _ (⟨p0, p1⟩) (fun hHeld => ?_)
        clear hKK KK
        try simp only [Act.put, List.getElem_toArray, List.getElem_cons_zero, List.getElem_cons_succ, List.setIfInBounds_toArray, List.set_cons_zero, List.set_cons_succ]
        refine wpAnyG_ready (rs := [12]) (by kernel_rfl) (by simp) ?_
        refine AllReadyG.cons rfl (fun KK hKK => ?_) AllReadyG.nil
        have o0 := cell_of_row _ ob 0 _ _ _ HXob.out
        have o1 := cell_of_row _ ob 1 _ _ _ HXob.out
        have of0 := frozen_of_row _ ob 0 _ _ HXob.out
        have of1 := frozen_of_row _ ob 1 _ _ HXob.out
        simp only [List.getElem?_toArray, List.getElem?_cons_zero, List.getElem?_cons_succ] at o0 o1
        go_simp
        refine hKK.out _ _ (⟨set_other (set_other p0 hnpbob) hnpbob, set_other (set_other p1 hnpbob) hnpbob⟩) (fun hHeld => ?_)
        clear hKK KK
        try simp only [Act.put, List.getElem_toArray, List.getElem_cons_zero, List.getElem_cons_succ, List.setIfInBounds_toArray, List.set_cons_zero, List.set_cons_succ]
        refine wpAnyG_done (by kernel_rfl) ?_ _
        have hset : ∀ k, k ≠ ob → ∀ u v : Value, ((wn.setCell ⟨ob, 0, none⟩ u).setCell ⟨ob, 1, none⟩ v).heap[k]? = wn.heap[k]? := fun k hk u v => (Below.heap_setCell _ _ _ _ hk).trans (Below.heap_setCell _ _ _ _ hk)
        try go_wp2_with fail
        go_meet
        exact ⟨ob, gb, fb, cg, rfl, hcg, Lib.hid ((hset _ (by omega) _ _).trans HXgb.out), Lib.hid ((HB.out.setCell hlob _).setCell hlob _), Lib.hid ((hset _ (by omega) _ _).trans HXpb.out), Lib.hid ((hset _ (by omega) _ _).trans HXrb.out), Lib.hid (heap_setCell_same _ _ 1 _ _ _ (heap_setCell_same _ _ 0 _ _ _ HXob.out)), Lib.hid ((hset _ (by omega) _ _).trans HXfb.out), Lib.hid (by omega)⟩
      · go_simp
        obtain ⟨wn, ob, eW, eA, hB, hle, hlob, hX, hlt, hk⟩ := named_alloc HB.out hle (.cells #[.slice none 0 0, .slice none 0 0] 25 (0, 0))
        simp only [eW, eA]
        clear eW eA
        have HXob := Lib.hid hX
        have hnpbob := (hk _ _ HXpb.out).2
        have HXpb := Lib.hid (hk _ _ HXpb.out).1
        have hnrbob := (hk _ _ HXrb.out).2
        have HXrb := Lib.hid (hk _ _ HXrb.out).1
        have hngbob := (hk _ _ HXgb.out).2
        have HXgb := Lib.hid (hk _ _ HXgb.out).1
        have HB := Lib.hid hB
        clear hB hX hk
        have p0 := cell_of_row _ pb 0 _ _ _ HXpb.out
        have p1 := cell_of_row _ pb 1 _ _ _ HXpb.out
        simp only [List.getElem?_toArray, List.getElem?_cons_zero, List.getElem?_cons_succ] at p0 p1
        refine hKK.out _ _ (⟨p0, p1⟩) (fun hHeld => ?_)
        clear hKK KK
        try simp only [Act.put, List.getElem_toArray, List.getElem_cons_zero, List.getElem_cons_succ, List.setIfInBounds_toArray, List.set_cons_zero, List.set_cons_succ]
        refine wpAnyG_ready (rs := [9]) (by kernel_rfl) (by simp) ?_
        refine AllReadyG.cons rfl (fun KK hKK => ?_) AllReadyG.nil
        go_simp
        obtain ⟨wn, fb, eW, eA, hB, hle, hlfb, hX, hlt, hk⟩ := named_alloc HB.out hle (.cells cf.toArray 43 (0, 0))
        simp only [eW, eA]
        clear eW eA
        have HXfb := Lib.hid hX
        have hnpbfb := (hk _ _ HXpb.out).2
        have HXpb := Lib.hid (hk _ _ HXpb.out).1
        have hnrbfb := (hk _ _ HXrb.out).2
        have HXrb := Lib.hid (hk _ _ HXrb.out).1
        have hngbfb := (hk _ _ HXgb.out).2
        have HXgb := Lib.hid (hk _ _ HXgb.out).1
        have hnobfb := (hk _ _ HXob.out).2
        have HXob := Lib.hid (hk _ _ HXob.out).1
        have HB := Lib.hid hB
        clear hB hX hk
        have p0 := cell_of_row _ pb 0 _ _ _ HXpb.out
        have p1 := cell_of_row _ pb 1 _ _ _ HXpb.out
        simp only [List.getElem?_toArray, List.getElem?_cons_zero, List.getElem?_cons_succ] at p0 p1
        refine hKK.out _ _ (⟨p0, p1⟩) (fun hHeld => ?_)
        clear hKK KK
        try simp only [Act.put, List.getElem_toArray, List.getElem_cons_zero, List.getElem_cons_succ, List.setIfInBounds_toArray, List.set_cons_zero, List.set_cons_succ]
        refine wpAnyG_take (i := 10) (v := ?_) rfl (by kernel_rfl) (by kernel_rfl) (by kernel_rfl) (by kernel_rfl) (by kernel_rfl) (fun _ _ _ h => h) (Or.inl ⟨by rfl, ?_⟩) (by assumption) ?_
        rotate_left
        · (intro w hSw; (try dsimp only at hSw); go_simp; try with_reducible rfl)
        try simp only [Act.put, List.getElem_toArray, List.getElem_cons_zero, List.getElem_cons_succ, List.setIfInBounds_toArray, List.set_cons_zero, List.set_cons_succ]
        refine wpAnyG_ready (rs := [12]) (by kernel_rfl) (by simp) ?_
        refine AllReadyG.cons rfl (fun KK hKK => ?_) AllReadyG.nil
        have o0 := cell_of_row _ ob 0 _ _ _ HXob.out
        have o1 := cell_of_row _ ob 1 _ _ _ HXob.out
        have of0 := frozen_of_row _ ob 0 _ _ HXob.out
        have of1 := frozen_of_row _ ob 1 _ _ HXob.out
        simp only [List.getElem?_toArray, List.getElem?_cons_zero, List.getElem?_cons_succ] at o0 o1
        go_simp
        refine hKK.out _ _ (⟨set_other (set_other p0 hnpbob) hnpbob, set_other (set_other p1 hnpbob) hnpbob⟩) (fun hHeld => ?_)
        clear hKK KK
        try simp only [Act.put, List.getElem_toArray, List.getElem_cons_zero, List.getElem_cons_succ, List.setIfInBounds_toArray, List.set_cons_zero, List.set_cons_succ]
        refine wpAnyG_done (by kernel_rfl) ?_ _
        have hset : ∀ k, k ≠ ob → ∀ u v : Value, ((wn.setCell ⟨ob, 0, none⟩ u).setCell ⟨ob, 1, none⟩ v).heap[k]? = wn.heap[k]? := fun k hk u v => (Below.heap_setCell _ _ _ _ hk).trans (Below.heap_setCell _ _ _ _ hk)
        try go_wp2_with fail
        go_meet
        exact ⟨ob, gb, fb, cg, rfl, hcg, Lib.hid ((hset _ (by omega) _ _).trans HXgb.out), Lib.hid ((HB.out.setCell hlob _).setCell hlob _), Lib.hid ((hset _ (by omega) _ _).trans HXpb.out), Lib.hid ((hset _ (by omega) _ _).trans HXrb.out), Lib.hid (heap_setCell_same _ _ 1 _ _ _ (heap_setCell_same _ _ 0 _ _ _ HXob.out)), Lib.hid ((hset _ (by omega) _ _).trans HXfb.out), Lib.hid (by omega)⟩
    · go_simp
      obtain ⟨wn, fb, eW, eA, hB, hle, hlfb, hX, hlt, hk⟩ := named_alloc HB.out hle (.cells cf.toArray 43 (0, 0))
      simp only [eW, eA]
      clear eW eA
      have HXfb := Lib.hid hX
      have hnpbfb := (hk _ _ HXpb.out).2
      have HXpb := Lib.hid (hk _ _ HXpb.out).1
      have hnrbfb := (hk _ _ HXrb.out).2
      have HXrb := Lib.hid (hk _ _ HXrb.out).1
      have HB := Lib.hid hB
      clear hB hX hk
      have p0 := cell_of_row _ pb 0 _ _ _ HXpb.out
      have p1 := cell_of_row _ pb 1 _ _ _ HXpb.out
      simp only [List.getElem?_toArray, List.getElem?_cons_zero, List.getElem?_cons_succ] at p0 p1
      refine hKK.out _ _ (⟨p0, p1⟩) (fun hHeld => ?_)
      clear hKK KK
      try simp only [Act.put, List.getElem_toArray, List.getElem_cons_zero, List.getElem_cons_succ, List.setIfInBounds_toArray, List.set_cons_zero, List.set_cons_succ]
      refine wpAnyG_ready (rs := [4, 11]) (by kernel_rfl) (by simp) ?_
      refine AllReadyG.cons rfl (fun KK hKK => ?_) (AllReadyG.cons rfl (fun KK hKK => ?_) AllReadyG.nil)
      · go_simp
        obtain ⟨wn, gb, eW, eA, hB, hle, hlgb, hX, hlt, hk⟩ := named_alloc HB.out hle (.cells cg.toArray 9 (0, 0))
        simp only [eW, eA]
        clear eW eA
        have HXgb := Lib.hid hX
        have hnpbgb := (hk _ _ HXpb.out).2
        have HXpb := Lib.hid (hk _ _ HXpb.out).1
        have hnrbgb := (hk _ _ HXrb.out).2
        have HXrb := Lib.hid (hk _ _ HXrb.out).1
        have hnfbgb := (hk _ _ HXfb.out).2
        have HXfb := Lib.hid (hk _ _ HXfb.out).1
        have HB := Lib.hid hB
        clear hB hX hk
        have p0 := cell_of_row _ pb 0 _ _ _ HXpb.out
        have p1 := cell_of_row _ pb 1 _ _ _ HXpb.out
        simp only [List.getElem?_toArray, List.getElem?_cons_zero, List.getElem?_cons_succ] at p0 p1
        refine hKK.out _ _ (⟨p0, p1⟩) (fun hHeld => ?_)
        clear hKK KK
        try simp only [Act.put, List.getElem_toArray, List.getElem_cons_zero, List.getElem_cons_succ, List.setIfInBounds_toArray, List.set_cons_zero, List.set_cons_succ]
        refine wpAnyG_take (i := 10) (v := ?_) rfl (by kernel_rfl) (by kernel_rfl) (by kernel_rfl) (by kernel_rfl) (by kernel_rfl) (fun _ _ _ h => h) (Or.inl ⟨by rfl, ?_⟩) (by assumption) ?_
        rotate_left
        · (intro w hSw; (try dsimp only at hSw); go_simp; try with_reducible rfl)
        try simp only [Act.put, List.getElem_toArray, List.getElem_cons_zero, List.getElem_cons_succ, List.setIfInBounds_toArray, List.set_cons_zero, List.set_cons_succ]
        refine wpAnyG_ready (rs := [11]) (by kernel_rfl) (by simp) ?_
        refine AllReadyG.cons rfl (fun KK hKK => ?_) AllReadyG.nil
        go_simp
        obtain ⟨wn, ob, eW, eA, hB, hle, hlob, hX, hlt, hk⟩ := named_alloc HB.out hle (.cells #[.slice none 0 0, .slice none 0 0] 25 (0, 0))
        simp only [eW, eA]
        clear eW eA
        have HXob := Lib.hid hX
        have hnpbob := (hk _ _ HXpb.out).2
        have HXpb := Lib.hid (hk _ _ HXpb.out).1
        have hnrbob := (hk _ _ HXrb.out).2
        have HXrb := Lib.hid (hk _ _ HXrb.out).1
        have hnfbob := (hk _ _ HXfb.out).2
        have HXfb := Lib.hid (hk _ _ HXfb.out).1
        have hngbob := (hk _ _ HXgb.out).2
        have HXgb := Lib.hid (hk _ _ HXgb.out).1
        have HB := Lib.hid hB
        clear hB hX hk
        have p0 := cell_of_row _ pb 0 _ _ _ HXpb.out
        have p1 := cell_of_row _ pb 1 _ _ _ HXpb.out
        simp only [List.getElem?_toArray, List.getElem?_cons_zero, List.getElem?_cons_succ] at p0 p1
        refine hKK.out _ _ (⟨p0, p1⟩) (fun hHeld => ?_)
        clear hKK KK
        try simp only [Act.put, List.getElem_toArray, List.getElem_cons_zero, List.getElem_cons_succ, List.setIfInBounds_toArray, List.set_cons_zero, List.set_cons_succ]
        refine wpAnyG_ready (rs := [12]) (by kernel_rfl) (by simp) ?_
        refine AllReadyG.cons rfl (fun KK hKK => ?_) AllReadyG.nil
        have o0 := cell_of_row _ ob 0 _ _ _ HXob.out
        have o1 := cell_of_row _ ob 1 _ _ _ HXob.out
        have of0 := frozen_of_row _ ob 0 _ _ HXob.out
        have of1 := frozen_of_row _ ob 1 _ _ HXob.out
        simp only [List.getElem?_toArray, List.getElem?_cons_zero, List.getElem?_cons_succ] at o0 o1
        go_simp
        refine hKK.out _ _ (⟨set_other (set_other p0 hnpbob) hnpbob, set_other (set_other p1 hnpbob) hnpbob⟩) (fun hHeld => ?_)
        clear hKK KK
        try simp only [Act.put, List.getElem_toArray, List.getElem_cons_zero, List.getElem_cons_succ, List.setIfInBounds_toArray, List.set_cons_zero, List.set_cons_succ]
        refine wpAnyG_done (by kernel_rfl) ?_ _
        have hset : ∀ k, k ≠ ob → ∀ u v : Value, ((wn.setCell ⟨ob, 0, none⟩ u).setCell ⟨ob, 1, none⟩ v).heap[k]? = wn.heap[k]? := fun k hk u v => (Below.heap_setCell _ _ _ _ hk).trans (Below.heap_setCell _ _ _ _ hk)
        try go_wp2_with fail
        go_meet
        exact ⟨ob, gb, fb, cg, rfl, hcg, Lib.hid ((hset _ (by omega) _ _).trans HXgb.out), Lib.hid ((HB.out.setCell hlob _).setCell hlob _), Lib.hid ((hset _ (by omega) _ _).trans HXpb.out), Lib.hid ((hset _ (by omega) _ _).trans HXrb.out), Lib.hid (heap_setCell_same _ _ 1 _ _ _ (heap_setCell_same _ _ 0 _ _ _ HXob.out)), Lib.hid ((hset _ (by omega) _ _).trans HXfb.out), Lib.hid (by omega)⟩
      · go_simp
        obtain ⟨wn, ob, eW, eA, hB, hle, hlob, hX, hlt, hk⟩ := named_alloc HB.out hle (.cells #[.slice none 0 0, .slice none 0 0] 25 (0, 0))
        simp only [eW, eA]
        clear eW eA
        have HXob := Lib.hid hX
        have hnpbob := (hk _ _ HXpb.out).2
        have HXpb := Lib.hid (hk _ _ HXpb.out).1
        have hnrbob := (hk _ _ HXrb.out).2
        have HXrb := Lib.hid (hk _ _ HXrb.out).1
        have hnfbob := (hk _ _ HXfb.out).2
        have HXfb := Lib.hid (hk _ _ HXfb.out).1
        have HB := Lib.hid hB
        clear hB hX hk
        have p0 := cell_of_row _ pb 0 _ _ _ HXpb.out
        have p1 := cell_of_row _ pb 1 _ _ _ HXpb.out
        simp only [List.getElem?_toArray, List.getElem?_cons_zero, List.getElem?_cons_succ] at p0 p1
        refine hKK.out _ _ (⟨p0, p1⟩) (fun hHeld => ?_)
        clear hKK KK
        try simp only [Act.put, List.getElem_toArray, List.getElem_cons_zero, List.getElem_cons_succ, List.setIfInBounds_toArray, List.set_cons_zero, List.set_cons_succ]
        refine wpAnyG_ready (rs := [4]) (by kernel_rfl) (by simp) ?_
        refine AllReadyG.cons rfl (fun KK hKK => ?_) AllReadyG.nil
        go_simp
        obtain ⟨wn, gb, eW, eA, hB, hle, hlgb, hX, hlt, hk⟩ := named_alloc HB.out hle (.cells cg.toArray 9 (0, 0))
        simp only [eW, eA]
        clear eW eA
        have HXgb := Lib.hid hX
        have hnpbgb := (hk _ _ HXpb.out).2
        have HXpb := Lib.hid (hk _ _ HXpb.out).1
        have hnrbgb := (hk _ _ HXrb.out).2
        have HXrb := Lib.hid (hk _ _ HXrb.out).1
        have hnfbgb := (hk _ _ HXfb.out).2
        have HXfb := Lib.hid (hk _ _ HXfb.out).1
        have hnobgb := (hk _ _ HXob.out).2
        have HXob := Lib.hid (hk _ _ HXob.out).1
        have HB := Lib.hid hB
        clear hB hX hk
        have p0 := cell_of_row _ pb 0 _ _ _ HXpb.out
        have p1 := cell_of_row _ pb 1 _ _ _ HXpb.out
        simp only [List.getElem?_toArray, List.getElem?_cons_zero, List.getElem?_cons_succ] at p0 p1
        refine hKK.out _ _ (⟨p0, p1⟩) (fun hHeld => ?_)
        clear hKK KK
        try simp only [Act.put, List.getElem_toArray, List.getElem_cons_zero, List.getElem_cons_succ, List.setIfInBounds_toArray, List.set_cons_zero, List.set_cons_succ]
        refine wpAnyG_take (i := 10) (v := ?_) rfl (by kernel_rfl) (by kernel_rfl) (by kernel_rfl) (by kernel_rfl) (by kernel_rfl) (fun _ _ _ h => h) (Or.inl ⟨by rfl, ?_⟩) (by assumption) ?_
        rotate_left
        · (intro w hSw; (try dsimp only at hSw); go_simp; try with_reducible rfl)
        try simp only [Act.put, List.getElem_toArray, List.getElem_cons_zero, List.getElem_cons_succ, List.setIfInBounds_toArray, List.set_cons_zero, List.set_cons_succ]
        refine wpAnyG_ready (rs := [12]) (by kernel_rfl) (by simp) ?_
        refine AllReadyG.cons rfl (fun KK hKK => ?_) AllReadyG.nil
        have o0 := cell_of_row _ ob 0 _ _ _ HXob.out
        have o1 := cell_of_row _ ob 1 _ _ _ HXob.out
        have of0 := frozen_of_row _ ob 0 _ _ HXob.out
        have of1 := frozen_of_row _ ob 1 _ _ HXob.out
        simp only [List.getElem?_toArray, List.getElem?_cons_zero, List.getElem?_cons_succ] at o0 o1
        go_simp
        refine hKK.out _ _ (⟨set_other (set_other p0 hnpbob) hnpbob, set_other (set_other p1 hnpbob) hnpbob⟩) (fun hHeld => ?_)
        clear hKK KK
        try simp only [Act.put, List.getElem_toArray, List.getElem_cons_zero, List.getElem_cons_succ, List.setIfInBounds_toArray, List.set_cons_zero, List.set_cons_succ]
        refine wpAnyG_done (by kernel_rfl) ?_ _
        have hset : ∀ k, k ≠ ob → ∀ u v : Value, ((wn.setCell ⟨ob, 0, none⟩ u).setCell ⟨ob, 1, none⟩ v).heap[k]? = wn.heap[k]? := fun k hk u v => (Below.heap_setCell _ _ _ _ hk).trans (Below.heap_setCell _ _ _ _ hk)
        try go_wp2_with fail
        go_meet
        exact ⟨ob, gb, fb, cg, rfl, hcg, Lib.hid ((hset _ (by omega) _ _).trans HXgb.out), Lib.hid ((HB.out.setCell hlob _).setCell hlob _), Lib.hid ((hset _ (by omega) _ _).trans HXpb.out), Lib.hid ((hset _ (by omega) _ _).trans HXrb.out), Lib.hid (heap_setCell_same _ _ 1 _ _ _ (heap_setCell_same _ _ 0 _ _ _ HXob.out)), Lib.hid ((hset _ (by omega) _ _).trans HXfb.out), Lib.hid (by omega)⟩
    · go_simp
      obtain ⟨wn, ob, eW, eA, hB, hle, hlob, hX, hlt, hk⟩ := named_alloc HB.out hle (.cells #[.slice none 0 0, .slice none 0 0] 25 (0, 0))
      simp only [eW, eA]
      clear eW eA
      have HXob := Lib.hid hX
      have hnpbob := (hk _ _ HXpb.out).2
      have HXpb := Lib.hid (hk _ _ HXpb.out).1
      have hnrbob := (hk _ _ HXrb.out).2
      have HXrb := Lib.hid (hk _ _ HXrb.out).1
      have HB := Lib.hid hB
      clear hB hX hk
      have p0 := cell_of_row _ pb 0 _ _ _ HXpb.out
      have p1 := cell_of_row _ pb 1 _ _ _ HXpb.out
      simp only [List.getElem?_toArray, List.getElem?_cons_zero, List.getElem?_cons_succ] at p0 p1
      refine hKK.out _ _ (⟨p0, p1⟩) (fun hHeld => ?_)
      clear hKK KK
      try simp only [Act.put, List.getElem_toArray, List.getElem_cons_zero, List.getElem_cons_succ, List.setIfInBounds_toArray, List.set_cons_zero, List.set_cons_succ]
      refine wpAnyG_ready (rs := [4, 9]) (by kernel_rfl) (by simp) ?_
      refine AllReadyG.cons rfl (fun KK hKK => ?_) (AllReadyG.cons rfl (fun KK hKK => ?_) AllReadyG.nil)
      · go_simp
        obtain ⟨wn, gb, eW, eA, hB, hle, hlgb, hX, hlt, hk⟩ := named_alloc HB.out hle (.cells cg.toArray 9 (0, 0))
        simp only [eW, eA]
        clear eW eA
        have HXgb := Lib.hid hX
        have hnpbgb := (hk _ _ HXpb.out).2
        have HXpb := Lib.hid (hk _ _ HXpb.out).1
        have hnrbgb := (hk _ _ HXrb.out).2
        have HXrb := Lib.hid (hk _ _ HXrb.out).1
        have hnobgb := (hk _ _ HXob.out).2
        have HXob := Lib.hid (hk _ _ HXob.out).1
        have HB := Lib.hid hB
        clear hB hX hk
        have p0 := cell_of_row _ pb 0 _ _ _ HXpb.out
        have p1 := cell_of_row _ pb 1 _ _ _ HXpb.out
        simp only [List.getElem?_toArray, List.getElem?_cons_zero, List.getElem?_cons_succ] at p0 p1
        refine hKK.out _ _ (⟨p0, p1⟩) (fun hHeld => ?_)
        clear hKK KK
        try simp only [Act.put, List.getElem_toArray, List.getElem_cons_zero, List.getElem_cons_succ, List.setIfInBounds_toArray, List.set_cons_zero, List.set_cons_succ]
        refine wpAnyG_ready (rs := [9]) (by kernel_rfl) (by simp) ?_
        refine AllReadyG.cons rfl (fun KK hKK => ?_) AllReadyG.nil
        go_simp
        obtain ⟨wn, fb, eW, eA, hB, hle, hlfb, hX, hlt, hk⟩ := named_alloc HB.out hle (.cells cf.toArray 43 (0, 0))
        simp only [eW, eA]
        clear eW eA
        have HXfb := Lib.hid hX
        have hnpbfb := (hk _ _ HXpb.out).2
        have HXpb := Lib.hid (hk _ _ HXpb.out).1
        have hnrbfb := (hk _ _ HXrb.out).2
        have HXrb := Lib.hid (hk _ _ HXrb.out).1
        have hnobfb := (hk _ _ HXob.out).2
        have HXob := Lib.hid (hk _ _ HXob.out).1
        have hngbfb := (hk _ _ HXgb.out).2
        have HXgb := Lib.hid (hk _ _ HXgb.out).1
        have HB := Lib.hid hB
        clear hB hX hk
        have p0 := cell_of_row _ pb 0 _ _ _ HXpb.out
        have p1 := cell_of_row _ pb 1 _ _ _ HXpb.out
        simp only [List.getElem?_toArray, List.getElem?_cons_zero, List.getElem?_cons_succ] at p0 p1
        refine hKK.out _ _ (⟨p0, p1⟩) (fun hHeld => ?_)
        clear hKK KK
        try simp only [Act.put, List.getElem_toArray, List.getElem_cons_zero, List.getElem_cons_succ, List.setIfInBounds_toArray, List.set_cons_zero, List.set_cons_succ]
        refine wpAnyG_take (i := 10) (v := ?_) rfl (by kernel_rfl) (by kernel_rfl) (by kernel_rfl) (by kernel_rfl) (by kernel_rfl) (fun _ _ _ h => h) (Or.inl ⟨by rfl, ?_⟩) (by assumption) ?_
        rotate_left
        · (intro w hSw; (try dsimp only at hSw); go_simp; try with_reducible rfl)
        try simp only [Act.put, List.getElem_toArray, List.getElem_cons_zero, List.getElem_cons_succ, List.setIfInBounds_toArray, List.set_cons_zero, List.set_cons_succ]
        refine wpAnyG_ready (rs := [12]) (by kernel_rfl) (by simp) ?_
        refine AllReadyG.cons rfl (fun KK hKK => ?_) AllReadyG.nil
        have o0 := cell_of_row _ ob 0 _ _ _ HXob.out
        have o1 := cell_of_row _ ob 1 _ _ _ HXob.out
        have of0 := frozen_of_row _ ob 0 _ _ HXob.out
        have of1 := frozen_of_row _ ob 1 _ _ HXob.out
        simp only [List.getElem?_toArray, List.getElem?_cons_zero, List.getElem?_cons_succ] at o0 o1
        go_simp
        refine hKK.out _ _ (⟨set_other (set_other p0 hnpbob) hnpbob, set_other (set_other p1 hnpbob) hnpbob⟩) (fun hHeld => ?_)
        clear hKK KK
        try simp only [Act.put, List.getElem_toArray, List.getElem_cons_zero, List.getElem_cons_succ, List.setIfInBounds_toArray, List.set_cons_zero, List.set_cons_succ]
        refine wpAnyG_done (by kernel_rfl) ?_ _
        have hset : ∀ k, k ≠ ob → ∀ u v : Value, ((wn.setCell ⟨ob, 0, none⟩ u).setCell ⟨ob, 1, none⟩ v).heap[k]? = wn.heap[k]? := fun k hk u v => (Below.heap_setCell _ _ _ _ hk).trans (Below.heap_setCell _ _ _ _ hk)
        try go_wp2_with fail
        go_meet
        exact ⟨ob, gb, fb, cg, rfl, hcg, Lib.hid ((hset _ (by omega) _ _).trans HXgb.out), Lib.hid ((HB.out.setCell hlob _).setCell hlob _), Lib.hid ((hset _ (by omega) _ _).trans HXpb.out), Lib.hid ((hset _ (by omega) _ _).trans HXrb.out), Lib.hid (heap_setCell_same _ _ 1 _ _ _ (heap_setCell_same _ _ 0 _ _ _ HXob.out)), Lib.hid ((hset _ (by omega) _ _).trans HXfb.out), Lib.hid (by omega)⟩
      · go_simp
        obtain ⟨wn, fb, eW, eA, hB, hle, hlfb, hX, hlt, hk⟩ := named_alloc HB.out hle (.cells cf.toArray 43 (0, 0))
        simp only [eW, eA]
        clear eW eA
        have HXfb := Lib.hid hX
        have hnpbfb := (hk _ _ HXpb.out).2
        have HXpb := Lib.hid (hk _ _ HXpb.out).1
        have hnrbfb := (hk _ _ HXrb.out).2
        have HXrb := Lib.hid (hk _ _ HXrb.out).1
        have hnobfb := (hk _ _ HXob.out).2
        have HXob := Lib.hid (hk _ _ HXob.out).1
        have HB := Lib.hid hB
        clear hB hX hk
        have p0 := cell_of_row _ pb 0 _ _ _ HXpb.out
        have p1 := cell_of_row _ pb 1 _ _ _ HXpb.out
        simp only [List.getElem?_toArray, List.getElem?_cons_zero, List.getElem?_cons_succ] at p0 p1
        refine hKK.out _ _ (⟨p0, p1⟩) (fun hHeld => ?_)
        clear hKK KK
        try simp only [Act.put, List.getElem_toArray, List.getElem_cons_zero, List.getElem_cons_succ, List.setIfInBounds_toArray, List.set_cons_zero, List.set_cons_succ]
        refine wpAnyG_ready (rs := [4]) (by kernel_rfl) (by simp) ?_
        refine AllReadyG.cons rfl (fun KK hKK => ?_) AllReadyG.nil
        go_simp
        obtain ⟨wn, gb, eW, eA, hB, hle, hlgb, hX, hlt, hk⟩ := named_alloc HB.out hle (.cells cg.toArray 9 (0, 0))
        simp only [eW, eA]
        clear eW eA
        have HXgb := Lib.hid hX
        have hnpbgb := (hk _ _ HXpb.out).2
        have HXpb := Lib.hid (hk _ _ HXpb.out).1
        have hnrbgb := (hk _ _ HXrb.out).2
        have HXrb := Lib.hid (hk _ _ HXrb.out).1
        have hnobgb := (hk _ _ HXob.out).2
        have HXob := Lib.hid (hk _ _ HXob.out).1
        have hnfbgb := (hk _ _ HXfb.out).2
        have HXfb := Lib.hid (hk _ _ HXfb.out).1
        have HB := Lib.hid hB
        clear hB hX hk
        have p0 := cell_of_row _ pb 0 _ _ _ HXpb.out
        have p1 := cell_of_row _ pb 1 _ _ _ HXpb.out
        simp only [List.getElem?_toArray, List.getElem?_cons_zero, List.getElem?_cons_succ] at p0 p1
        refine hKK.out _ _ (⟨p0, p1⟩) (fun hHeld => ?_)
        clear hKK KK
        try simp only [Act.put, List.getElem_toArray, List.getElem_cons_zero, List.getElem_cons_succ, List.setIfInBounds_toArray, List.set_cons_zero, List.set_cons_succ]
        refine wpAnyG_take (i := 10) (v := ?_) rfl (by kernel_rfl) (by kernel_rfl) (by kernel_rfl) (by kernel_rfl) (by kernel_rfl) (fun _ _ _ h => h) (Or.inl ⟨by rfl, ?_⟩) (by assumption) ?_
        rotate_left
        · (intro w hSw; (try dsimp only at hSw); go_simp; try with_reducible rfl)
        try simp only [Act.put, List.getElem_toArray, List.getElem_cons_zero, List.getElem_cons_succ, List.setIfInBounds_toArray, List.set_cons_zero, List.set_cons_succ]
        refine wpAnyG_ready (rs := [12]) (by kernel_rfl) (by simp) ?_
        refine AllReadyG.cons rfl (fun KK hKK => ?_) AllReadyG.nil
        have o0 := cell_of_row _ ob 0 _ _ _ HXob.out
        have o1 := cell_of_row _ ob 1 _ _ _ HXob.out
        have of0 := frozen_of_row _ ob 0 _ _ HXob.out
        have of1 := frozen_of_row _ ob 1 _ _ HXob.out
        simp only [List.getElem?_toArray, List.getElem?_cons_zero, List.getElem?_cons_succ] at o0 o1
        go_simp
        refine hKK.out _ _ (⟨set_other (set_other p0 hnpbob) hnpbob, set_other (set_other p1 hnpbob) hnpbob⟩) (fun hHeld => ?_)
        clear hKK KK
        try simp only [Act.put, List.getElem_toArray, List.getElem_cons_zero, List.getElem_cons_succ, List.setIfInBounds_toArray, List.set_cons_zero, List.set_cons_succ]
        refine wpAnyG_done (by kernel_rfl) ?_ _
        have hset : ∀ k, k ≠ ob → ∀ u v : Value, ((wn.setCell ⟨ob, 0, none⟩ u).setCell ⟨ob, 1, none⟩ v).heap[k]? = wn.heap[k]? := fun k hk u v => (Below.heap_setCell _ _ _ _ hk).trans (Below.heap_setCell _ _ _ _ hk)
        try go_wp2_with fail
        go_meet
        exact ⟨ob, gb, fb, cg, rfl, hcg, Lib.hid ((hset _ (by omega) _ _).trans HXgb.out), Lib.hid ((HB.out.setCell hlob _).setCell hlob _), Lib.hid ((hset _ (by omega) _ _).trans HXpb.out), Lib.hid ((hset _ (by omega) _ _).trans HXrb.out), Lib.hid (heap_setCell_same _ _ 1 _ _ _ (heap_setCell_same _ _ 0 _ _ _ HXob.out)), Lib.hid ((hset _ (by omega) _ _).trans HXfb.out), Lib.hid (by omega)⟩
  case rest =>
    obtain ⟨ob, gb, fb, cs, rfl, hcs, HG, HB, HXpb, HXrb, HXob, HF, HD⟩ := hcut
    have p0 := cell_of_row wc pb 0 _ _ _ HXpb.out
    have p1 := cell_of_row wc pb 1 _ _ _ HXpb.out
    have o0 := cell_of_row wc ob 0 _ _ _ HXob.out
    have o1 := cell_of_row wc ob 1 _ _ _ HXob.out
    simp only [List.getElem?_toArray, List.getElem?_cons_zero, List.getElem?_cons_succ] at p0 p1 o0 o1
    have hgl : (p.globals.map Value.string).length = m * 1 := by rw [List.length_map, HP.out.gn, Nat.mul_one]
    have hsrc : p.globals.map Value.string ≠ [] → ∃ ad, ga = some ad ∧ ∀ j v, (p.globals.map Value.string)[j]? = some v → wc.cell? (ad.add j) = some v := by
      intro hne
      obtain ⟨g, o, rfl, hg, hc⟩ := HP.out.gr.at (List.length_pos_iff.2 hne)
      refine ⟨_, rfl, fun j v hj => ?_⟩
      rw [Addr.add_lit]
      exact (World.cell?_of_block (w := w) (a := ⟨g, o + j, none⟩) (HB.out.block g (by omega))).trans (hc j v hj)
    obtain ⟨w2, hcp, hg2, hon2⟩ := copy_facts 23 23 3 9 js Tryz.underlying23 hjs 1 hjs1 gb (m + 2) (m + 2) ga m gc cs 9 (p.globals.map Value.string) HG.out (by omega) hgl hsrc (by rw [hgl]; omega) (by intro v hv; obtain ⟨s, _, rfl⟩ := List.mem_map.1 hv; rfl)
    have hk2 : ∀ k, k ≠ gb → w2.heap[k]? = wc.heap[k]? := hon2.block
    have hD := HD.out
    have hlt : ∀ k x, w2.heap[k]? = some x → k < w2.heap.size := fun k x hx => (Array.getElem?_eq_some_iff.1 hx).1
    have hx1 := (hk2 pb (by omega)).trans HXpb.out
    have hx2 := (hk2 rb (by omega)).trans HXrb.out
    have hx3 := (hk2 ob (by omega)).trans HXob.out
    have hx4 := (hk2 fb (by omega)).trans HF.out
    have hL : LtS w w2 p n m (.slice fa n fc) (.slice ga m gc) pb rb ob gb fb w2.heap.size 0 [] := by
      have l1 := hlt _ _ hx1
      have l2 := hlt _ _ hx2
      have l3 := hlt _ _ hx3
      have l4 := hlt _ _ hx4
      have l5 := hlt _ _ hg2
      refine ⟨by rw [hpbe]; exact hon2.below HB.out (by omega), by omega, hx1, hx2, hx3, ⟨_, ?_, ?_, hg2⟩, ⟨cf, hcf, by simp, hx4⟩, rfl, fun y hy => (nomatch hy), Nat.le_refl _, by omega⟩
      · rw [List.length_append, List.length_drop, hgl]; omega
      · rw [show m = (p.globals.map Value.string).length by rw [hgl, Nat.mul_one], List.take_left]
    have HL := Lib.hid hL
    clear hL hx1 hx2 hx3 hx4 hlt hk2 hg2 hon2 hsrc hgl HG HB HXpb HXrb HXob HF
    have hd := HL.out.d
    obtain ⟨_, _, _, _, _, _, _, _, _, e1, e2, _, _, e3, e4, e5, _, _, _⟩ := hd
    go_wp2_with fail
    clear p0 p1 o0 o1
    go_loopw [4] (fun i wr => ∃ j : Nat, i = .int .i64 j ∧ j ≤ 2 ∧ Hid (LtS w wr p n m (.slice fa n fc) (.slice ga m gc) pb rb ob gb fb w2.heap.size 0 [])) (fun i _ => 2 - (intOf i).toNat)
    case atStart => exact ⟨0, rfl, by omega, HL⟩
    case round =>
      clear HL hcp
      obtain ⟨j, rfl, hj, HL⟩ := hrel
      obtain ⟨p0, p1⟩ := HL.out.pc
      obtain ⟨o0, o1⟩ := HL.out.oc
      by_cases hlt : j < 2
      · obtain ⟨⟨u1, k1⟩, k2⟩ := HL.out.gc (j := m + j) (by omega)
        obtain ⟨⟨u2, k3⟩, k4⟩ := HL.out.fc (j := (n + j) * 6) (by omega)
        go_wp2_with fail
        go_roundw
        case rel => exact ⟨j + 1, by simp, by omega, Lib.hid ((HL.out.markG (by omega) _).markF _ _)⟩
        case measure => simp [intOf]; omega
      · obtain rfl : j = 2 := by omega
        go_wp2_with fail
        clear p0 p1 o0 o1 hwm hwn hmg2 hmf2
        go_loopw [5] (fun i ws => ∃ (k : Nat) (ys : List (Cf × Fv)), i = .int .i64 k ∧ k ≤ n ∧ Hid (LtS w ws p n m (.slice fa n fc) (.slice ga m gc) pb rb ob gb fb w2.heap.size k ys)) (fun i _ => n - (intOf i).toNat)
        case atStart => exact ⟨0, [], rfl, Nat.zero_le _, HL⟩
        case round =>
          clear HL
          obtain ⟨k, ys, rfl, hk, HL⟩ := hrel
          obtain ⟨p0, p1⟩ := HL.out.pc
          by_cases hkn : k < n
          · obtain ⟨f, hf⟩ : ∃ f, p.funcs[k]? = some f := ⟨_, List.getElem?_eq_getElem (by rw [HP.out.fn]; exact hkn)⟩
            obtain ⟨g, o, fv, rfl, hlx, x0, x1, x2, x3, x4, x5⟩ := HP.out.func hf
            have hlow := HL.out.low
            have c0 := old_cell0 x0 hlow
            have c1 := old_cell0 x1 hlow
            have c2 := old_cell0 x2 hlow
            have c3 := old_cell0 x3 hlow
            have c4 := old_cell0 x4 hlow
            have c5 := old_cell0 x5 hlow
            have hfn := partsN_mem (List.mem_of_getElem? hf)
            have hsm := HSM.out
            obtain ⟨tn, htn⟩ : ∃ tn, f.taken.length = tn := ⟨_, rfl⟩
            obtain ⟨cn, hcn⟩ : ∃ cn, f.code.length = cn := ⟨_, rfl⟩
            rw [htn] at c3
            rw [hcn] at c5
            have ht9 : tn ≤ 90000 := by omega
            have hc9 : cn ≤ 90000 := by omega
            have HFK := Lib.hid hf
            have HLX := Lib.hid hlx
            have HTN := Lib.hid htn
            have HCN := Lib.hid hcn
            obtain ⟨ct, hct, hmt⟩ := make_k Tryz.underlying30 hji hjz3 hji1 hji2 tn (by omega) (by omega)
            obtain ⟨cc, hcc, hmc⟩ := make_k Tryz.underlying41 hjx hjz4 hjx1 hjx2 cn (by omega) (by omega)
            clear hf hlx x0 x1 x2 x3 x4 x5 htn hcn hsm hfn hlow
            go_upto_region 14 with fail
            obtain ⟨W7, xb, tb, cb, eW, ex, et, ec, hX7, hT7, hC7, hB7⟩ := alloc3 wr (.cells #[.string f.name, .int .i64 f.params, .int .i64 f.slots, .slice fv.ta tn fv.tc, .int .i64 f.around, .slice fv.ca cn fv.cc] 43 (0, 0)) (.cells ct.toArray 3 (0, 0)) (.cells cc.toArray 46 (0, 0))
            simp only [eW, ex, et, ec]
            have hw7 := HL.out.low.trans (hB7.mono HL.out.low.size)
            have htl : (f.taken.map (Value.int .i64)).length = tn * 1 := by rw [List.length_map, HTN.out, Nat.mul_one]
            have hcl : (f.code.flatMap insCells).length = cn * 5 := by rw [flat_len ins_len, HCN.out]
            obtain ⟨w8, hcp1, ht8, ho8⟩ := copy_facts 30 30 3 3 ji Tryz.underlying30 hji 1 hji1 tb (tn + 2) (tn + 2) fv.ta tn fv.tc ct 3 (f.taken.map (Value.int .i64)) hT7 (by omega) htl (row_src HLX.out.1 hw7) (by omega) (by intro v hv; obtain ⟨s, _, rfl⟩ := List.mem_map.1 hv; rfl)
            have hX8 := (ho8.block xb (by omega)).trans hX7
            have hC8 := (ho8.block cb (by omega)).trans hC7
            have hB8 := ho8.below hB7 (by omega)
            have hw8 := HL.out.low.trans (hB8.mono HL.out.low.size)
            obtain ⟨w9, hcp2, hc9, ho9⟩ := copy_facts 41 41 3 46 jx Tryz.underlying41 hjx 5 hjx1 cb (cn + 2) (cn + 2) fv.ca cn fv.cc cc 46 (f.code.flatMap insCells) hC8 (by omega) hcl (row_src HLX.out.2.1 hw8) (by omega) (by intro v hv; obtain ⟨s, _, hv⟩ := List.mem_flatMap.1 hv; simp [insCells] at hv; rcases hv with rfl | rfl | rfl | rfl | rfl <;> rfl)
            have a3 := cell_of_row W7 xb 3 _ _ _ hX7
            have a5 := cell_of_row w8 xb 5 _ _ _ hX8
            simp only [List.getElem?_toArray, List.getElem?_cons_zero, List.getElem?_cons_succ] at a3 a5
            have hI : ItS wr w9 f (.slice fv.ta tn fv.tc) (.slice fv.ca cn fv.cc) tn cn xb tb cb := by
              refine ⟨ho9.below hB8 (by omega), (ho9.block xb (by omega)).trans hX8, ⟨_, ?_, ?_, (ho9.block tb (by omega)).trans ht8⟩, ⟨_, ?_, ?_, hc9⟩, by omega⟩
              · rw [List.length_append, List.length_drop, htl]; omega
              · rw [show tn = (f.taken.map (Value.int .i64)).length by rw [htl, Nat.mul_one], List.take_left]
              · rw [List.length_append, List.length_drop, hcl]; omega
              · rw [← hcl, List.take_left]
            have HI := Lib.hid hI
            clear hI hX7 hT7 hC7 hX8 hC8 ht8 ho8 hc9 ho9 hB8 hB7 hw7 hw8 eW htl hcl
            go_upto_region 15 with fail
            go_wp2_with fail
            clear a3 a5 hcp1 hcp2 c0 c1 c2 c3 c4 c5 p0 p1 hmt hmc
            go_loopw [9] (fun i wt => ∃ j : Nat, i = .int .i64 j ∧ j ≤ 2 ∧ Hid (ItS wr wt f (.slice fv.ta tn fv.tc) (.slice fv.ca cn fv.cc) tn cn xb tb cb)) (fun i _ => 2 - (intOf i).toNat)
            case atStart => exact ⟨0, rfl, by omega, HI⟩
            case round =>
              clear HI
              obtain ⟨j, rfl, hj, HI⟩ := hrel
              obtain ⟨a0, a1, a2, a3, a4, a5, b3, b5⟩ := HI.out.xc
              obtain ⟨_, _, _, i1, i2, i3⟩ := HI.out.d
              by_cases hj2 : j < 2
              · obtain ⟨⟨u1, k1⟩, k2⟩ := HI.out.tc (j := tn + j) (by omega)
                obtain ⟨⟨u2, k3⟩, k4⟩ := HI.out.cc (j := (cn + j) * 5 + 3) (by omega)
                go_wp2_with fail
                go_roundw
                case rel => exact ⟨j + 1, by simp, by omega, Lib.hid ((HI.out.markT (by omega) _).markC (by omega) _)⟩
                case measure => simp [intOf]; omega
              · obtain rfl : j = 2 := by omega
                go_upto_region 23 with fail
                have hI2 := (HI.out.set3 (.slice (some ⟨tb, 0, none⟩) tn (tn + 2))).set5 (.slice (some ⟨cb, 0, none⟩) cn (cn + 2))
                obtain ⟨W, hW⟩ : ∃ W, (wr.setCell ⟨xb, 3, none⟩ (.slice (some ⟨tb, 0, none⟩) tn (tn + 2))).setCell ⟨xb, 5, none⟩ (.slice (some ⟨cb, 0, none⟩) cn (cn + 2)) = W := ⟨_, rfl⟩
                simp only [hW] at hI2 ⊢
                clear hW a0 a1 a2 a3 a4 a5 b3 b5
                obtain ⟨a0, a1, a2, a3, a4, a5, b3, b5⟩ := hI2.xc
                have hL2 := HL.out.under hI2.low
                have hfx : fb ≠ xb := by
                  have h1 := HL.out.d
                  have h2 := HL.out.llo
                  have h3 := hI2.d
                  omega
                obtain ⟨o0, o1⟩ := hL2.oc
                obtain ⟨⟨z0, y0⟩, q0⟩ := hL2.fc (j := k * 6) (by omega)
                obtain ⟨⟨z1, y1⟩, q1⟩ := hL2.fc (j := k * 6 + 1) (by omega)
                obtain ⟨⟨z2, y2⟩, q2⟩ := hL2.fc (j := k * 6 + 2) (by omega)
                obtain ⟨⟨z3, y3⟩, q3⟩ := hL2.fc (j := k * 6 + 3) (by omega)
                obtain ⟨⟨z4, y4⟩, q4⟩ := hL2.fc (j := k * 6 + 4) (by omega)
                obtain ⟨⟨z5, y5⟩, q5⟩ := hL2.fc (j := k * 6 + 5) (by omega)
                have hput := hL2.put HFK.out hkn (hI2.hi HL.out.llo HTN.out HCN.out)
                rw [HTN.out, HCN.out] at hput
                have HPUT := Lib.hid hput
                clear hput hI2 hL2
                go_wp2_with fail
                go_roundw
                case rel => exact ⟨k + 1, _, by simp, by omega, HPUT⟩
                case measure => simp [intOf]; omega
          · obtain rfl : k = n := by omega
            obtain ⟨o0, o1⟩ := HL.out.oc
            have of0 := frozen_of_row wr ob 0 _ _ HL.out.hob
            have of1 := frozen_of_row wr ob 1 _ _ HL.out.hob
            have r0 := cell_of_row wr rb 0 _ _ _ HL.out.hrb
            have r1 := cell_of_row wr rb 1 _ _ _ HL.out.hrb
            have rf0 := frozen_of_row wr rb 0 _ _ HL.out.hrb
            have rf1 := frozen_of_row wr rb 1 _ _ HL.out.hrb
            simp only [List.getElem?_toArray, List.getElem?_cons_zero, List.getElem?_cons_succ] at r0 r1
            obtain ⟨d1, d2, d3, d4, _, _, _, _, _, _, _, _, _, _, _, _, n1, n2, n3⟩ := HL.out.d
            have n4 := n2.symm
            have n5 := n3.symm
            go_wp2_with fail
            have hset : ∀ i, i ≠ ob → i ≠ rb → ∀ a b c e : Value, ((((wr.setCell ⟨ob, 1, none⟩ a).setCell ⟨ob, 0, none⟩ b).setCell ⟨rb, 0, none⟩ c).setCell ⟨rb, 1, none⟩ e).heap[i]? = wr.heap[i]? := by
              intro i hi hj a b c e
              rw [Below.heap_setCell _ _ _ _ hj, Below.heap_setCell _ _ _ _ hj, Below.heap_setCell _ _ _ _ hi, Below.heap_setCell _ _ _ _ hi]
            refine bodyPost_ret (lent_result _ _ rb (.slice (some ⟨fb, 0, none⟩) k (k + 2)) (.slice (some ⟨gb, 0, none⟩) m (m + 2)) rfl ?_ ?_) rfl ⟨_, rfl, HL.out.final HP.out.fn HP.out.gn (by simp) (fun i hi hj => hset i hi hj _ _ _ _), (((HL.out.low.setCell d4 _).setCell d4 _).setCell d3 _).setCell d3 _⟩
            iterate 2 (· first | (simp [r0, r1]; done) | (go_simp; done))
end Go.Proofs.YtdjbkppdppdcgaaGreatDoor
