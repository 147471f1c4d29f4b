/- (*reader).function, walked. -/
import Derived.Test.YtdjbkppdppdcgaaGreatDoorSqC
import Derived.Test.YtdjbkppdppdcgaaGreatDoorMCxG
namespace Go.Proofs.YtdjbkppdppdcgaaGreatDoor
open Go.RowKit

theorem frozen_keep {w w' : World} {g : Nat} (h : w'.heap[g]? = w.heap[g]?) (i : Nat) : w'.frozen? ⟨g, i, none⟩ = w.frozen? ⟨g, i, none⟩ := by simp [World.frozen?, h]
theorem news_at (W : World) (cs : List Value) (t : TypeId) (fr : Nat × Nat) (k : Nat) (u : Value) (hu : cs[k]? = some u) : (W.alloc (.cells cs.toArray t fr)).cell? ((⟨W.heap.size, 0, none⟩ : Addr).add k) = some u := by
  rw [Addr.add_lit, Nat.zero_add]
  exact (cell_of_row _ _ k _ _ _ (heap_alloc_new _ _)).trans (by rw [List.getElem?_toArray, hu])
theorem instInfo : (Tryz.prog.info? 46).map (fun i => (i.zero, i.size, i.bytes)) = some (some (.agg #[.int .i64 0, .int .i64 0, .int .i64 0, .string ⟨#[]⟩, .int .i64 0]), 5, 48) := by kernel_rfl
theorem rowD_stop {α : Type} (g : Drd → α × Drd) (k : Nat) (r : Drd) (h : (decide (0 < k) && r.bad.isNone) = false) : rowD g k r = ([], r) := by
  cases k with
  | zero => rw [rowD]
  | succ k =>
    rw [rowD, if_neg]
    intro e
    simp [e] at h
theorem func_result (tmps : Array Value) (W : World) (g : Nat) (v0 v1 v2 v3 v4 v5 : Value) (h2 : tmps.getD 2 undef = .pointer (some ⟨g, 0, none⟩)) (e0 : W.cell? ⟨g, 0, none⟩ = some v0) (e1 : W.cell? ⟨g, 1, none⟩ = some v1) (e2 : W.cell? ⟨g, 2, none⟩ = some v2) (e3 : W.cell? ⟨g, 3, none⟩ = some v3) (e4 : W.cell? ⟨g, 4, none⟩ = some v4) (e5 : W.cell? ⟨g, 5, none⟩ = some v5) :
    (results Tryz.f44 tmps).run Tryz.prog W = .ok (.agg #[v0, v1, v2, v3, v4, v5]) W := by
  have h2' : tmps[2]?.getD undef = .pointer (some ⟨g, 0, none⟩) := by simpa using h2
  have hres : Tryz.f44.results = #[ResultVar.cell 2 43] := rfl
  simp [results, go_sem, h2', e0, e1, e2, e3, e4, e5]
theorem many_nat {b : List UInt8} {r : Drd} (hr : r.at_ ≤ b.length) : ∃ m : Nat, (manyD b r).1 = (m : Int) ∧ m ≤ b.length := by
  by_cases h : (manyD b r).2.bad = none
  · obtain ⟨h0, h1⟩ := many_ok h
    exact ⟨(manyD b r).1.toNat, by omega, by omega⟩
  · refine ⟨0, ?_, Nat.zero_le _⟩
    have hz : (numD b r).2.bad ≠ none → (numD b r).1 = 0 := by
      intro h
      unfold numD at h ⊢
      cases hr : r.bad with
      | some _ => simp
      | none =>
        rw [hr] at h
        simp only at h ⊢
        split at h
        · rename_i hc; exact absurd hc h
        · rename_i hc; rw [if_neg hc]
    unfold manyD at h ⊢
    dsimp only at h ⊢
    split
    · rfl
    · rename_i hc
      rw [if_neg hc] at h
      simp [hz h]

set_option maxRecDepth 100000 in
set_option maxHeartbeats 16000000 in
theorem function_any {rb : Nat} {b : List UInt8} {r : Drd} {w : World} (h : BrAt rb b r w) (hbl : b.length ≤ 2000000) : Calls Tryz.prog 44 #[.pointer (some ⟨rb, 0, none⟩)] w fun e w' => ∃ fv : Fv, e = .returned (fnV ((funcD b r).1, fv)) ∧ BrAt rb b (funcD b r).2 w' ∧ RF rb w w' ∧
      w'.ownsRow w.heap.size 3 1 (.slice fv.ta (funcD b r).1.taken.length fv.tc) (funcD b r).1.taken.length ((funcD b r).1.taken.map (Value.int .i64)) ∧ w'.ownsRow w.heap.size 46 5 (.slice fv.ca (funcD b r).1.code.length fv.cc) (funcD b r).1.code.length ((funcD b r).1.code.flatMap insCells) := by
  have HR0 := Lib.hid (show RdAt w rb b r w from ⟨h, Foot.refl _ _ _, h.lt⟩)
  clear h
  go_enter Tryz.func44, Tryz.ntmps44
  go_wp2_with (first
    | (go_at_call 43; refine (rtext_any (HR0.out.alloc _).at_ (by omega)).mono ?_; rintro e w1 ⟨rfl, hb1, hf1⟩; have HR1 := Lib.hid ((HR0.out.alloc _).post hb1 hf1); have HC1 := Lib.hid ((HR0.out.box _).post HR0.out.old hf1); clear hb1 hf1)
    | (go_at_call 66; first | (refine (number_any HR2.out.at_ (by omega)).mono ?_; rintro e w3 ⟨rfl, hb3, hf3⟩; have HR3 := Lib.hid (HR2.out.post hb3 hf3); have HC3 := Lib.hid (HC2.out.post HR0.out.old hf3); clear hb3 hf3) | (refine (number_any HR1.out.at_ (by omega)).mono ?_; rintro e w2 ⟨rfl, hb2, hf2⟩; have HR2 := Lib.hid (HR1.out.post hb2 hf2); have HC2 := Lib.hid (HC1.out.post HR0.out.old hf2); clear hb2 hf2))
    | (go_at_call 42; refine (many_any (HR3.out.alloc _).at_ (by omega)).mono ?_; rintro e w4 ⟨rfl, hb4, hf4⟩; have HR4 := Lib.hid ((HR3.out.alloc _).post hb4 hf4); have HB4 := Lib.hid ((HR3.out.box _).post HR0.out.old hf4); have HC4 := Lib.hid ((HC3.out.alloc _).post HR0.out.old hf4); clear hb4 hf4))
  have hs : FnSt w rb b w3.heap.size (.string ⟨⟨(textD b r).1⟩⟩) (.int .i64 (numD b (textD b r).2).1) (.int .i64 (numD b (numD b (textD b r).2).2).1) (.slice none 0 0) (.int .i64 0) (.slice none 0 0) [] [] (manyD b (numD b (numD b (textD b r).2).2).2).2 w4 :=
    ⟨HR4.out, HB4.out, HC4.out, World.ownsRow_nil _ _ _ _, World.ownsRow_nil _ _ _ _, fun g hg => by simp [Value.ownBlock] at hg, fun g hg => by simp [Value.ownBlock] at hg, by have := HC3.out.lt; omega⟩
  obtain ⟨m, hm, hml⟩ := many_nat HR3.out.at_.le
  obtain ⟨fb, hfb⟩ : ∃ fb, w3.heap.size = fb := ⟨_, rfl⟩
  obtain ⟨S3, hS3⟩ : ∃ S3, (numD b (numD b (textD b r).2).2).2 = S3 := ⟨_, rfl⟩
  obtain ⟨A, hA⟩ : ∃ A, Hid (rowD (numD b) m (manyD b S3).2 = A) := ⟨_, rfl⟩
  simp only [hfb, hS3] at hs hm ⊢
  rw [hm]
  have HS0 := Lib.hid hs
  have HS3' := Lib.hid hS3
  have HM := Lib.hid hm
  clear HR1 HR2 HR3 HR4 HC1 HC2 HC3 HC4 HB4 hs hS3 hm hfb
  go_loopw [4] (fun s4 wr => ∃ (k : Nat) (ts : List Int) (r1 : Drd) (vt : Value), s4 = .int .i64 k ∧ k + ts.length ≤ 2000000 ∧ Hid (FnSt w rb b fb (.string ⟨⟨(textD b r).1⟩⟩) (.int .i64 (numD b (textD b r).2).1) (.int .i64 (numD b (numD b (textD b r).2).2).1) vt (.int .i64 0) (.slice none 0 0) ts [] r1 wr) ∧ Hid (ts ++ (rowD (numD b) k r1).1 = A.1 ∧ (rowD (numD b) k r1).2 = A.2)) (fun s4 _ => (intOf s4).toNat)
  case atStart => exact ⟨m, [], _, _, rfl, by simp; omega, HS0, Lib.hid (by rw [hA.out]; exact ⟨rfl, rfl⟩)⟩
  case round =>
    clear HS0
    obtain ⟨k, ts, r1, vt, rfl, hk, HS, HQ⟩ := hrel
    have y2 := HS.out.rd.at_.c2
    obtain ⟨G, hG⟩ : ∃ G, Hid ((decide (0 < k) && r1.bad.isNone) = G) := ⟨_, rfl⟩
    go_upto_region 3 with fail
    go_cut [23] from 15 to 32 (fun s23 wx => s23 = .bool G ∧ wx = wr)
    case first =>
      cases k with
      | zero =>
        have d : decide ((0 : Int) < ((0 : Nat) : Int)) = false := rfl
        go_wp2_with fail
        go_meet
        exact ⟨by rw [← hG.out]; rfl, rfl⟩
      | succ k =>
        have d : decide (0 < k + 1) = true := by simp
        cases hbad : r1.bad with
        | some i =>
          rw [hbad] at y2
          simp only [badI] at y2
          have d2 : decide ((i : Int) < 0) = false := by simp
          go_wp2_with fail
          go_meet
          exact ⟨by rw [← hG.out, hbad]; simp, rfl⟩
        | none =>
          rw [hbad] at y2
          simp only [badI] at y2
          go_wp2_with fail
          go_meet
          exact ⟨by rw [← hG.out, hbad]; simp, rfl⟩
    case rest =>
      obtain ⟨rfl, rfl⟩ := hcut
      cases G with
      | false =>
        have hq := HQ.out
        rw [rowD_stop _ _ _ hG.out, List.append_nil] at hq
        dsimp only at hq
        rw [hq.1, hq.2] at HS
        clear hq HQ hG y2
        have c4 := cell_of_row wc fb 4 _ _ _ HS.out.box.1
        have f4 := frozen_of_row wc fb 4 _ _ HS.out.box.1
        go_wp2_with (first
          | (go_at_call 66; refine (number_any HS.out.rd.at_ (by omega)).mono ?_; rintro e w5 ⟨rfl, hb5, hf5⟩; have HS5 := Lib.hid (HS.out.post hb5 hf5); have c5 := cell_of_row w5 fb 4 _ _ _ HS5.out.box.1; have f5 := frozen_of_row w5 fb 4 _ _ HS5.out.box.1; simp only [List.getElem?_toArray, List.getElem?_cons_zero, List.getElem?_cons_succ] at c5; clear hb5 hf5)
          | (go_at_call 42; refine (many_any (HS5.out.set4 _).rd.at_ (by omega)).mono ?_; rintro e w6 ⟨rfl, hb6, hf6⟩; have HS6 := Lib.hid ((HS5.out.set4 _).post hb6 hf6); clear hb6 hf6))
        obtain ⟨m2, hm2, hml2⟩ := many_nat (HS5.out.set4 (.int .i64 (numD b A.2).1)).rd.at_.le
        obtain ⟨S5, hS5⟩ : ∃ S5, numD b A.2 = S5 := ⟨_, rfl⟩
        obtain ⟨C, hC⟩ : ∃ C, Hid (rowD (instD b) m2 (manyD b S5.2).2 = C) := ⟨_, rfl⟩
        rw [hS5] at hm2 HS6 ⊢
        rw [hm2]
        have HS5' := Lib.hid hS5
        have HM2 := Lib.hid hm2
        clear hS5 hm2 HS5 HS c4 f4 c5 f5
        go_loopw [5] (fun s5 wr => ∃ (k : Nat) (xs : List Ci) (r1 : Drd) (vc : Value), s5 = .int .i64 k ∧ k + xs.length ≤ 2000000 ∧ Hid (FnSt w rb b fb (.string ⟨⟨(textD b r).1⟩⟩) (.int .i64 (numD b (textD b r).2).1) (.int .i64 (numD b (numD b (textD b r).2).2).1) vt (.int .i64 S5.1) vc A.1 xs r1 wr) ∧ Hid (xs ++ (rowD (instD b) k r1).1 = C.1 ∧ (rowD (instD b) k r1).2 = C.2)) (fun s5 _ => (intOf s5).toNat)
        case atStart => exact ⟨m2, [], _, _, rfl, by simp; omega, HS6, Lib.hid (by rw [hC.out]; exact ⟨rfl, rfl⟩)⟩
        case round =>
          clear HS6
          obtain ⟨k, xs, r1, vc, rfl, hk, HS, HQ⟩ := hrel
          have y2 := HS.out.rd.at_.c2
          obtain ⟨G, hG⟩ : ∃ G, Hid ((decide (0 < k) && r1.bad.isNone) = G) := ⟨_, rfl⟩
          go_upto_region 8 with fail
          go_cut [46] from 38 to 64 (fun s23 wx => s23 = .bool G ∧ wx = wr)
          case first =>
            cases k with
            | zero =>
              have d : decide ((0 : Int) < ((0 : Nat) : Int)) = false := rfl
              go_wp2_with fail
              go_meet
              exact ⟨by rw [← hG.out]; rfl, rfl⟩
            | succ k =>
              have d : decide (0 < k + 1) = true := by simp
              cases hbad : r1.bad with
              | some i =>
                rw [hbad] at y2
                simp only [badI] at y2
                have d2 : decide ((i : Int) < 0) = false := by simp
                go_wp2_with fail
                go_meet
                exact ⟨by rw [← hG.out, hbad]; simp, rfl⟩
              | none =>
                rw [hbad] at y2
                simp only [badI] at y2
                go_wp2_with fail
                go_meet
                exact ⟨by rw [← hG.out, hbad]; simp, rfl⟩
          case rest =>
            obtain ⟨rfl, rfl⟩ := hcut
            cases G with
            | false =>
              have hq := HQ.out
              rw [rowD_stop _ _ _ hG.out, List.append_nil] at hq
              dsimp only at hq
              rw [hq.1, hq.2] at HS
              clear hq HQ hG y2
              obtain ⟨A1, k1, rfl, hk1, _⟩ := row_form HS.out.own1
              obtain ⟨A2, k2, rfl, hk2, _⟩ := row_form HS.out.own2
              have c0 := cell_of_row wc fb 0 _ _ _ HS.out.box.1
              have c1 := cell_of_row wc fb 1 _ _ _ HS.out.box.1
              have c2 := cell_of_row wc fb 2 _ _ _ HS.out.box.1
              have c3 := cell_of_row wc fb 3 _ _ _ HS.out.box.1
              have c4 := cell_of_row wc fb 4 _ _ _ HS.out.box.1
              have c5 := cell_of_row wc fb 5 _ _ _ HS.out.box.1
              have e0 := cell_of_row wc w.heap.size 0 _ _ _ HS.out.res.1
              have e1 := cell_of_row wc w.heap.size 1 _ _ _ HS.out.res.1
              have e2 := cell_of_row wc w.heap.size 2 _ _ _ HS.out.res.1
              have e3 := cell_of_row wc w.heap.size 3 _ _ _ HS.out.res.1
              have e4 := cell_of_row wc w.heap.size 4 _ _ _ HS.out.res.1
              have e5 := cell_of_row wc w.heap.size 5 _ _ _ HS.out.res.1
              have f0 := frozen_of_row wc w.heap.size 0 _ _ HS.out.res.1
              have f1 := frozen_of_row wc w.heap.size 1 _ _ HS.out.res.1
              have f2 := frozen_of_row wc w.heap.size 2 _ _ HS.out.res.1
              have f3 := frozen_of_row wc w.heap.size 3 _ _ HS.out.res.1
              have f4 := frozen_of_row wc w.heap.size 4 _ _ HS.out.res.1
              have f5 := frozen_of_row wc w.heap.size 5 _ _ HS.out.res.1
              simp only [List.getElem?_toArray, List.getElem?_cons_zero, List.getElem?_cons_succ] at c0 c1 c2 c3 c4 c5 e0 e1 e2 e3 e4 e5
              go_wp2_with fail
              have hfun : funcD b r = (⟨⟨⟨(textD b r).1⟩⟩, (numD b (textD b r).2).1, (numD b (numD b (textD b r).2).2).1, A.1, S5.1, C.1⟩, C.2) := by
                unfold funcD
                dsimp only
                rw [HS3'.out, HM.out, Int.toNat_natCast, hA.out, HS5'.out, HM2.out, Int.toNat_natCast, hC.out]
              rw [hfun]
              dsimp only
              have hset : ∀ k, k ≠ w.heap.size → ∀ (v0 v1 v2 v3 v4 v5 : Value), ((((((wc.setCell ⟨w.heap.size, 0, none⟩ v0).setCell ⟨w.heap.size, 1, none⟩ v1).setCell ⟨w.heap.size, 2, none⟩ v2).setCell ⟨w.heap.size, 3, none⟩ v3).setCell ⟨w.heap.size, 4, none⟩ v4).setCell ⟨w.heap.size, 5, none⟩ v5).heap[k]? = wc.heap[k]? := by
                intro k hk v0 v1 v2 v3 v4 v5
                iterate 6 rw [Below.heap_setCell _ _ _ _ hk]
              have hrd := fun (v0 v1 v2 v3 v4 v5 : Value) => (((((HS.out.rd.set (x := w.heap.size) (Nat.le_refl _) 0 v0).set (x := w.heap.size) (Nat.le_refl _) 1 v1).set (x := w.heap.size) (Nat.le_refl _) 2 v2).set (x := w.heap.size) (Nat.le_refl _) 3 v3).set (x := w.heap.size) (Nat.le_refl _) 4 v4).set (x := w.heap.size) (Nat.le_refl _) 5 v5
              refine bodyPost_ret (func_result _ _ w.heap.size (.string ⟨⟨(textD b r).1⟩⟩) (.int .i64 (numD b (textD b r).2).1) (.int .i64 (numD b (numD b (textD b r).2).2).1) (.slice A1 A.1.length k1) (.int .i64 S5.1) (.slice A2 C.1.length k2) rfl ?_ ?_ ?_ ?_ ?_ ?_) rfl ⟨⟨A1, k1, A2, k2⟩, rfl, ?_, ?_, ?_, ?_⟩
              iterate 6 (· first | (simp [e0, e1, e2, e3, e4, e5]; done) | (go_simp; done))
              · exact (hrd _ _ _ _ _ _).at_
              · exact (hrd _ _ _ _ _ _).foot
              · exact own_keep HS.out.own1 fun g hg => hset g (HS.out.n1 g hg).2.1 _ _ _ _ _ _
              · exact own_keep HS.out.own2 fun g hg => hset g (HS.out.n2 g hg).2 _ _ _ _ _ _
            | true =>
              obtain ⟨k, rfl⟩ : ∃ k', k = k' + 1 := by
                cases k with
                | zero => have := hG.out; simp at this
                | succ k => exact ⟨k, rfl⟩
              have hbad : r1.bad = none := by have := hG.out; simpa using this
              have hq := HQ.out
              rw [rowD, if_pos hbad] at hq
              dsimp only at hq
              have HQ2 : Hid ((xs ++ [(instD b r1).1]) ++ (rowD (instD b) k (instD b r1).2).1 = C.1 ∧ (rowD (instD b) k (instD b r1).2).2 = C.2) := Lib.hid (by rw [← hq.1]; exact ⟨by simp, hq.2⟩)
              clear hq y2 HQ
              obtain ⟨i0, hi, hz0, hz1, hz2⟩ := info_parts instInfo
              go_upto_region 10 with fail
              have HS := Lib.hid HS.out.drew
              have y3 := cell_of_row _ fb 5 _ _ _ HS.out.box.1
              have g3 := frozen_of_row _ fb 5 _ _ HS.out.box.1
              simp only [List.getElem?_toArray, List.getElem?_cons_zero, List.getElem?_cons_succ] at y3
              refine wp_region_G [16] (fun x => x.cell? ⟨fb, 5, none⟩ = some (vc) ∧ x.frozen? ⟨fb, 5, none⟩ = false) (by rfl) ?_ (fun hHeld => ?_)
              · exact ⟨y3, g3⟩
              refine wpAnyG_take (i := 0) (v := ?_) rfl (by kernel_rfl) (by kernel_rfl) (by kernel_rfl) (by kernel_rfl) (by kernel_rfl) (fun _ _ _ h => h) (Or.inl ⟨by rfl, ?_⟩) (by assumption) ?_
              rotate_left
              · (intro w hSw; (try dsimp only at hSw); go_simp; try with_reducible rfl)
              try simp only [nmC]
              refine wpAnyG_take (i := 1) (v := ?_) rfl (by kernel_rfl) (by kernel_rfl) (by kernel_rfl) (by kernel_rfl) (by kernel_rfl) (fun _ _ _ h => h) (Or.inl ⟨by rfl, ?_⟩) (by assumption) ?_
              rotate_left
              · (intro w hSw; (try dsimp only at hSw); go_simp; try with_reducible rfl)
              try simp only [nmC]
              refine wpAnyG_take (i := 2) (v := ?_) rfl (by kernel_rfl) (by kernel_rfl) (by kernel_rfl) (by kernel_rfl) (by kernel_rfl) (fun _ _ _ h => h) (Or.inl ⟨by rfl, ?_⟩) (by assumption) ?_
              rotate_left
              · (intro w hSw; (try dsimp only at hSw); go_simp; try with_reducible rfl)
              try simp only [nmC]
              refine wpAnyG_take (i := 4) (v := ?_) rfl (by kernel_rfl) (by kernel_rfl) (by kernel_rfl) (by kernel_rfl) (by kernel_rfl) (fun _ _ _ h => h) (Or.inl ⟨by rfl, ?_⟩) (by assumption) ?_
              rotate_left
              · (intro w hSw; (try dsimp only at hSw); go_simp; try with_reducible rfl)
              try simp only [nmC]
              refine wpAnyG_take (i := 6) (v := ?_) rfl (by kernel_rfl) (by kernel_rfl) (by kernel_rfl) (by kernel_rfl) (by kernel_rfl) (fun _ _ _ h => h) (Or.inl ⟨by rfl, ?_⟩) (by assumption) ?_
              rotate_left
              · (intro w hSw; (try dsimp only at hSw); go_simp; try with_reducible rfl)
              try simp only [nmC]
              refine wpAnyG_take (i := 8) (v := ?_) rfl (by kernel_rfl) (by kernel_rfl) (by kernel_rfl) (by kernel_rfl) (by kernel_rfl) (fun _ _ _ h => h) (Or.inl ⟨by rfl, ?_⟩) (by assumption) ?_
              rotate_left
              · (intro w hSw; (try dsimp only at hSw); go_simp; try with_reducible rfl)
              try simp only [nmC]
              refine wpAnyG_take (i := 10) (v := ?_) rfl (by kernel_rfl) (by kernel_rfl) (by kernel_rfl) (by kernel_rfl) (by kernel_rfl) (fun _ _ _ h => h) (Or.inl ⟨by rfl, ?_⟩) (by assumption) ?_
              rotate_left
              · (intro w hSw; (try dsimp only at hSw); go_simp; try with_reducible rfl)
              try simp only [nmC]
              refine wpAnyG_ready (rs := [3]) (by kernel_rfl) (by simp) ?_
              refine AllReadyG.cons rfl (fun KK hKK => ?_) AllReadyG.nil
              go_simp
              go_at_call 66
              refine (number_any HS.out.rd.at_ (by omega)).mono ?_
              rintro e wz ⟨rfl, hbz, hfz⟩
              have HS := Lib.hid (HS.out.post hbz hfz)
              clear hbz hfz
              try dsimp only
              have y3 := cell_of_row _ fb 5 _ _ _ HS.out.box.1
              have g3 := frozen_of_row _ fb 5 _ _ HS.out.box.1
              simp only [List.getElem?_toArray, List.getElem?_cons_zero, List.getElem?_cons_succ] at y3
              refine hKK.out _ _ (⟨y3, g3⟩) (fun hHeld => ?_)
              clear hKK KK
              try simp only [nmC]
              refine wpAnyG_ready (rs := [5]) (by kernel_rfl) (by simp) ?_
              refine AllReadyG.cons rfl (fun KK hKK => ?_) AllReadyG.nil
              go_simp
              go_at_call 66
              refine (number_any HS.out.rd.at_ (by omega)).mono ?_
              rintro e wz ⟨rfl, hbz, hfz⟩
              have HS := Lib.hid (HS.out.post hbz hfz)
              clear hbz hfz
              try dsimp only
              have y3 := cell_of_row _ fb 5 _ _ _ HS.out.box.1
              have g3 := frozen_of_row _ fb 5 _ _ HS.out.box.1
              simp only [List.getElem?_toArray, List.getElem?_cons_zero, List.getElem?_cons_succ] at y3
              refine hKK.out _ _ (⟨y3, g3⟩) (fun hHeld => ?_)
              clear hKK KK
              try simp only [nmC]
              refine wpAnyG_ready (rs := [7]) (by kernel_rfl) (by simp) ?_
              refine AllReadyG.cons rfl (fun KK hKK => ?_) AllReadyG.nil
              go_simp
              go_at_call 66
              refine (number_any HS.out.rd.at_ (by omega)).mono ?_
              rintro e wz ⟨rfl, hbz, hfz⟩
              have HS := Lib.hid (HS.out.post hbz hfz)
              clear hbz hfz
              try dsimp only
              have y3 := cell_of_row _ fb 5 _ _ _ HS.out.box.1
              have g3 := frozen_of_row _ fb 5 _ _ HS.out.box.1
              simp only [List.getElem?_toArray, List.getElem?_cons_zero, List.getElem?_cons_succ] at y3
              refine hKK.out _ _ (⟨y3, g3⟩) (fun hHeld => ?_)
              clear hKK KK
              try simp only [nmC]
              refine wpAnyG_ready (rs := [9]) (by kernel_rfl) (by simp) ?_
              refine AllReadyG.cons rfl (fun KK hKK => ?_) AllReadyG.nil
              go_simp
              go_at_call 43
              refine (rtext_any HS.out.rd.at_ (by omega)).mono ?_
              rintro e wz ⟨rfl, hbz, hfz⟩
              have HS := Lib.hid (HS.out.post hbz hfz)
              clear hbz hfz
              try dsimp only
              have y3 := cell_of_row _ fb 5 _ _ _ HS.out.box.1
              have g3 := frozen_of_row _ fb 5 _ _ HS.out.box.1
              simp only [List.getElem?_toArray, List.getElem?_cons_zero, List.getElem?_cons_succ] at y3
              refine hKK.out _ _ (⟨y3, g3⟩) (fun hHeld => ?_)
              clear hKK KK
              try simp only [nmC]
              refine wpAnyG_ready (rs := [11]) (by kernel_rfl) (by simp) ?_
              refine AllReadyG.cons rfl (fun KK hKK => ?_) AllReadyG.nil
              go_simp
              go_at_call 66
              refine (number_any HS.out.rd.at_ (by omega)).mono ?_
              rintro e wz ⟨rfl, hbz, hfz⟩
              have HS := Lib.hid (HS.out.post hbz hfz)
              clear hbz hfz
              try dsimp only
              have y3 := cell_of_row _ fb 5 _ _ _ HS.out.box.1
              have g3 := frozen_of_row _ fb 5 _ _ HS.out.box.1
              simp only [List.getElem?_toArray, List.getElem?_cons_zero, List.getElem?_cons_succ] at y3
              refine hKK.out _ _ (⟨y3, g3⟩) (fun hHeld => ?_)
              clear hKK KK
              try simp only [nmC]
              refine wpAnyG_take (i := 12) (v := ?_) rfl (by kernel_rfl) (by kernel_rfl) (by kernel_rfl) (by kernel_rfl) (by kernel_rfl) (fun _ _ _ h => h) (Or.inl ⟨by rfl, ?_⟩) (by assumption) ?_
              rotate_left
              · (intro w hSw; (try dsimp only at hSw); go_simp; try with_reducible rfl)
              try simp only [nmC]
              refine wpAnyG_ready (rs := [13]) (by kernel_rfl) (by simp) ?_
              refine AllReadyG.cons rfl (fun KK hKK => ?_) AllReadyG.nil
              go_simp
              refine hKK.out _ _ (⟨(World.cell?_of_block (a := ⟨fb, 5, none⟩) (heap_alloc_old _ _ HS.out.box.lt)).trans y3, (frozen_keep (heap_alloc_old _ _ HS.out.box.lt) 5).trans g3⟩) (fun hHeld => ?_)
              clear hKK KK
              try simp only [nmC]
              refine wpAnyG_ready (rs := [14]) (by kernel_rfl) (by simp) ?_
              refine AllReadyG.cons rfl (fun KK hKK => ?_) AllReadyG.nil
              refine step_append_lies _ rfl (.tmp 50) (.tmp 62) 41 rfl w.heap.size 46 i0 _ 5 48 Tryz.underlying41 hi hz0 hz1 hz2 rfl (by decide) _ _ _ rfl (HS.out.own2.alloc _) ⟨_, 0, none⟩ 1 1 (insCells (instD b r1).1) rfl rfl (fun k u hu => news_at _ _ _ _ k u hu) (by intro u hu; simp [insCells] at hu; first | (subst hu; rfl) | (rcases hu with rfl | rfl | rfl | rfl | rfl <;> rfl)) (by decide) (by unfold maxLen; omega) (by omega) (by have := HS.out.rd.foot.size; simp; omega) _ rfl ?_
              intro g2 cap2 w2 ho2 hg2 hb2 hl2
              obtain ⟨hb3, hs3⟩ := HS.out.push2 ho2 hg2 hb2
              have y3 := cell_of_row _ fb 5 _ _ _ hb3
              have g3 := frozen_of_row _ fb 5 _ _ hb3
              simp only [List.getElem?_toArray, List.getElem?_cons_zero, List.getElem?_cons_succ] at y3
              have HS3 := Lib.hid hs3
              clear hs3 hb3 ho2 hg2 hb2
              refine hKK.out _ _ (⟨y3, g3⟩) (fun hHeld => ?_)
              clear hKK KK
              try simp only [nmC]
              refine wpAnyG_take (i := 15) (v := ?_) rfl (by kernel_rfl) (by kernel_rfl) (by kernel_rfl) (by kernel_rfl) (by kernel_rfl) (fun _ _ _ h => h) (Or.inl ⟨by rfl, ?_⟩) (by assumption) ?_
              rotate_left
              · (intro w hSw; (try dsimp only at hSw); go_simp; try with_reducible rfl)
              try simp only [nmC]
              refine wpAnyG_ready (rs := [16]) (by kernel_rfl) (by simp) ?_
              refine AllReadyG.last rfl (by decide) (by decide) (fun KK hKK => ?_) AllReadyG.nil
              go_simp
              refine hKK.out _ _ ?_
              clear hKK KK
              try simp only [nmC]
              refine wpAny_done (by kernel_rfl) ?_ _
              go_wp2_with fail
              go_roundw
              case rel => exact ⟨k, _, _, _, by simp, by simp only [List.length_append, List.length_cons, List.length_nil]; omega, HS3, HQ2⟩
              case measure => simp [intOf]
      | true =>
        obtain ⟨k, rfl⟩ : ∃ k', k = k' + 1 := by
          cases k with
          | zero => have := hG.out; simp at this
          | succ k => exact ⟨k, rfl⟩
        have hbad : r1.bad = none := by have := hG.out; simpa using this
        have hq := HQ.out
        rw [rowD, if_pos hbad] at hq
        dsimp only at hq
        have HQ2 : Hid ((ts ++ [(numD b r1).1]) ++ (rowD (numD b) k (numD b r1).2).1 = A.1 ∧ (rowD (numD b) k (numD b r1).2).2 = A.2) := Lib.hid (by rw [← hq.1]; exact ⟨by simp, hq.2⟩)
        clear hq y2
        obtain ⟨i0, hi, hz0, hz1, hz2⟩ := info_parts intInfo
        go_upto_region 5 with fail
        have HS := Lib.hid HS.out.drew
        have y3 := cell_of_row _ fb 3 _ _ _ HS.out.box.1
        have g3 := frozen_of_row _ fb 3 _ _ HS.out.box.1
        simp only [List.getElem?_toArray, List.getElem?_cons_zero, List.getElem?_cons_succ] at y3
        refine wp_region_G [7] (fun x => x.cell? ⟨fb, 3, none⟩ = some (vt) ∧ x.frozen? ⟨fb, 3, none⟩ = false) (by rfl) ?_ (fun hHeld => ?_)
        · exact ⟨y3, g3⟩
        refine wpAnyG_take (i := 0) (v := ?_) rfl (by kernel_rfl) (by kernel_rfl) (by kernel_rfl) (by kernel_rfl) (by kernel_rfl) (fun _ _ _ h => h) (Or.inl ⟨by rfl, ?_⟩) (by assumption) ?_
        rotate_left
        · (intro w hSw; (try dsimp only at hSw); go_simp; try with_reducible rfl)
        try simp only [nmC]
        refine wpAnyG_take (i := 1) (v := ?_) rfl (by kernel_rfl) (by kernel_rfl) (by kernel_rfl) (by kernel_rfl) (by kernel_rfl) (fun _ _ _ h => h) (Or.inl ⟨by rfl, ?_⟩) (by assumption) ?_
        rotate_left
        · (intro w hSw; (try dsimp only at hSw); go_simp; try with_reducible rfl)
        try simp only [nmC]
        refine wpAnyG_take (i := 2) (v := ?_) rfl (by kernel_rfl) (by kernel_rfl) (by kernel_rfl) (by kernel_rfl) (by kernel_rfl) (fun _ _ _ h => h) (Or.inl ⟨by rfl, ?_⟩) (by assumption) ?_
        rotate_left
        · (intro w hSw; (try dsimp only at hSw); go_simp; try with_reducible rfl)
        try simp only [nmC]
        refine wpAnyG_ready (rs := [3]) (by kernel_rfl) (by simp) ?_
        refine AllReadyG.cons rfl (fun KK hKK => ?_) AllReadyG.nil
        go_simp
        go_at_call 66
        refine (number_any HS.out.rd.at_ (by omega)).mono ?_
        rintro e wz ⟨rfl, hbz, hfz⟩
        have HS := Lib.hid (HS.out.post hbz hfz)
        clear hbz hfz
        try dsimp only
        have y3 := cell_of_row _ fb 3 _ _ _ HS.out.box.1
        have g3 := frozen_of_row _ fb 3 _ _ HS.out.box.1
        simp only [List.getElem?_toArray, List.getElem?_cons_zero, List.getElem?_cons_succ] at y3
        refine hKK.out _ _ (⟨y3, g3⟩) (fun hHeld => ?_)
        clear hKK KK
        try simp only [nmC]
        refine wpAnyG_ready (rs := [4]) (by kernel_rfl) (by simp) ?_
        refine AllReadyG.cons rfl (fun KK hKK => ?_) AllReadyG.nil
        go_simp
        refine hKK.out _ _ (⟨(World.cell?_of_block (a := ⟨fb, 3, none⟩) (heap_alloc_old _ _ HS.out.box.lt)).trans y3, (frozen_keep (heap_alloc_old _ _ HS.out.box.lt) 3).trans g3⟩) (fun hHeld => ?_)
        clear hKK KK
        try simp only [nmC]
        refine wpAnyG_ready (rs := [5]) (by kernel_rfl) (by simp) ?_
        refine AllReadyG.cons rfl (fun KK hKK => ?_) AllReadyG.nil
        refine step_append_lies _ rfl (.tmp 27) (.tmp 30) 30 rfl w.heap.size 3 i0 _ 1 8 Tryz.underlying30 hi hz0 hz1 hz2 rfl (by decide) _ _ _ rfl (HS.out.own1.alloc _) ⟨_, 0, none⟩ 1 1 [.int .i64 (numD b r1).1] rfl rfl (fun k u hu => news_at _ _ _ _ k u hu) (by intro u hu; simp at hu; first | (subst hu; rfl) | (rcases hu with rfl | rfl | rfl | rfl | rfl <;> rfl)) (by decide) (by unfold maxLen; omega) (by omega) (by have := HS.out.rd.foot.size; simp; omega) _ rfl ?_
        intro g2 cap2 w2 ho2 hg2 hb2 hl2
        obtain ⟨hb3, hs3⟩ := HS.out.push1 ho2 hg2 hb2
        have y3 := cell_of_row _ fb 3 _ _ _ hb3
        have g3 := frozen_of_row _ fb 3 _ _ hb3
        simp only [List.getElem?_toArray, List.getElem?_cons_zero, List.getElem?_cons_succ] at y3
        have HS3 := Lib.hid hs3
        clear hs3 hb3 ho2 hg2 hb2
        refine hKK.out _ _ (⟨y3, g3⟩) (fun hHeld => ?_)
        clear hKK KK
        try simp only [nmC]
        refine wpAnyG_take (i := 6) (v := ?_) rfl (by kernel_rfl) (by kernel_rfl) (by kernel_rfl) (by kernel_rfl) (by kernel_rfl) (fun _ _ _ h => h) (Or.inl ⟨by rfl, ?_⟩) (by assumption) ?_
        rotate_left
        · (intro w hSw; (try dsimp only at hSw); go_simp; try with_reducible rfl)
        try simp only [nmC]
        refine wpAnyG_ready (rs := [7]) (by kernel_rfl) (by simp) ?_
        refine AllReadyG.last rfl (by decide) (by decide) (fun KK hKK => ?_) AllReadyG.nil
        go_simp
        refine hKK.out _ _ ?_
        clear hKK KK
        try simp only [nmC]
        refine wpAny_done (by kernel_rfl) ?_ _
        go_wp2_with fail
        go_roundw
        case rel => exact ⟨k, _, _, _, by simp, by simp only [List.length_append, List.length_cons, List.length_nil]; omega, HS3, HQ2⟩
        case measure => simp [intOf]
end Go.Proofs.YtdjbkppdppdcgaaGreatDoor
