/- code.inst of any line. -/
import Derived.Test.YtdjbkppdppdcgaaGreatDoorSqC
import Derived.Test.YtdjbkppdppdcgaaGreatDoorMCyJ
namespace Go.Proofs.YtdjbkppdppdcgaaGreatDoor
open Go.RowKit

def InsPost (w : World) (o : Option Ci) (e : Ending) (w' : World) : Prop := Below w.heap.size w w' ∧ match o with
  | none => e = .returned (.tuple #[.agg #[.int .i64 0, .int .i64 0, .int .i64 0, .string ⟨#[]⟩, .int .i64 0], .bool false])
  | some x => e = .returned (.tuple #[.agg #[.int .i64 x.op, .int .i64 x.a, .int .i64 x.b, .string x.text, .int .i64 x.at_], .bool true])
abbrev ZRow : Obj := .cells #[.int .i64 0, .int .i64 0, .int .i64 0, .string ⟨#[]⟩, .int .i64 0] 46 (0, 0)
theorem ins_end {w W : World} (hb : Below w.heap.size w W) (hr : W.heap[w.heap.size]? = some (.cells #[.int .i64 0, .int .i64 0, .int .i64 0, .string ⟨#[]⟩, .int .i64 0] 46 (0, 0))) :
    (∀ j : Nat, W.frozen? ⟨w.heap.size, j, none⟩ = false) ∧ W.cell? ⟨w.heap.size, 0, none⟩ = some (.int .i64 0) ∧ W.cell? ⟨w.heap.size, 1, none⟩ = some (.int .i64 0) ∧ W.cell? ⟨w.heap.size, 2, none⟩ = some (.int .i64 0) ∧ W.cell? ⟨w.heap.size, 3, none⟩ = some (.string ⟨#[]⟩) ∧ W.cell? ⟨w.heap.size, 4, none⟩ = some (.int .i64 0) ∧
    ∀ v0 v1 v2 v3 v4 : Value, Below w.heap.size w (((((W.setCell ⟨w.heap.size, 0, none⟩ v0).setCell ⟨w.heap.size, 1, none⟩ v1).setCell ⟨w.heap.size, 2, none⟩ v2).setCell ⟨w.heap.size, 3, none⟩ v3).setCell ⟨w.heap.size, 4, none⟩ v4) :=
  ⟨fun j => frozen_of_row W _ j _ _ hr, cell_of_row W _ 0 _ _ _ hr, cell_of_row W _ 1 _ _ _ hr, cell_of_row W _ 2 _ _ _ hr, cell_of_row W _ 3 _ _ _ hr, cell_of_row W _ 4 _ _ _ hr, fun _ _ _ _ _ => ((((hb.setCell (Nat.le_refl _) _).setCell (Nat.le_refl _) _).setCell (Nat.le_refl _) _).setCell (Nat.le_refl _) _).setCell (Nat.le_refl _) _⟩
theorem instR_cons (s : List UInt8) (o a b c : List UInt8) (t : List (List UInt8)) (h : splitM 32 4 s = o :: a :: b :: c :: t) : instR s = match intsL [a, b, c] with
    | some [x, y, z] => if operationL o = 0 then none else match t with
      | [] => some ⟨operationL o, x, y, ⟨#[]⟩, z⟩
      | q :: _ => match unquoteL q with
        | some u => if u = [] ∨ 34 :: quoteL u ++ [34] ≠ q then none else some ⟨operationL o, x, y, ⟨⟨u⟩⟩, z⟩
        | none => none
    | _ => none := by
  unfold instR
  simp only [h]
  rcases intsL [a, b, c] with _ | l
  · rfl
  · match l with
    | [] => rfl
    | [_] => rfl
    | [_, _] => rfl
    | [x, y, z] =>
      cases t with
      | nil => rfl
      | cons q r => cases unquoteL q <;> rfl
    | _ :: _ :: _ :: _ :: _ => rfl
theorem instR_short (s : List UInt8) (h : (splitM 32 4 s).length < 4) : instR s = none := by
  unfold instR
  split
  · rename_i he
    rw [he] at h
    simp at h
    omega
  · rfl
theorem unq_len {q u : List UInt8} (h : unquoteL q = some u) : u.length ≤ 65536 := by
  unfold unquoteL at h
  split at h
  · split at h
    · split at h
      · cases h
      · rename_i h2
        injection h with h
        subst h
        omega
    · cases h
  · cases h

set_option maxRecDepth 100000 in
set_option maxHeartbeats 16000000 in
theorem inst_any {w : World} (hG : Gc w) (s : List UInt8) (hs : s.length ≤ 100000000) :
    Calls Tryz.prog 71 #[.string ⟨⟨s⟩⟩] w (InsPost w (instR s)) := by
  obtain ⟨R, HR⟩ : ∃ R, Hid (instR s = R) := ⟨_, rfl⟩
  rw [HR.out]
  obtain ⟨P, hP⟩ : ∃ P, splitM 32 4 s = P := ⟨_, rfl⟩
  obtain ⟨k, hk⟩ : ∃ k, P.length = k := ⟨_, rfl⟩
  have HSP : Hid (∀ W, Gc W → Calls Tryz.prog 96 #[.string ⟨⟨s⟩⟩, .string ⟨#[32]⟩, .int .i64 5] W fun e w' => ∃ cp, e = .returned (.slice (some ⟨W.heap.size, 0, none⟩) k cp) ∧ k ≤ cp ∧ cp ≤ 5 ∧ Below W.heap.size W w' ∧ W.heap.size < w'.heap.size ∧ ∀ j x, P[j]? = some x → w'.cell? ⟨W.heap.size, j, none⟩ = some (.string ⟨⟨x⟩⟩)) := Lib.hid fun W hW => by
    have := splitN_any s (by omega) W hW
    rw [hP, hk] at this
    exact this
  obtain ⟨p1, p2, p3, p4⟩ := splitM_len 32 4 s
  rw [hP] at p1 p2 p3 p4
  rw [hk] at p1 p2 p3
  have HL : Hid (∀ t ∈ P, t.length ≤ 140737488351232) := Lib.hid fun t ht => by have := p4 t ht; omega
  have HLQ : Hid (∀ t ∈ P, t.length ≤ 1000000000) := Lib.hid fun t ht => by have := p4 t ht; omega
  have HPE := Lib.hid hP
  have HKE := Lib.hid hk
  have HG := Lib.hid hG
  clear p4 hG hP hk
  have hB0 : Below w.heap.size w (w.alloc ZRow) := (Below.refl _ _).alloc (Nat.le_refl _) _
  have hr0 := heap_alloc_new w ZRow
  obtain ⟨W0, hW0⟩ : ∃ W0, w.alloc ZRow = W0 := ⟨_, rfl⟩
  have hW0s : W0.heap.size = w.heap.size + 1 := by rw [← hW0]; simp
  have HW0 := Lib.hid hW0
  rw [hW0] at hB0 hr0
  clear hW0
  have HB0 := Lib.hid hB0
  have HR0 := Lib.hid hr0
  have HW0S := Lib.hid hW0s
  clear hB0 hr0 hW0s
  go_enter Tryz.func71, Tryz.ntmps71
  go_upto_region 1 with fail
  simp only [show w.alloc (.cells #[.int .i64 0, .int .i64 0, .int .i64 0, .string ⟨#[]⟩, .int .i64 0] 46 (0, 0)) = W0 from HW0.out]
  go_upto_region 2 with (go_at_call 96; refine (HSP.out _ (HG.out.up HB0.out)).mono ?_; rintro e w1 ⟨cp, rfl, hkcp, hcp5, hb1, hlt1, hcl1⟩)
  obtain ⟨rb, hrb⟩ : ∃ rb, w.heap.size = rb := ⟨_, rfl⟩
  obtain ⟨g, hg⟩ : ∃ g, W0.heap.size = g := ⟨_, rfl⟩
  have hgr : rb < g := by have := HW0S.out; omega
  have HB1 := Lib.hid (HB0.out.trans (hb1.mono HB0.out.size))
  have HR1 := Lib.hid ((hb1.block _ (Array.getElem?_eq_some_iff.1 HR0.out).1).trans HR0.out)
  rw [hg] at hlt1 hcl1
  simp only [hg, hrb]
  have HC1 := Lib.hid hcl1
  have HG1 := Lib.hid (HG.out.up HB1.out)
  clear hb1 hcl1 HB0 HR0 HW0 HSP HW0S hg
  by_cases h4 : k < 4
  · have hR : R = none := by rw [← HR.out]; exact instR_short s (by rw [HPE.out, HKE.out]; exact h4)
    subst hR
    have d4 : decide ((k : Int) < 4) = true := by simp; omega
    obtain ⟨hfr, c0, c1, c2, c3, c4, hfin⟩ := ins_end HB1.out HR1.out
    rw [hrb] at hfr c0 c1 c2 c3 c4 hfin
    have f0 := hfr 0
    have f1 := hfr 1
    have f2 := hfr 2
    have f3 := hfr 3
    have f4 := hfr 4
    have HFIN := Lib.hid hfin
    clear hfr hfin
    go_wp2_with fail
    refine bodyPost_ret (inst_result _ _ rb (.int .i64 0) (.int .i64 0) (.int .i64 0) (.string ⟨#[]⟩) (.int .i64 0) (.bool false) rfl rfl ?_ ?_ ?_ ?_ ?_) rfl ⟨by rw [hrb]; exact HFIN.out _ _ _ _ _, rfl⟩
    iterate 5 (· first | (simp [c0, c1, c2, c3, c4]; done) | (go_simp; done))
  · obtain ⟨o, a, b, c, t, hPP⟩ : ∃ o a b c t, P = o :: a :: b :: c :: t := by
      have := HKE.out
      match P, this with
      | [], h => simp at h; omega
      | [_], h => simp at h; omega
      | [_, _], h => simp at h; omega
      | [_, _, _], h => simp at h; omega
      | o :: a :: b :: c :: t, _ => exact ⟨o, a, b, c, t, rfl⟩
    subst hPP
    have d4 : decide ((k : Int) < 4) = false := by simp; omega
    have hRE := HR.out
    rw [instR_cons s o a b c t HPE.out] at hRE
    clear HR
    have hkt : t.length + 4 = k := by have := HKE.out; simpa using this
    have c0 := HC1.out 0 o rfl
    have b0 : (0 : Int) < (k : Int) := by omega
    have b4 : (4 : Int) ≤ (cp : Int) := by omega
    have b14 : 4 ≤ cp := by omega
    have HRW : Hid (RowIs w1 w1.heap.size (some ⟨g, 1, none⟩) ([a, b, c].map fun s => Value.string ⟨⟨s⟩⟩)) := Lib.hid (.inr ⟨g, 1, rfl, hlt1, fun j v hj => by
      match j, hj with
      | 0, hj => rw [← Option.some.inj hj]; exact HC1.out 1 a rfl
      | 1, hj => rw [← Option.some.inj hj]; exact HC1.out 2 b rfl
      | 2, hj => rw [← Option.some.inj hj]; exact HC1.out 3 c rfl⟩)
    have HL3 : Hid (∀ t ∈ [a, b, c], t.length ≤ 140737488351232) := Lib.hid fun x hx => HL.out x (by simp only [List.mem_cons, List.not_mem_nil, or_false] at hx ⊢; rcases hx with h | h | h <;> simp [h])
    obtain ⟨O, hO⟩ : ∃ O, operationL o = O := ⟨_, rfl⟩
    have hop := fun W => operation_any o W
    rw [hO] at hop hRE
    have HOP := Lib.hid hop
    clear hop hO
    have hrl : rb < w1.heap.size := by omega
    have HKT := Lib.hid hkt
    clear h4 hkt
    cases hi : intsL [a, b, c] with
    | none =>
      rw [hi] at hRE
      have hR : R = none := hRE.symm
      subst hR
      have HI := Lib.hid hi
      clear hi hRE
      go_upto_region 5 with (go_at_call 97; refine (ints_none (l := [a, b, c]) HG1.out rfl HRW.out HI.out HL3.out (by simp)).mono ?_; rintro e w2 ⟨rfl, hb2⟩)
      have q0 := old_cell0 c0 hb2
      have HB2 := Lib.hid (HB1.out.trans (hb2.mono HB1.out.size))
      have HR2 := Lib.hid ((hb2.block w.heap.size (by rw [hrb]; exact hrl)).trans HR1.out)
      have hs2 := hb2.size
      clear hb2 c0
      go_upto_region 6 with (go_at_call 98; refine (HOP.out _).mono ?_; rintro e w3 ⟨rfl, hb3⟩)
      have hB4 : Below w2.heap.size w2 (w3.alloc (.cells #[.int .i64 O, .int .i64 0, .int .i64 0, .string ⟨#[]⟩, .int .i64 0] 46 (0, 0))) := hb3.alloc hb3.size _
      obtain ⟨W4, hW4⟩ : ∃ W4, w3.alloc (.cells #[.int .i64 O, .int .i64 0, .int .i64 0, .string ⟨#[]⟩, .int .i64 0] 46 (0, 0)) = W4 := ⟨_, rfl⟩
      simp only [hW4] at hB4 ⊢
      obtain ⟨hfr, c0, c1, c2, c3, c4, hfin⟩ := ins_end (HB2.out.trans (hB4.mono HB2.out.size)) ((hB4.block w.heap.size (by omega)).trans HR2.out)
      rw [hrb] at hfr c0 c1 c2 c3 c4 hfin
      have f0 := hfr 0
      have f1 := hfr 1
      have f2 := hfr 2
      have f3 := hfr 3
      have f4 := hfr 4
      have HFIN := Lib.hid hfin
      clear hfr hfin hB4 hb3 hW4
      go_wp2_with fail
      refine bodyPost_ret (inst_result _ _ rb (.int .i64 0) (.int .i64 0) (.int .i64 0) (.string ⟨#[]⟩) (.int .i64 0) (.bool false) rfl rfl ?_ ?_ ?_ ?_ ?_) rfl ⟨by rw [hrb]; exact HFIN.out _ _ _ _ _, rfl⟩
      iterate 5 (· first | (simp [c0, c1, c2, c3, c4]; done) | (go_simp; done))
    | some ns =>
      have hnl := ints_len hi
      obtain ⟨x, y, z, rfl⟩ : ∃ x y z, ns = [x, y, z] := by
        match ns, hnl with
        | [x, y, z], _ => exact ⟨x, y, z, rfl⟩
      rw [hi] at hRE
      dsimp only at hRE
      have HI := Lib.hid hi
      have HRE := Lib.hid hRE
      clear hi hRE hnl
      go_upto_region 5 with (go_at_call 97; refine (ints_some (l := [a, b, c]) HG1.out rfl HRW.out HI.out HL3.out (by simp)).mono ?_; rintro e w2 ⟨v2, rfl, ho2, hb2⟩)
      obtain ⟨ig, icap, rfl, hig1, hig2⟩ := ho2.form (show 0 < [a, b, c].length by simp)
      have j0 := ho2.cells (g := ig) rfl 0 (.int .i64 x) rfl
      have j1 := ho2.cells (g := ig) rfl 1 (.int .i64 y) rfl
      have j2 := ho2.cells (g := ig) rfl 2 (.int .i64 z) rfl
      simp only [Addr.add_lit, Nat.zero_add] at j0 j1 j2
      have q0 := old_cell0 c0 hb2
      have HJ := Lib.hid (And.intro j0 (And.intro j1 j2))
      have HR2 := Lib.hid ((hb2.block w.heap.size (by rw [hrb]; exact hrl)).trans HR1.out)
      have HB2 := Lib.hid (HB1.out.trans (hb2.mono HB1.out.size))
      have HC2 : Hid (∀ j x, (o :: a :: b :: c :: t)[j]? = some x → w2.cell? ⟨g, j, none⟩ = some (.string ⟨⟨x⟩⟩)) := Lib.hid fun j x hx => (hb2.cell (p := ⟨g, j, none⟩) hlt1).trans (HC1.out j x hx)
      have hs2 := hb2.size
      clear j0 j1 j2 ho2 hb2 HR1 HB1 HC1 c0
      go_upto_region 6 with (go_at_call 98; refine (HOP.out _).mono ?_; rintro e w3 ⟨rfl, hb3⟩)
      have hx3 := heap_alloc_new w3 (.cells #[.int .i64 O, .int .i64 0, .int .i64 0, .string ⟨#[]⟩, .int .i64 0] 46 (0, 0))
      have hB4 : Below w2.heap.size w2 (w3.alloc (.cells #[.int .i64 O, .int .i64 0, .int .i64 0, .string ⟨#[]⟩, .int .i64 0] 46 (0, 0))) := hb3.alloc hb3.size _
      have hs3 := hb3.size
      obtain ⟨xb, hxb⟩ : ∃ xb, w3.heap.size = xb := ⟨_, rfl⟩
      obtain ⟨W4, hW4⟩ : ∃ W4, w3.alloc (.cells #[.int .i64 O, .int .i64 0, .int .i64 0, .string ⟨#[]⟩, .int .i64 0] 46 (0, 0)) = W4 := ⟨_, rfl⟩
      simp only [hW4, hxb] at hx3 hB4 hs3 ⊢
      have x0 := cell_of_row W4 xb 0 _ _ _ hx3
      simp only [List.getElem?_toArray, List.getElem?_cons_zero] at x0
      have HX := Lib.hid hx3
      have HB4 := Lib.hid (HB2.out.trans (hB4.mono HB2.out.size))
      have HR4 := Lib.hid ((hB4.block w.heap.size (by omega)).trans HR2.out)
      have HC4 : Hid (∀ j x, (o :: a :: b :: c :: t)[j]? = some x → W4.cell? ⟨g, j, none⟩ = some (.string ⟨⟨x⟩⟩)) := Lib.hid fun j x hx => (hB4.cell (p := ⟨g, j, none⟩) (by show g < w2.heap.size; omega)).trans (HC2.out j x hx)
      have i0 := old_cell0 HJ.out.1 hB4
      have i1 := old_cell0 HJ.out.2.1 hB4
      have i2 := old_cell0 HJ.out.2.2 hB4
      have hxg : ig ≠ xb := by omega
      have hxr : rb ≠ xb := by omega
      have hgx : g ≠ xb := by omega
      have hrx : rb < xb := by omega
      clear hx3 hB4 hW4 hxb hb3 HR2 HB2 HJ q0 HG1 HRW HOP HL3 HI HC2
      by_cases hO : O = 0
      · subst hO
        have hR : R = none := by rw [← HRE.out, if_pos rfl]
        subst hR
        obtain ⟨hfr, c0, c1, c2, c3, c4, hfin⟩ := ins_end HB4.out HR4.out
        rw [hrb] at hfr c0 c1 c2 c3 c4 hfin
        have f0 := hfr 0
        have f1 := hfr 1
        have f2 := hfr 2
        have f3 := hfr 3
        have f4 := hfr 4
        have HFIN := Lib.hid hfin
        clear hfr hfin
        go_wp2_with fail
        refine bodyPost_ret (inst_result _ _ rb (.int .i64 0) (.int .i64 0) (.int .i64 0) (.string ⟨#[]⟩) (.int .i64 0) (.bool false) rfl rfl ?_ ?_ ?_ ?_ ?_) rfl ⟨by rw [hrb]; exact HFIN.out _ _ _ _ _, rfl⟩
        iterate 5 (· first | (simp [c0, c1, c2, c3, c4]; done) | (go_simp; done))
      · have e0 : ((O : Int) == 0) = false := by simp [hO]
        have hRE := HRE.out
        rw [if_neg hO] at hRE
        have HRE := Lib.hid hRE
        clear hRE hO
        go_upto_region 8 with fail
        clear x0
        rw [hrb] at HB4 HR4
        go_cut [] (fun wx => Hid (Below rb w wx) ∧ Hid (wx.heap[rb]? = some (.cells #[.int .i64 0, .int .i64 0, .int .i64 0, .string ⟨#[]⟩, .int .i64 0] 46 (0, 0))) ∧ Hid (wx.heap[xb]? = some (.cells #[.int .i64 O, .int .i64 x, .int .i64 y, .string ⟨#[]⟩, .int .i64 z] 46 (0, 0))) ∧ Hid (∀ j x, (o :: a :: b :: c :: t)[j]? = some x → wx.cell? ⟨g, j, none⟩ = some (.string ⟨⟨x⟩⟩)))
        case first =>
          have HX := Lib.hid (show W4.drew.heap[xb]? = some (.cells #[.int .i64 O, .int .i64 0, .int .i64 0, .string ⟨#[]⟩, .int .i64 0] 46 (0, 0)) from HX.out)
          have HR := Lib.hid (show W4.drew.heap[rb]? = some (.cells #[.int .i64 0, .int .i64 0, .int .i64 0, .string ⟨#[]⟩, .int .i64 0] 46 (0, 0)) from HR4.out)
          have HB : Hid (Below rb w W4.drew) := Lib.hid ⟨HB4.out.os, HB4.out.tape, HB4.out.output, HB4.out.size, HB4.out.block⟩
          have HC := Lib.hid (show ∀ j x, (o :: a :: b :: c :: t)[j]? = some x → W4.drew.cell? ⟨g, j, none⟩ = some (.string ⟨⟨x⟩⟩) from HC4.out)
          have hle : rb ≤ xb := by omega
          have y1 := cell_of_row W4.drew xb 1 _ _ _ HX.out
          have y2 := cell_of_row W4.drew xb 2 _ _ _ HX.out
          have y4 := cell_of_row W4.drew xb 4 _ _ _ HX.out
          have f1 := frozen_of_row W4.drew xb 1 _ _ HX.out
          have f2 := frozen_of_row W4.drew xb 2 _ _ HX.out
          have f4 := frozen_of_row W4.drew xb 4 _ _ HX.out
          simp only [List.getElem?_toArray, List.getElem?_cons_zero, List.getElem?_cons_succ] at y1 y2 y4
          have i0 : W4.drew.cell? ⟨ig, 0, none⟩ = some (.int .i64 x) := i0
          have i1 : W4.drew.cell? ⟨ig, 1, none⟩ = some (.int .i64 y) := i1
          have i2 : W4.drew.cell? ⟨ig, 2, none⟩ = some (.int .i64 z) := i2
          clear HB4 HR4 HC4
          refine wp_region_G [] (fun u => u.cell? ⟨ig, 0, none⟩ = some (.int .i64 x) ∧ u.cell? ⟨ig, 1, none⟩ = some (.int .i64 y) ∧ u.cell? ⟨ig, 2, none⟩ = some (.int .i64 z)) (by rfl) ?_ (fun hHeld => ?_)
          · exact ⟨i0, i1, i2⟩
          generalize hwd : World.drew W4 = wd at HX HR HB HC y1 y2 y4 f1 f2 f4 i0 i1 i2 hHeld ⊢
          refine wpAnyG_take (i := 0) (v := ?_) rfl (by kernel_rfl) (by kernel_rfl) (by kernel_rfl) (by kernel_rfl) (by kernel_rfl) (fun _ _ _ h => h) (Or.inl ⟨by rfl, ?_⟩) (by assumption) ?_
          rotate_left
          · (intro w hSw; (try dsimp only at hSw); go_simp; try with_reducible rfl)
          try simp only [nmC]
          refine wpAnyG_take (i := 1) (v := ?_) rfl (by kernel_rfl) (by kernel_rfl) (by kernel_rfl) (by kernel_rfl) (by kernel_rfl) (fun _ _ _ h => h) (Or.inl ⟨by rfl, ?_⟩) (by assumption) ?_
          rotate_left
          · (intro w hSw; (try dsimp only at hSw); go_simp; try with_reducible rfl)
          try simp only [nmC]
          refine wpAnyG_take (i := 2) (v := ?_) rfl (by kernel_rfl) (by kernel_rfl) (by kernel_rfl) (by kernel_rfl) (by kernel_rfl) (fun _ _ _ h => h) (Or.inl ⟨by rfl, ?_⟩) (by assumption) ?_
          rotate_left
          · (intro w hSw; (try dsimp only at hSw); go_simp; try with_reducible rfl)
          try simp only [nmC]
          refine wpAnyG_take (i := 3) (v := ?_) rfl (by kernel_rfl) (by kernel_rfl) (by kernel_rfl) (by kernel_rfl) (by kernel_rfl) (fun _ _ _ h => h) (Or.inl ⟨by rfl, ?_⟩) (by assumption) ?_
          rotate_left
          · (intro w hSw; (try dsimp only at hSw); go_simp; try with_reducible rfl)
          try simp only [nmC]
          refine wpAnyG_take (i := 4) (v := ?_) rfl (by kernel_rfl) (by kernel_rfl) (by kernel_rfl) (by kernel_rfl) (by kernel_rfl) (fun _ _ _ h => h) (Or.inl ⟨by rfl, ?_⟩) (by assumption) ?_
          rotate_left
          · (intro w hSw; (try dsimp only at hSw); go_simp; try with_reducible rfl)
          try simp only [nmC]
          refine wpAnyG_take (i := 5) (v := ?_) rfl (by kernel_rfl) (by kernel_rfl) (by kernel_rfl) (by kernel_rfl) (by kernel_rfl) (fun _ _ _ h => h) (Or.inl ⟨by rfl, ?_⟩) (by assumption) ?_
          rotate_left
          · (intro w hSw; (try dsimp only at hSw); go_simp; try with_reducible rfl)
          try simp only [nmC]
          refine wpAnyG_take (i := 6) (v := ?_) rfl (by kernel_rfl) (by kernel_rfl) (by kernel_rfl) (by kernel_rfl) (by kernel_rfl) (fun _ _ _ h => h) (Or.inl ⟨by rfl, ?_⟩) (by assumption) ?_
          rotate_left
          · (intro w hSw; (try dsimp only at hSw); go_simp; try with_reducible rfl)
          try simp only [nmC]
          refine wpAnyG_take (i := 7) (v := ?_) rfl (by kernel_rfl) (by kernel_rfl) (by kernel_rfl) (by kernel_rfl) (by kernel_rfl) (fun _ _ _ h => h) (Or.inl ⟨by rfl, ?_⟩) (by assumption) ?_
          rotate_left
          · (intro w hSw; (try dsimp only at hSw); go_simp; try with_reducible rfl)
          try simp only [nmC]
          refine wpAnyG_take (i := 8) (v := ?_) rfl (by kernel_rfl) (by kernel_rfl) (by kernel_rfl) (by kernel_rfl) (by kernel_rfl) (fun _ _ _ h => h) (Or.inl ⟨by rfl, ?_⟩) (by assumption) ?_
          rotate_left
          · (intro w hSw; (try dsimp only at hSw); go_simp; try with_reducible rfl)
          try simp only [nmC]
          refine wpAnyG_take (i := 9) (v := ?_) rfl (by kernel_rfl) (by kernel_rfl) (by kernel_rfl) (by kernel_rfl) (by kernel_rfl) (fun _ _ _ h => h) (Or.inl ⟨by rfl, ?_⟩) (by assumption) ?_
          rotate_left
          · (intro w hSw; (try dsimp only at hSw); go_simp; try with_reducible rfl)
          try simp only [nmC]
          refine wpAnyG_ready (rs := [10]) (by kernel_rfl) (by simp) ?_
          refine AllReadyG.cons rfl (fun KK hKK => ?_) AllReadyG.nil
          go_simp
          have i0 := set_other (a := ⟨xb, 1, none⟩) (v := .int .i64 x) i0 hxg
          have i1 := set_other (a := ⟨xb, 1, none⟩) (v := .int .i64 x) i1 hxg
          have i2 := set_other (a := ⟨xb, 1, none⟩) (v := .int .i64 x) i2 hxg
          refine hKK.out _ _ (⟨i0, i1, i2⟩) (fun hHeld => ?_)
          clear hKK KK
          try simp only [nmC]
          refine wpAnyG_take (i := 11) (v := ?_) rfl (by kernel_rfl) (by kernel_rfl) (by kernel_rfl) (by kernel_rfl) (by kernel_rfl) (fun _ _ _ h => h) (Or.inl ⟨by rfl, ?_⟩) (by assumption) ?_
          rotate_left
          · (intro w hSw; (try dsimp only at hSw); go_simp; try with_reducible rfl)
          try simp only [nmC]
          refine wpAnyG_ready (rs := [12]) (by kernel_rfl) (by simp) ?_
          refine AllReadyG.cons rfl (fun KK hKK => ?_) AllReadyG.nil
          go_simp
          have i0 := set_other (a := ⟨xb, 2, none⟩) (v := .int .i64 y) i0 hxg
          have i1 := set_other (a := ⟨xb, 2, none⟩) (v := .int .i64 y) i1 hxg
          have i2 := set_other (a := ⟨xb, 2, none⟩) (v := .int .i64 y) i2 hxg
          refine hKK.out _ _ (⟨i0, i1, i2⟩) (fun hHeld => ?_)
          clear hKK KK
          try simp only [nmC]
          refine wpAnyG_take (i := 13) (v := ?_) rfl (by kernel_rfl) (by kernel_rfl) (by kernel_rfl) (by kernel_rfl) (by kernel_rfl) (fun _ _ _ h => h) (Or.inl ⟨by rfl, ?_⟩) (by assumption) ?_
          rotate_left
          · (intro w hSw; (try dsimp only at hSw); go_simp; try with_reducible rfl)
          try simp only [nmC]
          refine wpAnyG_ready (rs := [14]) (by kernel_rfl) (by simp) ?_
          refine AllReadyG.cons rfl (fun KK hKK => ?_) AllReadyG.nil
          go_simp
          have i0 := set_other (a := ⟨xb, 4, none⟩) (v := .int .i64 z) i0 hxg
          have i1 := set_other (a := ⟨xb, 4, none⟩) (v := .int .i64 z) i1 hxg
          have i2 := set_other (a := ⟨xb, 4, none⟩) (v := .int .i64 z) i2 hxg
          refine hKK.out _ _ (⟨i0, i1, i2⟩) (fun hHeld => ?_)
          clear hKK KK
          try simp only [nmC]
          refine wpAnyG_done (by kernel_rfl) ?_ _
          have hR := (Below.heap_setCell (((wd.setCell ⟨xb, 1, none⟩ (.int .i64 x)).setCell ⟨xb, 2, none⟩ (.int .i64 y))) ⟨xb, 4, none⟩ (.int .i64 z) rb hxr).trans ((Below.heap_setCell _ _ _ _ hxr).trans ((Below.heap_setCell _ _ _ _ hxr).trans HR.out))
          try go_wp2_with fail
          go_meet
          exact ⟨Lib.hid (((HB.out.setCell hle _).setCell hle _).setCell hle _), Lib.hid hR, Lib.hid (heap_setCell_same _ _ 4 _ _ _ (heap_setCell_same _ _ 2 _ _ _ (heap_setCell_same _ _ 1 _ _ _ HX.out))), Lib.hid fun j x hx => set_other (set_other (set_other (HC.out j x hx) hgx) hgx) hgx⟩
        case rest =>
          clear HB4 HR4 HC4 HX i0 i1 i2
          obtain ⟨HB, HR, HX, HC⟩ := hcut
          cases t with
          | nil =>
            have hR : R = some ⟨O, x, y, ⟨#[]⟩, z⟩ := HRE.out.symm
            subst hR
            have hk4 := HKT.out
            simp only [List.length_nil, Nat.zero_add] at hk4
            subst hk4
            obtain ⟨hfr, r0, r1, r2, r3, r4, hfin⟩ := ins_end (w := w) (W := wc) (by rw [hrb]; exact HB.out) (by rw [hrb]; exact HR.out)
            rw [hrb] at hfr r0 r1 r2 r3 r4 hfin
            have f0 := hfr 0
            have f1 := hfr 1
            have f2 := hfr 2
            have f3 := hfr 3
            have f4 := hfr 4
            have HFIN := Lib.hid hfin
            clear hfr hfin
            have y0 := cell_of_row wc xb 0 _ _ _ HX.out
            have y1 := cell_of_row wc xb 1 _ _ _ HX.out
            have y2 := cell_of_row wc xb 2 _ _ _ HX.out
            have y3 := cell_of_row wc xb 3 _ _ _ HX.out
            have y4 := cell_of_row wc xb 4 _ _ _ HX.out
            simp only [List.getElem?_toArray, List.getElem?_cons_zero, List.getElem?_cons_succ] at y0 y1 y2 y3 y4
            go_wp2_with fail
            refine bodyPost_ret (inst_result _ _ rb (.int .i64 O) (.int .i64 x) (.int .i64 y) (.string ⟨#[]⟩) (.int .i64 z) (.bool true) rfl rfl ?_ ?_ ?_ ?_ ?_) rfl ⟨by rw [hrb]; exact HFIN.out _ _ _ _ _, rfl⟩
            iterate 5 (· first | (simp [r0, r1, r2, r3, r4]; done) | (go_simp; done))
          | cons q t2 =>
            have ht2 : t2 = [] := List.eq_nil_of_length_eq_zero (by have := HKT.out; simp only [List.length_cons] at this; omega)
            subst ht2
            have hk5 := HKT.out
            simp only [List.length_cons, List.length_nil, Nat.zero_add] at hk5
            subst hk5
            have q4 := HC.out 4 q rfl
            have HUQ := Lib.hid (fun W => unquote_any q W (HLQ.out q (by simp)))
            have hRE := HRE.out
            dsimp only at hRE
            have hgl : g < wc.heap.size := World.block_lt_of_cell? wc _ q4
            have hrw : rb < wc.heap.size := (Array.getElem?_eq_some_iff.1 HR.out).1
            have hxw : xb < wc.heap.size := (Array.getElem?_eq_some_iff.1 HX.out).1
            cases hu : unquoteL q with
            | none =>
              rw [hu] at hRE HUQ
              have hR : R = none := hRE.symm
              subst hR
              clear hRE hu HRE
              go_upto_region 11 with (go_at_call 99; refine (HUQ.out _).mono ?_; rintro e w5 ⟨hb5, pe, rfl⟩)
              have q50 := old_cell0 q4 hb5
              have q5 : w5.drew.cell? ⟨g, 4, none⟩ = some (.string ⟨⟨q⟩⟩) := q50
              have HD5 : Hid (Below wc.heap.size wc w5.drew) := Lib.hid ⟨hb5.os, hb5.tape, hb5.output, hb5.size, hb5.block⟩
              clear hb5 q4 q50
              refine wp_region_G [] (fun u => u.cell? ⟨g, 4, none⟩ = some (.string ⟨⟨q⟩⟩)) (by rfl) ?_ (fun hHeld => ?_)
              · exact q5
              generalize hwd : World.drew w5 = wd at q5 HD5 hHeld ⊢
              refine wpAnyG_take (i := 0) (v := ?_) rfl (by kernel_rfl) (by kernel_rfl) (by kernel_rfl) (by kernel_rfl) (by kernel_rfl) (fun _ _ _ h => h) (Or.inl ⟨by rfl, ?_⟩) (by assumption) ?_
              rotate_left
              · (intro w hSw; (try dsimp only at hSw); go_simp; try with_reducible rfl)
              try simp only [nmC]
              refine wpAnyG_take (i := 1) (v := ?_) rfl (by kernel_rfl) (by kernel_rfl) (by kernel_rfl) (by kernel_rfl) (by kernel_rfl) (fun _ _ _ h => h) (Or.inl ⟨by rfl, ?_⟩) (by assumption) ?_
              rotate_left
              · (intro w hSw; (try dsimp only at hSw); go_simp; try with_reducible rfl)
              try simp only [nmC]
              refine wpAnyG_take (i := 2) (v := ?_) rfl (by kernel_rfl) (by kernel_rfl) (by kernel_rfl) (by kernel_rfl) (by kernel_rfl) (fun _ _ _ h => h) (Or.inl ⟨by rfl, ?_⟩) (by assumption) ?_
              rotate_left
              · (intro w hSw; (try dsimp only at hSw); go_simp; try with_reducible rfl)
              try simp only [nmC]
              refine wpAnyG_take (i := 3) (v := undef) rfl (by kernel_rfl) (by kernel_rfl) (by kernel_rfl) (by kernel_rfl) (by kernel_rfl) (fun _ _ _ h => h) (Or.inr ⟨by rfl, rfl⟩) (by assumption) ?_
              try simp only [nmC]
              refine wpAnyG_take (i := 4) (v := undef) rfl (by kernel_rfl) (by kernel_rfl) (by kernel_rfl) (by kernel_rfl) (by kernel_rfl) (fun _ _ _ h => h) (Or.inr ⟨by rfl, rfl⟩) (by assumption) ?_
              try simp only [nmC]
              refine wpAnyG_take (i := 5) (v := ?_) rfl (by kernel_rfl) (by kernel_rfl) (by kernel_rfl) (by kernel_rfl) (by kernel_rfl) (fun _ _ _ h => h) (Or.inl ⟨by rfl, ?_⟩) (by assumption) ?_
              rotate_left
              · (intro w hSw; (try dsimp only at hSw); go_simp; try with_reducible rfl)
              try simp only [nmC]
              refine wpAnyG_take (i := 6) (v := ?_) rfl (by kernel_rfl) (by kernel_rfl) (by kernel_rfl) (by kernel_rfl) (by kernel_rfl) (fun _ _ _ h => h) (Or.inl ⟨by rfl, ?_⟩) (by assumption) ?_
              rotate_left
              · (intro w hSw; (try dsimp only at hSw); go_simp; try with_reducible rfl)
              try simp only [nmC]
              refine wpAnyG_take (i := 7) (v := undef) rfl (by kernel_rfl) (by kernel_rfl) (by kernel_rfl) (by kernel_rfl) (by kernel_rfl) (fun _ _ _ h => h) (Or.inr ⟨by rfl, rfl⟩) (by assumption) ?_
              try simp only [nmC]
              refine wpAnyG_take (i := 8) (v := undef) rfl (by kernel_rfl) (by kernel_rfl) (by kernel_rfl) (by kernel_rfl) (by kernel_rfl) (fun _ _ _ h => h) (Or.inr ⟨by rfl, rfl⟩) (by assumption) ?_
              try simp only [nmC]
              refine wpAnyG_take (i := 9) (v := undef) rfl (by kernel_rfl) (by kernel_rfl) (by kernel_rfl) (by kernel_rfl) (by kernel_rfl) (fun _ _ _ h => h) (Or.inr ⟨by rfl, rfl⟩) (by assumption) ?_
              try simp only [nmC]
              refine wpAnyG_take (i := 10) (v := undef) rfl (by kernel_rfl) (by kernel_rfl) (by kernel_rfl) (by kernel_rfl) (by kernel_rfl) (fun _ _ _ h => h) (Or.inr ⟨by rfl, rfl⟩) (by assumption) ?_
              try simp only [nmC]
              refine wpAnyG_take (i := 11) (v := undef) rfl (by kernel_rfl) (by kernel_rfl) (by kernel_rfl) (by kernel_rfl) (by kernel_rfl) (fun _ _ _ h => h) (Or.inr ⟨by rfl, rfl⟩) (by assumption) ?_
              try simp only [nmC]
              refine wpAnyG_take (i := 12) (v := undef) rfl (by kernel_rfl) (by kernel_rfl) (by kernel_rfl) (by kernel_rfl) (by kernel_rfl) (fun _ _ _ h => h) (Or.inr ⟨by rfl, rfl⟩) (by assumption) ?_
              try simp only [nmC]
              refine wpAnyG_take (i := 13) (v := ?_) rfl (by kernel_rfl) (by kernel_rfl) (by kernel_rfl) (by kernel_rfl) (by kernel_rfl) (fun _ _ _ h => h) (Or.inl ⟨by rfl, ?_⟩) (by assumption) ?_
              rotate_left
              · (intro w hSw; (try dsimp only at hSw); go_simp; try with_reducible rfl)
              try simp only [nmC]
              refine wpAnyG_done (by kernel_rfl) ?_ _
              have hd6 := HD5.out
              have HB6 : Hid (Below rb w wd) := Lib.hid (HB.out.trans (hd6.mono (by omega)))
              have HR6 := Lib.hid ((hd6.block rb hrw).trans HR.out)
              have HX6 := Lib.hid ((hd6.block xb hxw).trans HX.out)
              obtain ⟨hfr, r0, r1, r2, r3, r4, hfin⟩ := ins_end (w := w) (W := wd) (by rw [hrb]; exact HB6.out) (by rw [hrb]; exact HR6.out)
              rw [hrb] at hfr r0 r1 r2 r3 r4 hfin
              have f0 := hfr 0
              have f1 := hfr 1
              have f2 := hfr 2
              have f3 := hfr 3
              have f4 := hfr 4
              have HFIN := Lib.hid hfin
              have y0 := cell_of_row wd xb 0 _ _ _ HX6.out
              have y1 := cell_of_row wd xb 1 _ _ _ HX6.out
              have y2 := cell_of_row wd xb 2 _ _ _ HX6.out
              have y3 := cell_of_row wd xb 3 _ _ _ HX6.out
              have y4 := cell_of_row wd xb 4 _ _ _ HX6.out
              have g3 := frozen_of_row wd xb 3 _ _ HX6.out
              simp only [List.getElem?_toArray, List.getElem?_cons_zero, List.getElem?_cons_succ] at y0 y1 y2 y3 y4
              have hxr2 : xb ≠ rb := Ne.symm hxr
              clear hfr hfin hd6
              go_wp2_with fail
              refine bodyPost_ret (inst_result _ _ rb (.int .i64 0) (.int .i64 0) (.int .i64 0) (.string ⟨#[]⟩) (.int .i64 0) (.bool false) rfl rfl ?_ ?_ ?_ ?_ ?_) rfl ⟨by rw [hrb]; exact HFIN.out _ _ _ _ _, rfl⟩
              iterate 5 (· first | (simp [r0, r1, r2, r3, r4]; done) | (go_simp; done))
            | some u =>
              have hul := unq_len hu
              rw [hu] at hRE HUQ
              dsimp only at hRE
              clear hu HRE
              by_cases hu0 : u = []
              · subst hu0
                have hR : R = none := by rw [← hRE, if_pos (.inl rfl)]
                subst hR
                clear hRE
                go_upto_region 11 with (go_at_call 99; refine (HUQ.out _).mono ?_; rintro e w5 ⟨hb5, rfl⟩)
                have q50 := old_cell0 q4 hb5
                have q5 : w5.drew.cell? ⟨g, 4, none⟩ = some (.string ⟨⟨q⟩⟩) := q50
                have HD5 : Hid (Below wc.heap.size wc w5.drew) := Lib.hid ⟨hb5.os, hb5.tape, hb5.output, hb5.size, hb5.block⟩
                clear hb5 q4 q50
                refine wp_region_G [] (fun u => u.cell? ⟨g, 4, none⟩ = some (.string ⟨⟨q⟩⟩)) (by rfl) ?_ (fun hHeld => ?_)
                · exact q5
                generalize hwd : World.drew w5 = wd at q5 HD5 hHeld ⊢
                refine wpAnyG_take (i := 0) (v := ?_) rfl (by kernel_rfl) (by kernel_rfl) (by kernel_rfl) (by kernel_rfl) (by kernel_rfl) (fun _ _ _ h => h) (Or.inl ⟨by rfl, ?_⟩) (by assumption) ?_
                rotate_left
                · (intro w hSw; (try dsimp only at hSw); go_simp; try with_reducible rfl)
                try simp only [nmC]
                refine wpAnyG_take (i := 1) (v := ?_) rfl (by kernel_rfl) (by kernel_rfl) (by kernel_rfl) (by kernel_rfl) (by kernel_rfl) (fun _ _ _ h => h) (Or.inl ⟨by rfl, ?_⟩) (by assumption) ?_
                rotate_left
                · (intro w hSw; (try dsimp only at hSw); go_simp; try with_reducible rfl)
                try simp only [nmC]
                refine wpAnyG_take (i := 2) (v := ?_) rfl (by kernel_rfl) (by kernel_rfl) (by kernel_rfl) (by kernel_rfl) (by kernel_rfl) (fun _ _ _ h => h) (Or.inl ⟨by rfl, ?_⟩) (by assumption) ?_
                rotate_left
                · (intro w hSw; (try dsimp only at hSw); go_simp; try with_reducible rfl)
                try simp only [nmC]
                refine wpAnyG_take (i := 3) (v := ?_) rfl (by kernel_rfl) (by kernel_rfl) (by kernel_rfl) (by kernel_rfl) (by kernel_rfl) (fun _ _ _ h => h) (Or.inl ⟨by rfl, ?_⟩) (by assumption) ?_
                rotate_left
                · (intro w hSw; (try dsimp only at hSw); go_simp; try with_reducible rfl)
                try simp only [nmC]
                refine wpAnyG_take (i := 4) (v := ?_) rfl (by kernel_rfl) (by kernel_rfl) (by kernel_rfl) (by kernel_rfl) (by kernel_rfl) (fun _ _ _ h => h) (Or.inl ⟨by rfl, ?_⟩) (by assumption) ?_
                rotate_left
                · (intro w hSw; (try dsimp only at hSw); go_simp; try with_reducible rfl)
                try simp only [nmC]
                refine wpAnyG_take (i := 5) (v := ?_) rfl (by kernel_rfl) (by kernel_rfl) (by kernel_rfl) (by kernel_rfl) (by kernel_rfl) (fun _ _ _ h => h) (Or.inl ⟨by rfl, ?_⟩) (by assumption) ?_
                rotate_left
                · (intro w hSw; (try dsimp only at hSw); go_simp; try with_reducible rfl)
                try simp only [nmC]
                refine wpAnyG_take (i := 6) (v := ?_) rfl (by kernel_rfl) (by kernel_rfl) (by kernel_rfl) (by kernel_rfl) (by kernel_rfl) (fun _ _ _ h => h) (Or.inl ⟨by rfl, ?_⟩) (by assumption) ?_
                rotate_left
                · (intro w hSw; (try dsimp only at hSw); go_simp; try with_reducible rfl)
                try simp only [nmC]
                refine wpAnyG_take (i := 7) (v := undef) rfl (by kernel_rfl) (by kernel_rfl) (by kernel_rfl) (by kernel_rfl) (by kernel_rfl) (fun _ _ _ h => h) (Or.inr ⟨by rfl, rfl⟩) (by assumption) ?_
                try simp only [nmC]
                refine wpAnyG_take (i := 8) (v := undef) rfl (by kernel_rfl) (by kernel_rfl) (by kernel_rfl) (by kernel_rfl) (by kernel_rfl) (fun _ _ _ h => h) (Or.inr ⟨by rfl, rfl⟩) (by assumption) ?_
                try simp only [nmC]
                refine wpAnyG_take (i := 9) (v := undef) rfl (by kernel_rfl) (by kernel_rfl) (by kernel_rfl) (by kernel_rfl) (by kernel_rfl) (fun _ _ _ h => h) (Or.inr ⟨by rfl, rfl⟩) (by assumption) ?_
                try simp only [nmC]
                refine wpAnyG_take (i := 10) (v := undef) rfl (by kernel_rfl) (by kernel_rfl) (by kernel_rfl) (by kernel_rfl) (by kernel_rfl) (fun _ _ _ h => h) (Or.inr ⟨by rfl, rfl⟩) (by assumption) ?_
                try simp only [nmC]
                refine wpAnyG_take (i := 11) (v := undef) rfl (by kernel_rfl) (by kernel_rfl) (by kernel_rfl) (by kernel_rfl) (by kernel_rfl) (fun _ _ _ h => h) (Or.inr ⟨by rfl, rfl⟩) (by assumption) ?_
                try simp only [nmC]
                refine wpAnyG_take (i := 12) (v := undef) rfl (by kernel_rfl) (by kernel_rfl) (by kernel_rfl) (by kernel_rfl) (by kernel_rfl) (fun _ _ _ h => h) (Or.inr ⟨by rfl, rfl⟩) (by assumption) ?_
                try simp only [nmC]
                refine wpAnyG_take (i := 13) (v := ?_) rfl (by kernel_rfl) (by kernel_rfl) (by kernel_rfl) (by kernel_rfl) (by kernel_rfl) (fun _ _ _ h => h) (Or.inl ⟨by rfl, ?_⟩) (by assumption) ?_
                rotate_left
                · (intro w hSw; (try dsimp only at hSw); go_simp; try with_reducible rfl)
                try simp only [nmC]
                refine wpAnyG_done (by kernel_rfl) ?_ _
                have hd6 := HD5.out
                have HB6 : Hid (Below rb w wd) := Lib.hid (HB.out.trans (hd6.mono (by omega)))
                have HR6 := Lib.hid ((hd6.block rb hrw).trans HR.out)
                have HX6 := Lib.hid ((hd6.block xb hxw).trans HX.out)
                obtain ⟨hfr, r0, r1, r2, r3, r4, hfin⟩ := ins_end (w := w) (W := wd) (by rw [hrb]; exact HB6.out) (by rw [hrb]; exact HR6.out)
                rw [hrb] at hfr r0 r1 r2 r3 r4 hfin
                have f0 := hfr 0
                have f1 := hfr 1
                have f2 := hfr 2
                have f3 := hfr 3
                have f4 := hfr 4
                have HFIN := Lib.hid hfin
                have y0 := cell_of_row wd xb 0 _ _ _ HX6.out
                have y1 := cell_of_row wd xb 1 _ _ _ HX6.out
                have y2 := cell_of_row wd xb 2 _ _ _ HX6.out
                have y3 := cell_of_row wd xb 3 _ _ _ HX6.out
                have y4 := cell_of_row wd xb 4 _ _ _ HX6.out
                have g3 := frozen_of_row wd xb 3 _ _ HX6.out
                simp only [List.getElem?_toArray, List.getElem?_cons_zero, List.getElem?_cons_succ] at y0 y1 y2 y3 y4
                have hxr2 : xb ≠ rb := Ne.symm hxr
                clear hfr hfin hd6
                go_wp2_with fail
                refine bodyPost_ret (inst_result _ _ rb (.int .i64 0) (.int .i64 0) (.int .i64 0) (.string ⟨#[]⟩) (.int .i64 0) (.bool false) rfl rfl ?_ ?_ ?_ ?_ ?_) rfl ⟨by rw [hrb]; exact HFIN.out _ _ _ _ _, rfl⟩
                iterate 5 (· first | (simp [r0, r1, r2, r3, r4]; done) | (go_simp; done))
              · have eu : u.isEmpty = false := by simpa using hu0
                have HQT := Lib.hid (fun W => Quote_any u W (by omega))
                obtain ⟨Q, hQ⟩ : ∃ Q, 34 :: quoteL u ++ [34] = Q := ⟨_, rfl⟩
                rw [hQ] at hRE HQT
                clear hQ
                by_cases hqq : Q = q
                · obtain rfl : q = Q := hqq.symm
                  have hR : R = some ⟨O, x, y, ⟨⟨u⟩⟩, z⟩ := by rw [← hRE, if_neg (by simp [hu0])]
                  subst hR
                  clear hRE
                  go_upto_region 11 with (go_at_call 99; refine (HUQ.out _).mono ?_; rintro e w5 ⟨hb5, rfl⟩)
                  have q50 := old_cell0 q4 hb5
                  have q5 : w5.drew.cell? ⟨g, 4, none⟩ = some (.string ⟨⟨q⟩⟩) := q50
                  have HD5 : Hid (Below wc.heap.size wc w5.drew) := Lib.hid ⟨hb5.os, hb5.tape, hb5.output, hb5.size, hb5.block⟩
                  clear hb5 q4 q50
                  refine wp_region_G [] (fun u => u.cell? ⟨g, 4, none⟩ = some (.string ⟨⟨q⟩⟩)) (by rfl) ?_ (fun hHeld => ?_)
                  · exact q5
                  generalize hwd : World.drew w5 = wd at q5 HD5 hHeld ⊢
                  refine wpAnyG_take (i := 0) (v := ?_) rfl (by kernel_rfl) (by kernel_rfl) (by kernel_rfl) (by kernel_rfl) (by kernel_rfl) (fun _ _ _ h => h) (Or.inl ⟨by rfl, ?_⟩) (by assumption) ?_
                  rotate_left
                  · (intro w hSw; (try dsimp only at hSw); go_simp; try with_reducible rfl)
                  try simp only [nmC]
                  refine wpAnyG_take (i := 1) (v := ?_) rfl (by kernel_rfl) (by kernel_rfl) (by kernel_rfl) (by kernel_rfl) (by kernel_rfl) (fun _ _ _ h => h) (Or.inl ⟨by rfl, ?_⟩) (by assumption) ?_
                  rotate_left
                  · (intro w hSw; (try dsimp only at hSw); go_simp; try with_reducible rfl)
                  try simp only [nmC]
                  refine wpAnyG_take (i := 2) (v := ?_) rfl (by kernel_rfl) (by kernel_rfl) (by kernel_rfl) (by kernel_rfl) (by kernel_rfl) (fun _ _ _ h => h) (Or.inl ⟨by rfl, ?_⟩) (by assumption) ?_
                  rotate_left
                  · (intro w hSw; (try dsimp only at hSw); go_simp; try with_reducible rfl)
                  try simp only [nmC]
                  refine wpAnyG_take (i := 3) (v := ?_) rfl (by kernel_rfl) (by kernel_rfl) (by kernel_rfl) (by kernel_rfl) (by kernel_rfl) (fun _ _ _ h => h) (Or.inl ⟨by rfl, ?_⟩) (by assumption) ?_
                  rotate_left
                  · (intro w hSw; (try dsimp only at hSw); go_simp; try with_reducible rfl)
                  try simp only [nmC]
                  refine wpAnyG_take (i := 4) (v := ?_) rfl (by kernel_rfl) (by kernel_rfl) (by kernel_rfl) (by kernel_rfl) (by kernel_rfl) (fun _ _ _ h => h) (Or.inl ⟨by rfl, ?_⟩) (by assumption) ?_
                  rotate_left
                  · (intro w hSw; (try dsimp only at hSw); go_simp; try with_reducible rfl)
                  try simp only [nmC]
                  refine wpAnyG_take (i := 5) (v := ?_) rfl (by kernel_rfl) (by kernel_rfl) (by kernel_rfl) (by kernel_rfl) (by kernel_rfl) (fun _ _ _ h => h) (Or.inl ⟨by rfl, ?_⟩) (by assumption) ?_
                  rotate_left
                  · (intro w hSw; (try dsimp only at hSw); go_simp; try with_reducible rfl)
                  try simp only [nmC]
                  refine wpAnyG_take (i := 6) (v := ?_) rfl (by kernel_rfl) (by kernel_rfl) (by kernel_rfl) (by kernel_rfl) (by kernel_rfl) (fun _ _ _ h => h) (Or.inl ⟨by rfl, ?_⟩) (by assumption) ?_
                  rotate_left
                  · (intro w hSw; (try dsimp only at hSw); go_simp; try with_reducible rfl)
                  try simp only [nmC]
                  refine wpAnyG_take (i := 7) (v := ?_) rfl (by kernel_rfl) (by kernel_rfl) (by kernel_rfl) (by kernel_rfl) (by kernel_rfl) (fun _ _ _ h => h) (Or.inl ⟨by rfl, ?_⟩) (by assumption) ?_
                  rotate_left
                  · (intro w hSw; (try dsimp only at hSw); go_simp; try with_reducible rfl)
                  try simp only [nmC]
                  refine wpAnyG_take (i := 9) (v := ?_) rfl (by kernel_rfl) (by kernel_rfl) (by kernel_rfl) (by kernel_rfl) (by kernel_rfl) (fun _ _ _ h => h) (Or.inl ⟨by rfl, ?_⟩) (by assumption) ?_
                  rotate_left
                  · (intro w hSw; (try dsimp only at hSw); go_simp; try with_reducible rfl)
                  try simp only [nmC]
                  refine wpAnyG_take (i := 10) (v := ?_) rfl (by kernel_rfl) (by kernel_rfl) (by kernel_rfl) (by kernel_rfl) (by kernel_rfl) (fun _ _ _ h => h) (Or.inl ⟨by rfl, ?_⟩) (by assumption) ?_
                  rotate_left
                  · (intro w hSw; (try dsimp only at hSw); go_simp; try with_reducible rfl)
                  try simp only [nmC]
                  refine wpAnyG_take (i := 11) (v := ?_) rfl (by kernel_rfl) (by kernel_rfl) (by kernel_rfl) (by kernel_rfl) (by kernel_rfl) (fun _ _ _ h => h) (Or.inl ⟨by rfl, ?_⟩) (by assumption) ?_
                  rotate_left
                  · (intro w hSw; (try dsimp only at hSw); go_simp; try with_reducible rfl)
                  try simp only [nmC]
                  refine wpAnyG_ready (rs := [8]) (by kernel_rfl) (by simp) ?_
                  refine AllReadyG.cons rfl (fun KK hKK => ?_) AllReadyG.nil
                  go_simp
                  go_at_call 40
                  refine (HQT.out _).mono ?_
                  rintro e wq ⟨rfl, hbq⟩
                  have q5 := old_cell0 q5 hbq
                  have HBQ := Lib.hid hbq
                  clear hbq
                  try dsimp only
                  refine hKK.out _ _ (q5) (fun hHeld => ?_)
                  clear hKK KK
                  try simp only [nmC]
                  refine wpAnyG_take (i := 12) (v := ?_) rfl (by kernel_rfl) (by kernel_rfl) (by kernel_rfl) (by kernel_rfl) (by kernel_rfl) (fun _ _ _ h => h) (Or.inl ⟨by rfl, ?_⟩) (by assumption) ?_
                  rotate_left
                  · (intro w hSw; (try dsimp only at hSw); go_simp; try with_reducible rfl)
                  try simp only [nmC]
                  refine wpAnyG_take (i := 13) (v := ?_) rfl (by kernel_rfl) (by kernel_rfl) (by kernel_rfl) (by kernel_rfl) (by kernel_rfl) (fun _ _ _ h => h) (Or.inl ⟨by rfl, ?_⟩) (by assumption) ?_
                  rotate_left
                  · (intro w hSw; (try dsimp only at hSw); go_simp; try with_reducible rfl)
                  try simp only [nmC]
                  refine wpAnyG_done (by kernel_rfl) ?_ _
                  have hd6 := HD5.out.trans (HBQ.out.mono HD5.out.size)
                  have HB6 : Hid (Below rb w wq) := Lib.hid (HB.out.trans (hd6.mono (by omega)))
                  have HR6 := Lib.hid ((hd6.block rb hrw).trans HR.out)
                  have HX6 := Lib.hid ((hd6.block xb hxw).trans HX.out)
                  obtain ⟨hfr, r0, r1, r2, r3, r4, hfin⟩ := ins_end (w := w) (W := wq) (by rw [hrb]; exact HB6.out) (by rw [hrb]; exact HR6.out)
                  rw [hrb] at hfr r0 r1 r2 r3 r4 hfin
                  have f0 := hfr 0
                  have f1 := hfr 1
                  have f2 := hfr 2
                  have f3 := hfr 3
                  have f4 := hfr 4
                  have HFIN := Lib.hid hfin
                  have y0 := cell_of_row wq xb 0 _ _ _ HX6.out
                  have y1 := cell_of_row wq xb 1 _ _ _ HX6.out
                  have y2 := cell_of_row wq xb 2 _ _ _ HX6.out
                  have y3 := cell_of_row wq xb 3 _ _ _ HX6.out
                  have y4 := cell_of_row wq xb 4 _ _ _ HX6.out
                  have g3 := frozen_of_row wq xb 3 _ _ HX6.out
                  simp only [List.getElem?_toArray, List.getElem?_cons_zero, List.getElem?_cons_succ] at y0 y1 y2 y3 y4
                  have hxr2 : xb ≠ rb := Ne.symm hxr
                  clear hfr hfin hd6
                  go_wp2_with fail
                  refine bodyPost_ret (inst_result _ _ rb (.int .i64 O) (.int .i64 x) (.int .i64 y) (.string ⟨⟨u⟩⟩) (.int .i64 z) (.bool true) rfl rfl ?_ ?_ ?_ ?_ ?_) rfl ⟨?_, rfl⟩
                  iterate 5 (· first | (simp [r0, r1, r2, r3, r4]; done) | (go_simp; done))
                  · rw [hrb]
                    exact (((((HB6.out.setCell (by show rb ≤ xb; omega) _).setCell (Nat.le_refl _) _).setCell (Nat.le_refl _) _).setCell (Nat.le_refl _) _).setCell (Nat.le_refl _) _).setCell (Nat.le_refl _) _
                · have hR : R = none := by rw [← hRE, if_pos (.inr hqq)]
                  subst hR
                  have eq1 : (Q == q) = false := by simpa using hqq
                  have eq2 : (Q != q) = true := by simpa using hqq
                  clear hRE
                  go_upto_region 11 with (go_at_call 99; refine (HUQ.out _).mono ?_; rintro e w5 ⟨hb5, rfl⟩)
                  have q50 := old_cell0 q4 hb5
                  have q5 : w5.drew.cell? ⟨g, 4, none⟩ = some (.string ⟨⟨q⟩⟩) := q50
                  have HD5 : Hid (Below wc.heap.size wc w5.drew) := Lib.hid ⟨hb5.os, hb5.tape, hb5.output, hb5.size, hb5.block⟩
                  clear hb5 q4 q50
                  refine wp_region_G [] (fun u => u.cell? ⟨g, 4, none⟩ = some (.string ⟨⟨q⟩⟩)) (by rfl) ?_ (fun hHeld => ?_)
                  · exact q5
                  generalize hwd : World.drew w5 = wd at q5 HD5 hHeld ⊢
                  refine wpAnyG_take (i := 0) (v := ?_) rfl (by kernel_rfl) (by kernel_rfl) (by kernel_rfl) (by kernel_rfl) (by kernel_rfl) (fun _ _ _ h => h) (Or.inl ⟨by rfl, ?_⟩) (by assumption) ?_
                  rotate_left
                  · (intro w hSw; (try dsimp only at hSw); go_simp; try with_reducible rfl)
                  try simp only [nmC]
                  refine wpAnyG_take (i := 1) (v := ?_) rfl (by kernel_rfl) (by kernel_rfl) (by kernel_rfl) (by kernel_rfl) (by kernel_rfl) (fun _ _ _ h => h) (Or.inl ⟨by rfl, ?_⟩) (by assumption) ?_
                  rotate_left
                  · (intro w hSw; (try dsimp only at hSw); go_simp; try with_reducible rfl)
                  try simp only [nmC]
                  refine wpAnyG_take (i := 2) (v := ?_) rfl (by kernel_rfl) (by kernel_rfl) (by kernel_rfl) (by kernel_rfl) (by kernel_rfl) (fun _ _ _ h => h) (Or.inl ⟨by rfl, ?_⟩) (by assumption) ?_
                  rotate_left
                  · (intro w hSw; (try dsimp only at hSw); go_simp; try with_reducible rfl)
                  try simp only [nmC]
                  refine wpAnyG_take (i := 3) (v := ?_) rfl (by kernel_rfl) (by kernel_rfl) (by kernel_rfl) (by kernel_rfl) (by kernel_rfl) (fun _ _ _ h => h) (Or.inl ⟨by rfl, ?_⟩) (by assumption) ?_
                  rotate_left
                  · (intro w hSw; (try dsimp only at hSw); go_simp; try with_reducible rfl)
                  try simp only [nmC]
                  refine wpAnyG_take (i := 4) (v := ?_) rfl (by kernel_rfl) (by kernel_rfl) (by kernel_rfl) (by kernel_rfl) (by kernel_rfl) (fun _ _ _ h => h) (Or.inl ⟨by rfl, ?_⟩) (by assumption) ?_
                  rotate_left
                  · (intro w hSw; (try dsimp only at hSw); go_simp; try with_reducible rfl)
                  try simp only [nmC]
                  refine wpAnyG_take (i := 5) (v := ?_) rfl (by kernel_rfl) (by kernel_rfl) (by kernel_rfl) (by kernel_rfl) (by kernel_rfl) (fun _ _ _ h => h) (Or.inl ⟨by rfl, ?_⟩) (by assumption) ?_
                  rotate_left
                  · (intro w hSw; (try dsimp only at hSw); go_simp; try with_reducible rfl)
                  try simp only [nmC]
                  refine wpAnyG_take (i := 6) (v := ?_) rfl (by kernel_rfl) (by kernel_rfl) (by kernel_rfl) (by kernel_rfl) (by kernel_rfl) (fun _ _ _ h => h) (Or.inl ⟨by rfl, ?_⟩) (by assumption) ?_
                  rotate_left
                  · (intro w hSw; (try dsimp only at hSw); go_simp; try with_reducible rfl)
                  try simp only [nmC]
                  refine wpAnyG_take (i := 7) (v := ?_) rfl (by kernel_rfl) (by kernel_rfl) (by kernel_rfl) (by kernel_rfl) (by kernel_rfl) (fun _ _ _ h => h) (Or.inl ⟨by rfl, ?_⟩) (by assumption) ?_
                  rotate_left
                  · (intro w hSw; (try dsimp only at hSw); go_simp; try with_reducible rfl)
                  try simp only [nmC]
                  refine wpAnyG_take (i := 9) (v := ?_) rfl (by kernel_rfl) (by kernel_rfl) (by kernel_rfl) (by kernel_rfl) (by kernel_rfl) (fun _ _ _ h => h) (Or.inl ⟨by rfl, ?_⟩) (by assumption) ?_
                  rotate_left
                  · (intro w hSw; (try dsimp only at hSw); go_simp; try with_reducible rfl)
                  try simp only [nmC]
                  refine wpAnyG_take (i := 10) (v := ?_) rfl (by kernel_rfl) (by kernel_rfl) (by kernel_rfl) (by kernel_rfl) (by kernel_rfl) (fun _ _ _ h => h) (Or.inl ⟨by rfl, ?_⟩) (by assumption) ?_
                  rotate_left
                  · (intro w hSw; (try dsimp only at hSw); go_simp; try with_reducible rfl)
                  try simp only [nmC]
                  refine wpAnyG_take (i := 11) (v := ?_) rfl (by kernel_rfl) (by kernel_rfl) (by kernel_rfl) (by kernel_rfl) (by kernel_rfl) (fun _ _ _ h => h) (Or.inl ⟨by rfl, ?_⟩) (by assumption) ?_
                  rotate_left
                  · (intro w hSw; (try dsimp only at hSw); go_simp; try with_reducible rfl)
                  try simp only [nmC]
                  refine wpAnyG_ready (rs := [8]) (by kernel_rfl) (by simp) ?_
                  refine AllReadyG.cons rfl (fun KK hKK => ?_) AllReadyG.nil
                  go_simp
                  go_at_call 40
                  refine (HQT.out _).mono ?_
                  rintro e wq ⟨rfl, hbq⟩
                  have q5 := old_cell0 q5 hbq
                  have HBQ := Lib.hid hbq
                  clear hbq
                  try dsimp only
                  refine hKK.out _ _ (q5) (fun hHeld => ?_)
                  clear hKK KK
                  try simp only [nmC]
                  refine wpAnyG_take (i := 12) (v := ?_) rfl (by kernel_rfl) (by kernel_rfl) (by kernel_rfl) (by kernel_rfl) (by kernel_rfl) (fun _ _ _ h => h) (Or.inl ⟨by rfl, ?_⟩) (by assumption) ?_
                  rotate_left
                  · (intro w hSw; (try dsimp only at hSw); go_simp; try with_reducible rfl)
                  try simp only [nmC]
                  refine wpAnyG_take (i := 13) (v := ?_) rfl (by kernel_rfl) (by kernel_rfl) (by kernel_rfl) (by kernel_rfl) (by kernel_rfl) (fun _ _ _ h => h) (Or.inl ⟨by rfl, ?_⟩) (by assumption) ?_
                  rotate_left
                  · (intro w hSw; (try dsimp only at hSw); go_simp; try with_reducible rfl)
                  try simp only [nmC]
                  refine wpAnyG_done (by kernel_rfl) ?_ _
                  have hd6 := HD5.out.trans (HBQ.out.mono HD5.out.size)
                  have HB6 : Hid (Below rb w wq) := Lib.hid (HB.out.trans (hd6.mono (by omega)))
                  have HR6 := Lib.hid ((hd6.block rb hrw).trans HR.out)
                  have HX6 := Lib.hid ((hd6.block xb hxw).trans HX.out)
                  obtain ⟨hfr, r0, r1, r2, r3, r4, hfin⟩ := ins_end (w := w) (W := wq) (by rw [hrb]; exact HB6.out) (by rw [hrb]; exact HR6.out)
                  rw [hrb] at hfr r0 r1 r2 r3 r4 hfin
                  have f0 := hfr 0
                  have f1 := hfr 1
                  have f2 := hfr 2
                  have f3 := hfr 3
                  have f4 := hfr 4
                  have HFIN := Lib.hid hfin
                  have y0 := cell_of_row wq xb 0 _ _ _ HX6.out
                  have y1 := cell_of_row wq xb 1 _ _ _ HX6.out
                  have y2 := cell_of_row wq xb 2 _ _ _ HX6.out
                  have y3 := cell_of_row wq xb 3 _ _ _ HX6.out
                  have y4 := cell_of_row wq xb 4 _ _ _ HX6.out
                  have g3 := frozen_of_row wq xb 3 _ _ HX6.out
                  simp only [List.getElem?_toArray, List.getElem?_cons_zero, List.getElem?_cons_succ] at y0 y1 y2 y3 y4
                  have hxr2 : xb ≠ rb := Ne.symm hxr
                  clear hfr hfin hd6
                  go_wp2_with fail
                  refine bodyPost_ret (inst_result _ _ rb (.int .i64 0) (.int .i64 0) (.int .i64 0) (.string ⟨#[]⟩) (.int .i64 0) (.bool false) rfl rfl ?_ ?_ ?_ ?_ ?_) rfl ⟨by rw [hrb]; exact HFIN.out _ _ _ _ _, rfl⟩
                  iterate 5 (· first | (simp [r0, r1, r2, r3, r4]; done) | (go_simp; done))
end Go.Proofs.YtdjbkppdppdcgaaGreatDoor
