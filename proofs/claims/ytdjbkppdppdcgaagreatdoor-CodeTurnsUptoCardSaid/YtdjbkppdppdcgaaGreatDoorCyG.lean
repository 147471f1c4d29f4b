/- code.inst of a line without a text. -/
import Derived.Lib.Split
import Derived.Test.YtdjbkppdppdcgaaGreatDoorMCxJ
import Derived.Test.YtdjbkppdppdcgaaGreatDoorCxI
import Derived.Test.YtdjbkppdppdcgaaGreatDoorMScanA
namespace Go.Proofs.YtdjbkppdppdcgaaGreatDoor
open Go.RowKit

theorem Gc.maxLen {w : World} (h : Gc w) : ∃ m, w.cell? ⟨2, 0, none⟩ = some (.int .i64 m) := h.max
theorem set_other {W : World} {a b : Addr} {v u : Value} (h : W.cell? b = some u) (hne : b.block ≠ a.block) : (W.setCell a v).cell? b = some u :=
  (World.cell?_of_block (w := W) (a := b) (Below.heap_setCell W _ _ _ hne)).trans h
theorem splitM_cells {s : List UInt8} {k : Nat} {a b c d : List UInt8} (hk : splitM 32 k s = [a, b, c, d]) :
    Lib.splitB ⟨#[32]⟩ 0 k ⟨⟨s⟩⟩ = [⟨⟨a⟩⟩, ⟨⟨b⟩⟩, ⟨⟨c⟩⟩, ⟨⟨d⟩⟩] := by
  have h := Lib.splitB_data ⟨#[32]⟩ 0 k ⟨⟨s⟩⟩
  rw [show (⟨#[32]⟩ : ByteArray).data.toList = [32] from rfl, splitK_one, show (⟨⟨s⟩⟩ : ByteArray).data.toList = s from rfl, hk] at h
  obtain ⟨l, hl⟩ : ∃ l, Lib.splitB ⟨#[32]⟩ 0 k ⟨⟨s⟩⟩ = l := ⟨_, rfl⟩
  rw [hl] at h ⊢
  match l, h with
  | [⟨⟨w⟩⟩, ⟨⟨x⟩⟩, ⟨⟨y⟩⟩, ⟨⟨z⟩⟩], h =>
    simp only [List.map_cons, List.map_nil, List.cons.injEq, and_true] at h
    obtain ⟨rfl, rfl, rfl, rfl⟩ := h
    rfl
theorem cells5 (a b c d : ByteArray) : Lib.cellsOf [a, b, c, d] 5 = #[.string a, .string b, .string c, .string d, .string ByteArray.empty] := rfl
theorem inst_result (tmps : Array Value) (W : World) (g : Nat) (v0 v1 v2 v3 v4 v5 : Value) (h2 : tmps.getD 2 undef = .pointer (some ⟨g, 0, none⟩)) (h3 : tmps.getD 3 undef = v5) (e0 : W.cell? ⟨g, 0, none⟩ = some v0) (e1 : W.cell? ⟨g, 1, none⟩ = some v1) (e2 : W.cell? ⟨g, 2, none⟩ = some v2) (e3 : W.cell? ⟨g, 3, none⟩ = some v3) (e4 : W.cell? ⟨g, 4, none⟩ = some v4) :
    (results Tryz.f71 tmps).run Tryz.prog W = .ok (.tuple #[.agg #[v0, v1, v2, v3, v4], v5]) W := by
  have h2' : tmps[2]?.getD undef = .pointer (some ⟨g, 0, none⟩) := by simpa using h2
  have h3' : tmps[3]?.getD undef = v5 := by simpa using h3
  have hres : Tryz.f71.results = #[ResultVar.cell 2 46, ResultVar.tmp 3] := rfl
  simp [results, go_sem, h2', h3', e0, e1, e2, e3, e4]

set_option maxRecDepth 100000 in
set_option maxHeartbeats 8000000 in
theorem inst_plain {w : World} (hG : Gc w) {s a b c d : List UInt8} {x y z : Int} (hs : splitM 32 4 s = [a, b, c, d]) (h4 : 4 ≤ s.length) (h9 : s.length ≤ 1000000) (hi : intsL [b, c, d] = some [x, y, z]) (hab : b.length ≤ 1000000 ∧ c.length ≤ 1000000 ∧ d.length ≤ 1000000) (ho : operationL a ≠ 0) :
    Calls Tryz.prog 71 #[.string ⟨⟨s⟩⟩] w fun e w' => e = .returned (.tuple #[.agg #[.int .i64 (operationL a : Nat), .int .i64 x, .int .i64 y, .string ⟨#[]⟩, .int .i64 z], .bool true]) ∧ Below w.heap.size w w' := by
  obtain ⟨O, hO⟩ : ∃ O, operationL a = O := ⟨_, rfl⟩
  have hop := fun W => operation_any a W
  rw [hO] at hop ho ⊢
  have HOP := Lib.hid hop
  have HG := Lib.hid hG
  have HI := Lib.hid hi
  have hmin : min 5 ((⟨⟨s⟩⟩ : ByteArray).size + 1) = 5 := by show min 5 (s.length + 1) = 5; omega
  have HSP : Hid (∀ W, Gc W → Calls Tryz.prog 96 #[.string ⟨⟨s⟩⟩, .string ⟨#[32]⟩, .int .i64 5] W fun e w' => e = .returned (.slice (some ⟨W.heap.size, 0, none⟩) 4 5) ∧ w' = W.alloc (.cells #[.string ⟨⟨a⟩⟩, .string ⟨⟨b⟩⟩, .string ⟨⟨c⟩⟩, .string ⟨⟨d⟩⟩, .string ByteArray.empty] 9)) := Lib.hid fun W hW => by
    obtain ⟨m, hm⟩ := hW.max
    have := Tryz.strings_SplitN ⟨⟨s⟩⟩ ⟨#[32]⟩ 5 m W (by show s.length < _; omega) hm (by decide) (by decide) (by decide)
    rw [hmin, splitM_cells (show splitM 32 (5 - 1) s = [a, b, c, d] from hs), cells5] at this
    exact this
  have HL : Hid (∀ t ∈ [b, c, d], t.length ≤ 140737488351232) := Lib.hid (by
    intro t ht
    rcases List.mem_cons.1 ht with rfl | ht
    · exact Nat.le_trans hab.1 (by decide)
    rcases List.mem_cons.1 ht with rfl | ht
    · exact Nat.le_trans hab.2.1 (by decide)
    · rw [List.mem_singleton.1 ht]; exact Nat.le_trans hab.2.2 (by decide))
  have e0 : ((O : Int) == 0) = false := by simp [ho]
  clear hop hG hi hmin hs hO hab h4 h9 ho
  go_enter Tryz.func71, Tryz.ntmps71
  have hB0 : Below w.heap.size w (w.alloc (.cells #[.int .i64 0, .int .i64 0, .int .i64 0, .string ⟨#[]⟩, .int .i64 0] 46 (0, 0))) := (Below.refl _ _).alloc (Nat.le_refl _) _
  have HB0 := Lib.hid hB0
  have hr0 := heap_alloc_new w (.cells #[.int .i64 0, .int .i64 0, .int .i64 0, .string ⟨#[]⟩, .int .i64 0] 46 (0, 0))
  clear hB0
  go_upto_region 2 with (go_at_call 96; refine (HSP.out _ (HG.out.up HB0.out)).mono ?_; rintro e w1 ⟨rfl, rfl⟩)
  have hr1 := (heap_alloc_old _ (.cells #[.string ⟨⟨a⟩⟩, .string ⟨⟨b⟩⟩, .string ⟨⟨c⟩⟩, .string ⟨⟨d⟩⟩, .string ByteArray.empty] 9 (0, 0)) (Array.getElem?_eq_some_iff.1 hr0).1).trans hr0
  have hs1 := heap_alloc_new (w.alloc (.cells #[.int .i64 0, .int .i64 0, .int .i64 0, .string ⟨#[]⟩, .int .i64 0] 46 (0, 0))) (.cells #[.string ⟨⟨a⟩⟩, .string ⟨⟨b⟩⟩, .string ⟨⟨c⟩⟩, .string ⟨⟨d⟩⟩, .string ByteArray.empty] 9 (0, 0))
  rw [World.size_alloc] at hs1
  have hB1 := HB0.out.alloc (by simp) (.cells #[.string ⟨⟨a⟩⟩, .string ⟨⟨b⟩⟩, .string ⟨⟨c⟩⟩, .string ⟨⟨d⟩⟩, .string ByteArray.empty] 9 (0, 0))
  obtain ⟨W1, hW1⟩ : ∃ W1, (w.alloc (.cells #[.int .i64 0, .int .i64 0, .int .i64 0, .string ⟨#[]⟩, .int .i64 0] 46 (0, 0))).alloc (.cells #[.string ⟨⟨a⟩⟩, .string ⟨⟨b⟩⟩, .string ⟨⟨c⟩⟩, .string ⟨⟨d⟩⟩, .string ByteArray.empty] 9 (0, 0)) = W1 := ⟨_, rfl⟩
  simp only [hW1] at hr1 hs1 hB1 ⊢
  obtain ⟨rb, hrb⟩ : ∃ rb, w.heap.size = rb := ⟨_, rfl⟩
  simp only [hrb] at hr1 hs1 hB1 ⊢
  obtain ⟨g, hg⟩ : ∃ g, rb + 1 = g := ⟨_, rfl⟩
  simp only [hg] at hr1 hs1 hB1 ⊢
  have q0 := cell_of_row W1 g 0 _ _ _ hs1
  simp only [List.getElem?_toArray, List.getElem?_cons_zero] at q0
  have HB1 := Lib.hid hB1
  have HR1 := Lib.hid hr1
  have HQ0 := Lib.hid q0
  have HG1 := Lib.hid (HG.out.up (by rw [hrb]; exact HB1.out))
  have HRW : Hid (RowIs W1 W1.heap.size (some ⟨g, 1, none⟩) ([b, c, d].map fun s => Value.string ⟨⟨s⟩⟩)) := Lib.hid (.inr ⟨g, 1, rfl, (Array.getElem?_eq_some_iff.1 hs1).1, fun j v hj => by
    have := cell_of_row W1 g (1 + j) _ _ _ hs1
    rw [this, List.getElem?_toArray]
    match j, hj with
    | 0, hj => exact hj
    | 1, hj => exact hj
    | 2, hj => exact hj⟩)
  have hgr : rb ≠ g := by omega
  have hrl := (Array.getElem?_eq_some_iff.1 hr1).1
  have hgl := (Array.getElem?_eq_some_iff.1 hs1).1
  clear hW1 hr0 hr1 hs1 hB1 q0 HB0 hg
  go_upto_region 5 with (go_at_call 97; refine (ints_some (l := [b, c, d]) HG1.out rfl HRW.out HI.out HL.out (by simp)).mono ?_; rintro e w2 ⟨v2, rfl, ho2, hb2⟩)
  obtain ⟨ig, icap, rfl, hig1, hig2⟩ := ho2.form (show 0 < [b, c, d].length by simp)
  have j0 := ho2.cells (g := ig) rfl 0 (.int .i64 x) rfl
  have j1 := ho2.cells (g := ig) rfl 1 (.int .i64 y) rfl
  have j2 := ho2.cells (g := ig) rfl 2 (.int .i64 z) rfl
  simp only [Addr.add_lit, Nat.zero_add] at j0 j1 j2
  have q0 := old_cell0 HQ0.out hb2
  have HJ := Lib.hid (And.intro j0 (And.intro j1 j2))
  have HR2 := Lib.hid ((hb2.block rb hrl).trans HR1.out)
  have HB2 := Lib.hid (HB1.out.trans (hb2.mono (by have := HB1.out.size; omega)))
  have hs2 := hb2.size
  clear j0 j1 j2 ho2 hb2 HQ0 HR1
  go_upto_region 6 with (go_at_call 98; refine (HOP.out _).mono ?_; rintro e w3 ⟨rfl, hb3⟩)
  have hx3 := heap_alloc_new w3 (.cells #[.int .i64 O, .int .i64 0, .int .i64 0, .string ⟨#[]⟩, .int .i64 0] 46 (0, 0))
  have hB4 : Below w2.heap.size w2 (w3.alloc (.cells #[.int .i64 O, .int .i64 0, .int .i64 0, .string ⟨#[]⟩, .int .i64 0] 46 (0, 0))) := hb3.alloc hb3.size _
  have hs3 := hb3.size
  obtain ⟨xb, hxb⟩ : ∃ xb, w3.heap.size = xb := ⟨_, rfl⟩
  obtain ⟨W4, hW4⟩ : ∃ W4, w3.alloc (.cells #[.int .i64 O, .int .i64 0, .int .i64 0, .string ⟨#[]⟩, .int .i64 0] 46 (0, 0)) = W4 := ⟨_, rfl⟩
  simp only [hW4, hxb] at hx3 hB4 hs3 ⊢
  have x0 := cell_of_row W4 xb 0 _ _ _ hx3
  simp only [List.getElem?_toArray, List.getElem?_cons_zero] at x0
  have HX := Lib.hid hx3
  have HB4 := Lib.hid (HB2.out.trans (hB4.mono (by have := HB2.out.size; omega)))
  have HR4 := Lib.hid ((hB4.block rb (by omega)).trans HR2.out)
  have i0 := old_cell0 HJ.out.1 hB4
  have i1 := old_cell0 HJ.out.2.1 hB4
  have i2 := old_cell0 HJ.out.2.2 hB4
  have hxg : ig ≠ xb := by omega
  have hxr : rb ≠ xb := by omega
  clear hx3 hB4 hW4 hxb hb3 HR2 HB2 HJ q0 HG1 HRW HOP HSP HL HI HG HB1
  go_upto_region 8 with fail
  clear x0
  go_cut [] (fun wx => Hid (Below rb w wx) ∧ Hid (wx.heap[rb]? = some (.cells #[.int .i64 0, .int .i64 0, .int .i64 0, .string ⟨#[]⟩, .int .i64 0] 46 (0, 0))) ∧ Hid (wx.heap[xb]? = some (.cells #[.int .i64 O, .int .i64 x, .int .i64 y, .string ⟨#[]⟩, .int .i64 z] 46 (0, 0))))
  case first =>
    have HX := Lib.hid (show W4.drew.heap[xb]? = some (.cells #[.int .i64 O, .int .i64 0, .int .i64 0, .string ⟨#[]⟩, .int .i64 0] 46 (0, 0)) from HX.out)
    have HR := Lib.hid (show W4.drew.heap[rb]? = some (.cells #[.int .i64 0, .int .i64 0, .int .i64 0, .string ⟨#[]⟩, .int .i64 0] 46 (0, 0)) from HR4.out)
    have HB : Hid (Below rb w W4.drew) := Lib.hid ⟨HB4.out.os, HB4.out.tape, HB4.out.output, HB4.out.size, HB4.out.block⟩
    have hle : rb ≤ xb := by omega
    have y1 := cell_of_row W4.drew xb 1 _ _ _ HX.out
    have y2 := cell_of_row W4.drew xb 2 _ _ _ HX.out
    have y4 := cell_of_row W4.drew xb 4 _ _ _ HX.out
    have f1 := frozen_of_row W4.drew xb 1 _ _ HX.out
    have f2 := frozen_of_row W4.drew xb 2 _ _ HX.out
    have f4 := frozen_of_row W4.drew xb 4 _ _ HX.out
    simp only [List.getElem?_toArray, List.getElem?_cons_zero, List.getElem?_cons_succ] at y1 y2 y4
    have i0 : W4.drew.cell? ⟨ig, 0, none⟩ = some (.int .i64 x) := i0
    have i1 : W4.drew.cell? ⟨ig, 1, none⟩ = some (.int .i64 y) := i1
    have i2 : W4.drew.cell? ⟨ig, 2, none⟩ = some (.int .i64 z) := i2
    refine wp_region_G [] (fun u => u.cell? ⟨ig, 0, none⟩ = some (.int .i64 x) ∧ u.cell? ⟨ig, 1, none⟩ = some (.int .i64 y) ∧ u.cell? ⟨ig, 2, none⟩ = some (.int .i64 z)) (by rfl) ?_ (fun hHeld => ?_)
    · exact ⟨i0, i1, i2⟩
    generalize hwd : World.drew W4 = wd at HX HR HB y1 y2 y4 f1 f2 f4 i0 i1 i2 hHeld ⊢
    refine wpAnyG_take (i := 0) (v := ?_) rfl (by kernel_rfl) (by kernel_rfl) (by kernel_rfl) (by kernel_rfl) (by kernel_rfl) (fun _ _ _ h => h) (Or.inl ⟨by rfl, ?_⟩) (by assumption) ?_
    rotate_left
    · (intro w hSw; (try dsimp only at hSw); go_simp; try with_reducible rfl)
    try simp only [Act.put, List.getElem_toArray, List.getElem_cons_zero, List.setIfInBounds_toArray, List.set_cons_zero, List.set_cons_succ]
    refine wpAnyG_take (i := 1) (v := ?_) rfl (by kernel_rfl) (by kernel_rfl) (by kernel_rfl) (by kernel_rfl) (by kernel_rfl) (fun _ _ _ h => h) (Or.inl ⟨by rfl, ?_⟩) (by assumption) ?_
    rotate_left
    · (intro w hSw; (try dsimp only at hSw); go_simp; try with_reducible rfl)
    try simp only [Act.put, List.getElem_toArray, List.getElem_cons_zero, List.getElem_cons_succ, List.setIfInBounds_toArray, List.set_cons_zero, List.set_cons_succ]
    refine wpAnyG_take (i := 2) (v := ?_) rfl (by kernel_rfl) (by kernel_rfl) (by kernel_rfl) (by kernel_rfl) (by kernel_rfl) (fun _ _ _ h => h) (Or.inl ⟨by rfl, ?_⟩) (by assumption) ?_
    rotate_left
    · (intro w hSw; (try dsimp only at hSw); go_simp; try with_reducible rfl)
    try simp only [Act.put, List.getElem_toArray, List.getElem_cons_zero, List.getElem_cons_succ, List.setIfInBounds_toArray, List.set_cons_zero, List.set_cons_succ]
    refine wpAnyG_take (i := 3) (v := ?_) rfl (by kernel_rfl) (by kernel_rfl) (by kernel_rfl) (by kernel_rfl) (by kernel_rfl) (fun _ _ _ h => h) (Or.inl ⟨by rfl, ?_⟩) (by assumption) ?_
    rotate_left
    · (intro w hSw; (try dsimp only at hSw); go_simp; try with_reducible rfl)
    try simp only [Act.put, List.getElem_toArray, List.getElem_cons_zero, List.getElem_cons_succ, List.setIfInBounds_toArray, List.set_cons_zero, List.set_cons_succ]
    refine wpAnyG_take (i := 4) (v := ?_) rfl (by kernel_rfl) (by kernel_rfl) (by kernel_rfl) (by kernel_rfl) (by kernel_rfl) (fun _ _ _ h => h) (Or.inl ⟨by rfl, ?_⟩) (by assumption) ?_
    rotate_left
    · (intro w hSw; (try dsimp only at hSw); go_simp; try with_reducible rfl)
    try simp only [Act.put, List.getElem_toArray, List.getElem_cons_zero, List.getElem_cons_succ, List.setIfInBounds_toArray, List.set_cons_zero, List.set_cons_succ]
    refine wpAnyG_take (i := 5) (v := ?_) rfl (by kernel_rfl) (by kernel_rfl) (by kernel_rfl) (by kernel_rfl) (by kernel_rfl) (fun _ _ _ h => h) (Or.inl ⟨by rfl, ?_⟩) (by assumption) ?_
    rotate_left
    · (intro w hSw; (try dsimp only at hSw); go_simp; try with_reducible rfl)
    try simp only [Act.put, List.getElem_toArray, List.getElem_cons_zero, List.getElem_cons_succ, List.setIfInBounds_toArray, List.set_cons_zero, List.set_cons_succ]
    refine wpAnyG_take (i := 6) (v := ?_) rfl (by kernel_rfl) (by kernel_rfl) (by kernel_rfl) (by kernel_rfl) (by kernel_rfl) (fun _ _ _ h => h) (Or.inl ⟨by rfl, ?_⟩) (by assumption) ?_
    rotate_left
    · (intro w hSw; (try dsimp only at hSw); go_simp; try with_reducible rfl)
    try simp only [Act.put, List.getElem_toArray, List.getElem_cons_zero, List.getElem_cons_succ, List.setIfInBounds_toArray, List.set_cons_zero, List.set_cons_succ]
    refine wpAnyG_take (i := 7) (v := ?_) rfl (by kernel_rfl) (by kernel_rfl) (by kernel_rfl) (by kernel_rfl) (by kernel_rfl) (fun _ _ _ h => h) (Or.inl ⟨by rfl, ?_⟩) (by assumption) ?_
    rotate_left
    · (intro w hSw; (try dsimp only at hSw); go_simp; try with_reducible rfl)
    try simp only [Act.put, List.getElem_toArray, List.getElem_cons_zero, List.getElem_cons_succ, List.setIfInBounds_toArray, List.set_cons_zero, List.set_cons_succ]
    refine wpAnyG_take (i := 8) (v := ?_) rfl (by kernel_rfl) (by kernel_rfl) (by kernel_rfl) (by kernel_rfl) (by kernel_rfl) (fun _ _ _ h => h) (Or.inl ⟨by rfl, ?_⟩) (by assumption) ?_
    rotate_left
    · (intro w hSw; (try dsimp only at hSw); go_simp; try with_reducible rfl)
    try simp only [Act.put, List.getElem_toArray, List.getElem_cons_zero, List.getElem_cons_succ, List.setIfInBounds_toArray, List.set_cons_zero, List.set_cons_succ]
    refine wpAnyG_take (i := 9) (v := ?_) rfl (by kernel_rfl) (by kernel_rfl) (by kernel_rfl) (by kernel_rfl) (by kernel_rfl) (fun _ _ _ h => h) (Or.inl ⟨by rfl, ?_⟩) (by assumption) ?_
    rotate_left
    · (intro w hSw; (try dsimp only at hSw); go_simp; try with_reducible rfl)
    try simp only [Act.put, List.getElem_toArray, List.getElem_cons_zero, List.getElem_cons_succ, List.setIfInBounds_toArray, List.set_cons_zero, List.set_cons_succ]
    refine wpAnyG_ready (rs := [10]) (by kernel_rfl) (by simp) ?_
    refine AllReadyG.cons rfl (fun KK hKK => ?_) AllReadyG.nil
    go_simp
    have i0 := set_other (a := ⟨xb, 1, none⟩) (v := .int .i64 x) i0 hxg
    have i1 := set_other (a := ⟨xb, 1, none⟩) (v := .int .i64 x) i1 hxg
    have i2 := set_other (a := ⟨xb, 1, none⟩) (v := .int .i64 x) i2 hxg
    refine hKK.out _ _ (⟨i0, i1, i2⟩) (fun hHeld => ?_)
    clear hKK KK
    try simp only [Act.put, List.getElem_toArray, List.getElem_cons_zero, List.getElem_cons_succ, List.setIfInBounds_toArray, List.set_cons_zero, List.set_cons_succ]
    refine wpAnyG_take (i := 11) (v := ?_) rfl (by kernel_rfl) (by kernel_rfl) (by kernel_rfl) (by kernel_rfl) (by kernel_rfl) (fun _ _ _ h => h) (Or.inl ⟨by rfl, ?_⟩) (by assumption) ?_
    rotate_left
    · (intro w hSw; (try dsimp only at hSw); go_simp; try with_reducible rfl)
    try simp only [Act.put, List.getElem_toArray, List.getElem_cons_zero, List.getElem_cons_succ, List.setIfInBounds_toArray, List.set_cons_zero, List.set_cons_succ]
    refine wpAnyG_ready (rs := [12]) (by kernel_rfl) (by simp) ?_
    refine AllReadyG.cons rfl (fun KK hKK => ?_) AllReadyG.nil
    go_simp
    have i0 := set_other (a := ⟨xb, 2, none⟩) (v := .int .i64 y) i0 hxg
    have i1 := set_other (a := ⟨xb, 2, none⟩) (v := .int .i64 y) i1 hxg
    have i2 := set_other (a := ⟨xb, 2, none⟩) (v := .int .i64 y) i2 hxg
    refine hKK.out _ _ (⟨i0, i1, i2⟩) (fun hHeld => ?_)
    clear hKK KK
    try simp only [Act.put, List.getElem_toArray, List.getElem_cons_zero, List.getElem_cons_succ, List.setIfInBounds_toArray, List.set_cons_zero, List.set_cons_succ]
    refine wpAnyG_take (i := 13) (v := ?_) rfl (by kernel_rfl) (by kernel_rfl) (by kernel_rfl) (by kernel_rfl) (by kernel_rfl) (fun _ _ _ h => h) (Or.inl ⟨by rfl, ?_⟩) (by assumption) ?_
    rotate_left
    · (intro w hSw; (try dsimp only at hSw); go_simp; try with_reducible rfl)
    try simp only [Act.put, List.getElem_toArray, List.getElem_cons_zero, List.getElem_cons_succ, List.setIfInBounds_toArray, List.set_cons_zero, List.set_cons_succ]
    refine wpAnyG_ready (rs := [14]) (by kernel_rfl) (by simp) ?_
    refine AllReadyG.cons rfl (fun KK hKK => ?_) AllReadyG.nil
    go_simp
    have i0 := set_other (a := ⟨xb, 4, none⟩) (v := .int .i64 z) i0 hxg
    have i1 := set_other (a := ⟨xb, 4, none⟩) (v := .int .i64 z) i1 hxg
    have i2 := set_other (a := ⟨xb, 4, none⟩) (v := .int .i64 z) i2 hxg
    refine hKK.out _ _ (⟨i0, i1, i2⟩) (fun hHeld => ?_)
    clear hKK KK
    try simp only [Act.put, List.getElem_toArray, List.getElem_cons_zero, List.getElem_cons_succ, List.setIfInBounds_toArray, List.set_cons_zero, List.set_cons_succ]
    refine wpAnyG_done (by kernel_rfl) ?_ _
    have hR := (Below.heap_setCell (((wd.setCell ⟨xb, 1, none⟩ (.int .i64 x)).setCell ⟨xb, 2, none⟩ (.int .i64 y))) ⟨xb, 4, none⟩ (.int .i64 z) rb hxr).trans ((Below.heap_setCell _ _ _ _ hxr).trans ((Below.heap_setCell _ _ _ _ hxr).trans HR.out))
    try go_wp2_with fail
    go_meet
    exact ⟨Lib.hid (((HB.out.setCell hle _).setCell hle _).setCell hle _), Lib.hid hR, Lib.hid (heap_setCell_same _ _ 4 _ _ _ (heap_setCell_same _ _ 2 _ _ _ (heap_setCell_same _ _ 1 _ _ _ HX.out)))⟩
  case rest =>
    obtain ⟨HB, HR, HX⟩ := hcut
    have y0 := cell_of_row wc xb 0 _ _ _ HX.out
    have y1 := cell_of_row wc xb 1 _ _ _ HX.out
    have y2 := cell_of_row wc xb 2 _ _ _ HX.out
    have y3 := cell_of_row wc xb 3 _ _ _ HX.out
    have y4 := cell_of_row wc xb 4 _ _ _ HX.out
    have r0 := cell_of_row wc rb 0 _ _ _ HR.out
    have r1 := cell_of_row wc rb 1 _ _ _ HR.out
    have r2 := cell_of_row wc rb 2 _ _ _ HR.out
    have r3 := cell_of_row wc rb 3 _ _ _ HR.out
    have r4 := cell_of_row wc rb 4 _ _ _ HR.out
    have f0 := frozen_of_row wc rb 0 _ _ HR.out
    have f1 := frozen_of_row wc rb 1 _ _ HR.out
    have f2 := frozen_of_row wc rb 2 _ _ HR.out
    have f3 := frozen_of_row wc rb 3 _ _ HR.out
    have f4 := frozen_of_row wc rb 4 _ _ HR.out
    simp only [List.getElem?_toArray, List.getElem?_cons_zero, List.getElem?_cons_succ] at y0 y1 y2 y3 y4 r0 r1 r2 r3 r4
    go_wp2_with fail
    refine bodyPost_ret (inst_result _ _ rb (.int .i64 O) (.int .i64 x) (.int .i64 y) (.string ⟨#[]⟩) (.int .i64 z) (.bool true) rfl rfl ?_ ?_ ?_ ?_ ?_) rfl ⟨rfl, ?_⟩
    iterate 5 (· first | (simp [r0, r1, r2, r3, r4]; done) | (go_simp; done))
    · rw [hrb]
      exact ((((HB.out.setCell (Nat.le_refl _) _).setCell (Nat.le_refl _) _).setCell (Nat.le_refl _) _).setCell (Nat.le_refl _) _).setCell (Nat.le_refl _) _
end Go.Proofs.YtdjbkppdppdcgaaGreatDoor
