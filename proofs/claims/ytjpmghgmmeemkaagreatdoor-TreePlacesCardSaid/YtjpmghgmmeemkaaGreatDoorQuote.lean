/- lex.Quote. -/
import Derived.Test.YtjpmghgmmeemkaaGreatDoorJScanA
namespace Go.Proofs.YtjpmghgmmeemkaaGreatDoor
open Go.RowKit

/-- A sixteenth's sign. -/
def hexOf (n : Nat) : UInt8 := ([48, 49, 50, 51, 52, 53, 54, 55, 56, 57, 97, 98, 99, 100, 101, 102] : List UInt8).getD n 0
/-- A sign of a text as it is written in a literal. -/
def quoteC (c : UInt8) : List UInt8 := if c = 34 ∨ c = 92 then [92, c] else if c = 10 then [92, 110] else if c = 9 then [92, 116] else if c.toNat < 32 ∨ 126 < c.toNat then [92, 120, hexOf (c.toNat / 16), hexOf (c.toNat % 16)] else [c]
def quoteL : List UInt8 → List UInt8
  | [] => []
  | c :: r => quoteC c ++ quoteL r

theorem own_not {W : World} {B n g m : Nat} {v : Value} {xs : List Value} {row : Array Value} (h : W.ownsRow B 5 1 v n xs) (hr : W.heap[g]? = some (.cells row 5 (m, m + 1))) : v.ownBlock ≠ some g := by
  intro e
  rcases h.2 with ⟨rfl, _⟩ | ⟨g', cap, cur, rfl, _, hg, _⟩
  · cases e
  · have e' : g' = g := by injection e
    subst e'
    rw [hr] at hg
    injection hg with h1
    injection h1 with _ _ h3
    injection h3 with h4 h5
    omega
theorem quote_step {w wr w1 : World} {R bs : List UInt8} {l : List UInt8} {j : Nat} {c : UInt8} {v _v1 : Value} {row : Array Value} {m : Nat} (q : List UInt8) (hq : quoteC c = q) (hb : Below w.heap.size w wr) (hg0 : w.heap.size + 1 < wr.heap.size)
    (ho : wr.ownsRow w.heap.size 5 1 v bs.length (Lib.byteCells bs)) (hrow : wr.heap[w.heap.size + 1]? = some (.cells row 5 (m, m + 1))) (hR : bs ++ quoteL (l.drop j) = R) (hd : l.drop j = c :: l.drop (j + 1))
    (hg : wr.grownBy w1 v.ownBlock) : Below w.heap.size w w1 ∧ w1.heap[w.heap.size + 1]? = some (.cells row 5 (m, m + 1)) ∧ (bs ++ q) ++ quoteL (l.drop (j + 1)) = R ∧ w.heap.size + 1 < w1.heap.size := by
  subst hq
  refine ⟨grown_below hb ho hb.size hg, ?_, ?_, Nat.lt_of_lt_of_le hg0 hg.size⟩
  · rw [hg.block _ hg0 (fun e => own_not ho hrow e.symm)]
    exact hrow
  · rw [← hR, hd, quoteL, List.append_assoc]
theorem bytesRow_get (l : List UInt8) (cap j : Nat) (c : UInt8) (h : l[j]? = some c) : (bytesRow ⟨⟨l⟩⟩ cap)[j]? = some (.int .u8 c.toNat) := by
  have hj := (List.getElem?_eq_some_iff.1 h).1
  unfold bytesRow
  rw [Array.getElem?_append_left (by simpa using hj)]
  simp [h]
theorem row_news {W : World} {g : Nat} {cs : List Value} {fz : Nat × Nat} (h : W.heap[g]? = some (.cells cs.toArray 5 fz)) : ∀ j u, cs[j]? = some u → W.cell? ((⟨g, 0, none⟩ : Addr).add j) = some u := by
  intro j u hu
  have := cell_of_row W g j _ _ _ h
  rw [show ((⟨g, 0, none⟩ : Addr).add j) = ⟨g, j, none⟩ by simp [Addr.add]; omega, this]
  simpa using hu
theorem wrap16 (n : Nat) (h : n < 16) : IntKind.u8.wrap (n : Int) = (n : Int) := by
  have : ∀ k : Fin 16, IntKind.u8.wrap (k.val : Int) = (k.val : Int) := by decide
  exact this ⟨n, h⟩
theorem hex_at (n : Nat) (h : n < 16) : ∀ h', (⟨#[48, 49, 50, 51, 52, 53, 54, 55, 56, 57, 97, 98, 99, 100, 101, 102]⟩ : ByteArray)[n]'h' = hexOf n := by
  intro h'
  have : ∀ k : Fin 16, ∀ h', (⟨#[48, 49, 50, 51, 52, 53, 54, 55, 56, 57, 97, 98, 99, 100, 101, 102]⟩ : ByteArray)[k.val]'h' = hexOf k.val := by decide
  exact this ⟨n, h⟩ h'

set_option maxRecDepth 100000 in
set_option maxHeartbeats 4000000 in
theorem Quote_any (l : List UInt8) (w : World) (hlen : l.length ≤ 1000000) : Calls Tryz.prog 82 #[.string ⟨⟨l⟩⟩] w fun e w' => e = .returned (.string ⟨⟨34 :: quoteL l ++ [34]⟩⟩) ∧ Below w.heap.size w w' := by
  obtain ⟨R, HR⟩ : ∃ R, Hid (34 :: quoteL l = R) := ⟨_, rfl⟩
  rw [HR.out]
  obtain ⟨i0, hi, hz0, hz1, hz2⟩ := info_parts byteInfo
  obtain ⟨cp, HCP⟩ : ∃ cp, Hid (grownCap (w.alloc (.cells #[.int .u8 34] 5)) (⟨⟨l⟩⟩ : ByteArray).size 0 5 = cp) := ⟨_, rfl⟩
  have hconv := run_bytes_of_string (P := Tryz.prog) (w.alloc (.cells #[.int .u8 34] 5)) 9 66 5 ⟨⟨l⟩⟩ Tryz.underlying9 Tryz.underlying66 Tryz.underlying5
  rw [HCP.out] at hconv
  go_enter Tryz.func82, Tryz.ntmps82
  go_wp2_with fail
  go_loopw [3, 10] (fun o i wr => ∃ (j : Nat) (bs : List UInt8), j ≤ l.length ∧ bs.length ≤ 4 * j + 1 ∧ i = .int .i64 j ∧ Hid (wr.ownsRow w.heap.size 5 1 o bs.length (Lib.byteCells bs)) ∧ Hid (wr.heap[w.heap.size + 1]? = some (.cells (bytesRow ⟨⟨l⟩⟩ cp) 5 ((bytesRow ⟨⟨l⟩⟩ cp).size, (bytesRow ⟨⟨l⟩⟩ cp).size + 1))) ∧ Hid (bs ++ quoteL (l.drop j) = R) ∧ Below w.heap.size w wr ∧ w.heap.size + 1 < wr.heap.size) (fun _ i _ => l.length - (intOf i).toNat)
  case atStart =>
    refine ⟨0, [34], by omega, by simp, rfl, Lib.hid ⟨by simp [Lib.byteCells], .inr ⟨w.heap.size, 1, #[.int .u8 34], rfl, Nat.le_refl _, ?_, Nat.le_refl _, by decide, rfl, rfl⟩⟩, Lib.hid ?_, Lib.hid (by rw [← HR.out]; rfl), ?_, by simp⟩
    · show ((w.alloc (.cells #[.int .u8 34] 5)).alloc (.cells (bytesRow ⟨⟨l⟩⟩ cp) 5 ((bytesRow ⟨⟨l⟩⟩ cp).size, (bytesRow ⟨⟨l⟩⟩ cp).size + 1))).heap[w.heap.size]? = _
      rw [heap_alloc_old _ _ (by simp)]
      exact heap_alloc_new w _
    · have h := heap_alloc_new (w.alloc (.cells #[.int .u8 34] 5)) (.cells (bytesRow ⟨⟨l⟩⟩ cp) 5 ((bytesRow ⟨⟨l⟩⟩ cp).size, (bytesRow ⟨⟨l⟩⟩ cp).size + 1))
      rw [World.size_alloc] at h
      exact h
    · exact ((Below.refl _ _).alloc (Nat.le_refl _) _).drew.alloc (by simp) _
  case round =>
    obtain ⟨j, bs, hj, hbl, rfl, ho, hrow, hr, hb, hg0⟩ := hrel
    obtain ⟨A, cap, rfl, hc1, hc2⟩ := row_form ho.out
    by_cases hlt : j < l.length
    · obtain ⟨c, hc⟩ : ∃ c, l[j]? = some c := ⟨l[j], List.getElem?_eq_getElem hlt⟩
      have hcell : wr.cell? ⟨w.heap.size + 1, j, none⟩ = some (.int .u8 c.toNat) := (cell_of_row _ _ j _ _ _ hrow.out).trans (bytesRow_get l cp j c hc)
      have HDR := Lib.hid (drop_cons hc)
      have hstep := fun (q : List UInt8) (hq : quoteC c = q) (W1 : World) (hW : Below wr.heap.size wr W1) (v1 : Value) (w1 : World) (hg : W1.grownBy w1 (Value.slice A bs.length cap).ownBlock) => quote_step (w1 := w1) (_v1 := v1) q hq (hb.trans (hW.mono hb.size)) (Nat.lt_of_lt_of_le hg0 hW.size) (row_under hW ho.out) ((hW.block _ hg0).trans hrow.out) hr.out HDR.out hg
      have HST := Lib.hid hstep
      clear hstep hc
      by_cases h1 : c = 34 ∨ c = 92
      · have hq : quoteC c = [92, c] := by rw [quoteC, if_pos h1]
        have HQ := Lib.hid hq
        clear hq
        rcases h1 with h1 | h1 <;> subst h1
        all_goals go_wp2_with (at_builtin; refine wpList_append_own _ rfl _ _ 66 rfl w.heap.size 5 i0 _ 1 1 Tryz.underlying66 hi hz0 hz1 hz2 rfl (by decide) _ _ _ rfl (ho.out.alloc _) ⟨wr.heap.size, 0, none⟩ 2 2 [_, _] rfl rfl (row_news (fz := (0, 0)) (heap_alloc_new wr _)) (by intro u hu; simp at hu; rcases hu with rfl | rfl <;> rfl) (by unfold maxLen; omega) (by omega) (by have := hb.size; simp; omega) ?_; intro v1 w1 ho1 hg1 _)
        all_goals obtain ⟨hb1, hrow1, hr1, hg1'⟩ := HST.out _ HQ.out _ ((Below.refl _ _).alloc (Nat.le_refl _) _) v1 w1 hg1
        all_goals go_wp2_with fail
        all_goals go_roundw
        case rel => exact ⟨j + 1, bs ++ [92, 34], by omega, by simp; omega, by go_num, Lib.hid (by simpa [Lib.byteCells] using ho1), Lib.hid hrow1, Lib.hid hr1, hb1, hg1'⟩
        case measure => simp [intOf]; omega
        case rel => exact ⟨j + 1, bs ++ [92, 92], by omega, by simp; omega, by go_num, Lib.hid (by simpa [Lib.byteCells] using ho1), Lib.hid hrow1, Lib.hid hr1, hb1, hg1'⟩
        case measure => simp [intOf]; omega
      have n1 : ((c.toNat : Int) == 34) = false := u8_ne (fun e => h1 (.inl e))
      have n2 : ((c.toNat : Int) == 92) = false := u8_ne (fun e => h1 (.inr e))
      by_cases h3 : c = 10
      · subst h3
        have HQ := Lib.hid (show quoteC 10 = [92, 110] from rfl)
        go_wp2_with (at_builtin; refine Lib.wpList_append_own_string _ rfl _ _ 66 9 rfl w.heap.size 5 i0 Tryz.underlying66 Tryz.underlying9 hi hz0 hz1 hz2 _ _ _ rfl ho.out ⟨#[92, 110]⟩ rfl (show bs.length + 2 ≤ maxLen by unfold maxLen; omega) (show bs.length + 2 ≤ _ by omega) hb.size ?_; intro v1 w1 ho1 hg1 _)
        obtain ⟨hb1, hrow1, hr1, hg1'⟩ := HST.out _ HQ.out _ (Below.refl _ _) v1 w1 hg1
        go_wp2_with fail
        go_roundw
        case rel => exact ⟨j + 1, bs ++ [92, 110], by omega, by simp; omega, by go_num, Lib.hid (by have h := ho1; rw [show (⟨#[92, 110]⟩ : ByteArray).size = 2 from rfl] at h; simpa [Lib.byteCells, Lib.strCells] using h), Lib.hid hrow1, Lib.hid hr1, hb1, hg1'⟩
        case measure => simp [intOf]; omega
      by_cases h4 : c = 9
      · subst h4
        have HQ := Lib.hid (show quoteC 9 = [92, 116] from rfl)
        go_wp2_with (at_builtin; refine Lib.wpList_append_own_string _ rfl _ _ 66 9 rfl w.heap.size 5 i0 Tryz.underlying66 Tryz.underlying9 hi hz0 hz1 hz2 _ _ _ rfl ho.out ⟨#[92, 116]⟩ rfl (show bs.length + 2 ≤ maxLen by unfold maxLen; omega) (show bs.length + 2 ≤ _ by omega) hb.size ?_; intro v1 w1 ho1 hg1 _)
        obtain ⟨hb1, hrow1, hr1, hg1'⟩ := HST.out _ HQ.out _ (Below.refl _ _) v1 w1 hg1
        go_wp2_with fail
        go_roundw
        case rel => exact ⟨j + 1, bs ++ [92, 116], by omega, by simp; omega, by go_num, Lib.hid (by have h := ho1; rw [show (⟨#[92, 116]⟩ : ByteArray).size = 2 from rfl] at h; simpa [Lib.byteCells, Lib.strCells] using h), Lib.hid hrow1, Lib.hid hr1, hb1, hg1'⟩
        case measure => simp [intOf]; omega
      have n3 : ((c.toNat : Int) == 10) = false := u8_ne h3
      have n4 : ((c.toNat : Int) == 9) = false := u8_ne h4
      by_cases h5 : c.toNat < 32 ∨ 126 < c.toNat
      · have hc256 : c.toNat < 256 := c.toNat_lt
        obtain ⟨d, hd⟩ : ∃ d, d = c.toNat / 16 := ⟨_, rfl⟩
        obtain ⟨m, hm⟩ : ∃ m, m = c.toNat % 16 := ⟨_, rfl⟩
        have HQ := Lib.hid (show quoteC c = [92, 120, hexOf d, hexOf m] by rw [hd, hm, quoteC, if_neg h1, if_neg h3, if_neg h4, if_pos h5])
        have d16 : d < 16 := by omega
        have m16 : m < 16 := by omega
        have d16' : (d : Int) < 16 := by omega
        have m16' : (m : Int) < 16 := by omega
        have ed : (c.toNat : Int) / 16 = (d : Int) := by omega
        have em : (c.toNat : Int).tmod 16 = (m : Int) := by rw [Int.tmod_eq_emod_of_nonneg (by omega)]; omega
        have wd : IntKind.u8.wrap (d : Int) = (d : Int) := wrap16 d d16
        have wm : IntKind.u8.wrap (m : Int) = (m : Int) := wrap16 m m16
        have xd := hex_at d d16
        have xm := hex_at m m16
        clear hd hm
        by_cases h6 : c.toNat < 32
        · have h6' : ((c.toNat : Int) < 32) = True := by simp; omega
          go_upto_region 13 with fail
          refine wp_region_held_drew (S := fun _ => True) (by kernel_rfl) trivial (fun _ => ?_)
          refine wpAnyH_take (i := 0) (v := ?_) rfl (by kernel_rfl) (by kernel_rfl) (by kernel_rfl) (fun _ _ _ h => h) (Or.inl ⟨by rfl, ?_⟩) trivial ?_
          rotate_left
          · (intro w _; go_simp; try with_reducible rfl)
          try simp only [Act.put, List.getElem_toArray, List.getElem_cons_zero, List.setIfInBounds_toArray, List.set_cons_zero, List.set_cons_succ]
          refine wpAnyH_take (i := 1) (v := ?_) rfl (by kernel_rfl) (by kernel_rfl) (by kernel_rfl) (fun _ _ _ h => h) (Or.inl ⟨by rfl, ?_⟩) trivial ?_
          rotate_left
          · (intro w _; go_simp; try with_reducible rfl)
          try simp only [Act.put, List.getElem_toArray, List.getElem_cons_zero, List.getElem_cons_succ, List.setIfInBounds_toArray, List.set_cons_zero, List.set_cons_succ]
          refine wpAnyH_take (i := 2) (v := ?_) rfl (by kernel_rfl) (by kernel_rfl) (by kernel_rfl) (fun _ _ _ h => h) (Or.inl ⟨by rfl, ?_⟩) trivial ?_
          rotate_left
          · (intro w _; go_simp; try with_reducible rfl)
          try simp only [Act.put, List.getElem_toArray, List.getElem_cons_zero, List.getElem_cons_succ, List.setIfInBounds_toArray, List.set_cons_zero, List.set_cons_succ]
          refine wpAnyH_take (i := 3) (v := ?_) rfl (by kernel_rfl) (by kernel_rfl) (by kernel_rfl) (fun _ _ _ h => h) (Or.inl ⟨by rfl, ?_⟩) trivial ?_
          rotate_left
          · (intro w _; go_simp; try with_reducible rfl)
          try simp only [Act.put, List.getElem_toArray, List.getElem_cons_zero, List.getElem_cons_succ, List.setIfInBounds_toArray, List.set_cons_zero, List.set_cons_succ]
          refine wpAnyH_take (i := 4) (v := ?_) rfl (by kernel_rfl) (by kernel_rfl) (by kernel_rfl) (fun _ _ _ h => h) (Or.inl ⟨by rfl, ?_⟩) trivial ?_
          rotate_left
          · (intro w _; go_simp; try with_reducible rfl)
          try simp only [Act.put, List.getElem_toArray, List.getElem_cons_zero, List.getElem_cons_succ, List.setIfInBounds_toArray, List.set_cons_zero, List.set_cons_succ]
          refine wpAnyH_take (i := 5) (v := ?_) rfl (by kernel_rfl) (by kernel_rfl) (by kernel_rfl) (fun _ _ _ h => h) (Or.inl ⟨by rfl, ?_⟩) trivial ?_
          rotate_left
          · (intro w _; go_simp; try with_reducible rfl)
          try simp only [Act.put, List.getElem_toArray, List.getElem_cons_zero, List.getElem_cons_succ, List.setIfInBounds_toArray, List.set_cons_zero, List.set_cons_succ]
          refine wpAnyH_take (i := 6) (v := ?_) rfl (by kernel_rfl) (by kernel_rfl) (by kernel_rfl) (fun _ _ _ h => h) (Or.inl ⟨by rfl, ?_⟩) trivial ?_
          rotate_left
          · (intro w _; go_simp; try with_reducible rfl)
          try simp only [Act.put, List.getElem_toArray, List.getElem_cons_zero, List.getElem_cons_succ, List.setIfInBounds_toArray, List.set_cons_zero, List.set_cons_succ]
          refine wpAnyH_ready (rs := [7]) (by kernel_rfl) (by simp) ?_
          refine AllReadyH.cons rfl (fun KK hKK => ?_) AllReadyH.nil
          go_simp
          go_wp2_with fail
          refine hKK.out _ _ trivial (fun _ => ?_)
          clear hKK KK
          try simp only [Act.put, List.getElem_toArray, List.getElem_cons_zero, List.getElem_cons_succ, List.setIfInBounds_toArray, List.set_cons_zero, List.set_cons_succ]
          refine wpAnyH_ready (rs := [8]) (by kernel_rfl) (by simp) ?_
          refine AllReadyH.cons rfl (fun KK hKK => ?_) AllReadyH.nil
          rw [if_pos (by rfl)]
          refine wp_append_own _ _ _ 66 rfl w.heap.size 5 i0 _ 1 1 Tryz.underlying66 hi hz0 hz1 hz2 rfl (by decide) _ _ _ rfl (row_under ((Below.refl _ _).drew.alloc (Nat.le_refl _) _) ho.out) ⟨wr.heap.size, 0, none⟩ 4 4 [_, _, _, _] rfl rfl (row_news (fz := (0, 0)) (heap_alloc_new wr.drew _)) (by intro u hu; simp at hu; rcases hu with rfl | rfl | rfl | rfl <;> rfl) (by unfold maxLen; omega) (by omega) (by have := hb.size; simp; omega) ?_
          intro v1 w1 ho1 hg1 _
          refine hKK.out _ _ trivial (fun _ => ?_)
          clear hKK KK
          try simp only [Act.put, List.getElem_toArray, List.getElem_cons_zero, List.getElem_cons_succ, List.setIfInBounds_toArray, List.set_cons_zero, List.set_cons_succ]
          refine wpAnyH_take (i := 9) (v := ?_) rfl (by kernel_rfl) (by kernel_rfl) (by kernel_rfl) (fun _ _ _ h => h) (Or.inl ⟨by rfl, ?_⟩) trivial ?_
          rotate_left
          · (intro w _; go_simp; try with_reducible rfl)
          try simp only [Act.put, List.getElem_toArray, List.getElem_cons_zero, List.getElem_cons_succ, List.setIfInBounds_toArray, List.set_cons_zero, List.set_cons_succ]
          refine wpAnyH_done (by kernel_rfl) ?_ _
          obtain ⟨hb1, hrow1, hr1, hg1'⟩ := HST.out _ HQ.out _ ((Below.refl _ _).drew.alloc (Nat.le_refl _) _) v1 w1 hg1
          go_wp2_with fail
          go_roundw
          case rel => exact ⟨j + 1, bs ++ [92, 120, hexOf d, hexOf m], by omega, by simp; omega, by go_num, Lib.hid (by simpa [Lib.byteCells] using ho1), Lib.hid hrow1, Lib.hid hr1, hb1, hg1'⟩
          case measure => simp [intOf]; omega
        · have h6' : ((c.toNat : Int) < 32) = False := by simp; omega
          have h7 : ((126 : Int) < (c.toNat : Int)) = True := by simp; omega
          go_upto_region 13 with fail
          refine wp_region_held_drew (S := fun _ => True) (by kernel_rfl) trivial (fun _ => ?_)
          refine wpAnyH_take (i := 0) (v := ?_) rfl (by kernel_rfl) (by kernel_rfl) (by kernel_rfl) (fun _ _ _ h => h) (Or.inl ⟨by rfl, ?_⟩) trivial ?_
          rotate_left
          · (intro w _; go_simp; try with_reducible rfl)
          try simp only [Act.put, List.getElem_toArray, List.getElem_cons_zero, List.setIfInBounds_toArray, List.set_cons_zero, List.set_cons_succ]
          refine wpAnyH_take (i := 1) (v := ?_) rfl (by kernel_rfl) (by kernel_rfl) (by kernel_rfl) (fun _ _ _ h => h) (Or.inl ⟨by rfl, ?_⟩) trivial ?_
          rotate_left
          · (intro w _; go_simp; try with_reducible rfl)
          try simp only [Act.put, List.getElem_toArray, List.getElem_cons_zero, List.getElem_cons_succ, List.setIfInBounds_toArray, List.set_cons_zero, List.set_cons_succ]
          refine wpAnyH_take (i := 2) (v := ?_) rfl (by kernel_rfl) (by kernel_rfl) (by kernel_rfl) (fun _ _ _ h => h) (Or.inl ⟨by rfl, ?_⟩) trivial ?_
          rotate_left
          · (intro w _; go_simp; try with_reducible rfl)
          try simp only [Act.put, List.getElem_toArray, List.getElem_cons_zero, List.getElem_cons_succ, List.setIfInBounds_toArray, List.set_cons_zero, List.set_cons_succ]
          refine wpAnyH_take (i := 3) (v := ?_) rfl (by kernel_rfl) (by kernel_rfl) (by kernel_rfl) (fun _ _ _ h => h) (Or.inl ⟨by rfl, ?_⟩) trivial ?_
          rotate_left
          · (intro w _; go_simp; try with_reducible rfl)
          try simp only [Act.put, List.getElem_toArray, List.getElem_cons_zero, List.getElem_cons_succ, List.setIfInBounds_toArray, List.set_cons_zero, List.set_cons_succ]
          refine wpAnyH_take (i := 4) (v := ?_) rfl (by kernel_rfl) (by kernel_rfl) (by kernel_rfl) (fun _ _ _ h => h) (Or.inl ⟨by rfl, ?_⟩) trivial ?_
          rotate_left
          · (intro w _; go_simp; try with_reducible rfl)
          try simp only [Act.put, List.getElem_toArray, List.getElem_cons_zero, List.getElem_cons_succ, List.setIfInBounds_toArray, List.set_cons_zero, List.set_cons_succ]
          refine wpAnyH_take (i := 5) (v := ?_) rfl (by kernel_rfl) (by kernel_rfl) (by kernel_rfl) (fun _ _ _ h => h) (Or.inl ⟨by rfl, ?_⟩) trivial ?_
          rotate_left
          · (intro w _; go_simp; try with_reducible rfl)
          try simp only [Act.put, List.getElem_toArray, List.getElem_cons_zero, List.getElem_cons_succ, List.setIfInBounds_toArray, List.set_cons_zero, List.set_cons_succ]
          refine wpAnyH_take (i := 6) (v := ?_) rfl (by kernel_rfl) (by kernel_rfl) (by kernel_rfl) (fun _ _ _ h => h) (Or.inl ⟨by rfl, ?_⟩) trivial ?_
          rotate_left
          · (intro w _; go_simp; try with_reducible rfl)
          try simp only [Act.put, List.getElem_toArray, List.getElem_cons_zero, List.getElem_cons_succ, List.setIfInBounds_toArray, List.set_cons_zero, List.set_cons_succ]
          refine wpAnyH_ready (rs := [7]) (by kernel_rfl) (by simp) ?_
          refine AllReadyH.cons rfl (fun KK hKK => ?_) AllReadyH.nil
          go_simp
          go_wp2_with fail
          refine hKK.out _ _ trivial (fun _ => ?_)
          clear hKK KK
          try simp only [Act.put, List.getElem_toArray, List.getElem_cons_zero, List.getElem_cons_succ, List.setIfInBounds_toArray, List.set_cons_zero, List.set_cons_succ]
          refine wpAnyH_ready (rs := [8]) (by kernel_rfl) (by simp) ?_
          refine AllReadyH.cons rfl (fun KK hKK => ?_) AllReadyH.nil
          rw [if_pos (by rfl)]
          refine wp_append_own _ _ _ 66 rfl w.heap.size 5 i0 _ 1 1 Tryz.underlying66 hi hz0 hz1 hz2 rfl (by decide) _ _ _ rfl (row_under ((Below.refl _ _).drew.alloc (Nat.le_refl _) _) ho.out) ⟨wr.heap.size, 0, none⟩ 4 4 [_, _, _, _] rfl rfl (row_news (fz := (0, 0)) (heap_alloc_new wr.drew _)) (by intro u hu; simp at hu; rcases hu with rfl | rfl | rfl | rfl <;> rfl) (by unfold maxLen; omega) (by omega) (by have := hb.size; simp; omega) ?_
          intro v1 w1 ho1 hg1 _
          refine hKK.out _ _ trivial (fun _ => ?_)
          clear hKK KK
          try simp only [Act.put, List.getElem_toArray, List.getElem_cons_zero, List.getElem_cons_succ, List.setIfInBounds_toArray, List.set_cons_zero, List.set_cons_succ]
          refine wpAnyH_take (i := 9) (v := ?_) rfl (by kernel_rfl) (by kernel_rfl) (by kernel_rfl) (fun _ _ _ h => h) (Or.inl ⟨by rfl, ?_⟩) trivial ?_
          rotate_left
          · (intro w _; go_simp; try with_reducible rfl)
          try simp only [Act.put, List.getElem_toArray, List.getElem_cons_zero, List.getElem_cons_succ, List.setIfInBounds_toArray, List.set_cons_zero, List.set_cons_succ]
          refine wpAnyH_done (by kernel_rfl) ?_ _
          obtain ⟨hb1, hrow1, hr1, hg1'⟩ := HST.out _ HQ.out _ ((Below.refl _ _).drew.alloc (Nat.le_refl _) _) v1 w1 hg1
          go_wp2_with fail
          go_roundw
          case rel => exact ⟨j + 1, bs ++ [92, 120, hexOf d, hexOf m], by omega, by simp; omega, by go_num, Lib.hid (by simpa [Lib.byteCells] using ho1), Lib.hid hrow1, Lib.hid hr1, hb1, hg1'⟩
          case measure => simp [intOf]; omega
      · have HQ := Lib.hid (show quoteC c = [c] by rw [quoteC, if_neg h1, if_neg h3, if_neg h4, if_neg h5])
        have h6 : ((c.toNat : Int) < 32) = False := by simp; omega
        have h7 : ((126 : Int) < (c.toNat : Int)) = False := by simp; omega
        go_wp2_with (at_builtin; refine wpList_append_own _ rfl _ _ 66 rfl w.heap.size 5 i0 _ 1 1 Tryz.underlying66 hi hz0 hz1 hz2 rfl (by decide) _ _ _ rfl (ho.out.alloc _) ⟨wr.heap.size, 0, none⟩ 1 1 [.int .u8 c.toNat] rfl rfl (cell_one_new wr _ _) (by intro u hu; simp at hu; subst hu; rfl) (by unfold maxLen; omega) (by omega) (by have := hb.size; simp; omega) ?_; intro v1 w1 ho1 hg1 _)
        obtain ⟨hb1, hrow1, hr1, hg1'⟩ := HST.out _ HQ.out _ ((Below.refl _ _).alloc (Nat.le_refl _) _) v1 w1 hg1
        go_wp2_with fail
        go_roundw
        case rel => exact ⟨j + 1, bs ++ [c], by omega, by simp; omega, by go_num, Lib.hid (by simpa [Lib.byteCells] using ho1), Lib.hid hrow1, Lib.hid hr1, hb1, hg1'⟩
        case measure => simp [intOf]; omega
    · obtain rfl : j = l.length := by omega
      have hbs : bs = R := by
        have h := hr.out
        rw [List.drop_length, quoteL, List.append_nil] at h
        exact h
      subst hbs
      go_wp2_with (at_builtin; refine wpList_append_own _ rfl _ _ 66 rfl w.heap.size 5 i0 _ 1 1 Tryz.underlying66 hi hz0 hz1 hz2 rfl (by decide) _ _ _ rfl (ho.out.alloc _) ⟨wr.heap.size, 0, none⟩ 1 1 [.int .u8 34] rfl rfl (cell_one_new wr _ _) (by intro u hu; simp at hu; subst hu; rfl) (by unfold maxLen; omega) (by omega) (by have := hb.size; simp; omega) ?_; intro v1 w1 ho1 hg1 _; have hback := run_bytes_own w1 w.heap.size v1 (bs ++ [34]) (by simpa [Lib.byteCells] using ho1))
      have hb1 : Below w.heap.size w w1 := grown_below (hb.alloc hb.size _) (ho.out.alloc _) (by have := hb.size; simp; omega) hg1
      go_wp2_with fail
      go_ret
      exact ⟨rfl, hb1⟩
end Go.Proofs.YtjpmghgmmeemkaaGreatDoor
