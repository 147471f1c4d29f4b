/- container/heap over code.row: down. container/heap's Push and Pop over code.row; code.push, code.pop. -/
import Derived.Test.YtdjbkppdppdcgaaGreatDoorMCwH
namespace Go.Proofs.YtdjbkppdppdcgaaGreatDoor
open Go.RowKit

theorem downL_go {f : Nat} {l : List Int} {i n j : Nat} (hbig : ¬ n ≤ 2 * i + 1) (hj : (if 2 * i + 2 < n ∧ l.getD (2 * i + 2) 0 < l.getD (2 * i + 1) 0 then 2 * i + 2 else 2 * i + 1) = j) :
    downL (f + 1) l i n = if l.getD j 0 < l.getD i 0 then downL f (swapL l i j) j n else l := by
  subst hj
  rw [downL, if_neg hbig]
set_option maxRecDepth 100000 in
set_option maxHeartbeats 4000000 in
theorem down_any {r g cap : Nat} {f : Nat} {l : List Int} {i n : Nat} {w : World} (h : RowSt r g cap l w) (hn : n ≤ l.length) (hi : i ≤ n) (hf : n < f + i) (hl : l.length ≤ 1000000) :
    Calls Tryz.prog 111 #[.iface 146 (.pointer (some ⟨r, 0, none⟩)), .int .i64 i, .int .i64 n] w fun e w' => (∃ b, e = .returned (.bool b)) ∧ RowSt r g cap (downL f l i n) w' ∧ Foot w.heap.size (fun k => k = g) w w' := by
  have HR := Lib.hid h
  clear h
  obtain ⟨m, HN⟩ : ∃ m, Hid (l.length = m) := ⟨_, rfl⟩
  rw [HN.out] at hn hl
  obtain ⟨R, HX⟩ : ∃ R, Hid (downL f l i n = R) := ⟨_, rfl⟩
  rw [HX.out]
  go_enter Tryz.func111, Tryz.ntmps111
  go_wp2_with fail
  go_loopw [7] (fun i wr => ∃ (f' i' : Nat) (l' : List Int), i = .int .i64 i' ∧ i' ≤ n ∧ Hid (l'.length = m) ∧ n < f' + i' ∧ Hid (RowSt r g cap l' wr) ∧ Hid (downL f' l' i' n = R) ∧ Foot w.heap.size (fun k => k = g) w wr) (fun i _ => n - (intOf i).toNat)
  case atStart => exact ⟨f, i, l, rfl, hi, HN, hf, HR, HX, Foot.refl _ _ _⟩
  case round =>
    obtain ⟨f', i', l', rfl, hi', hl', hf', HR', HU, hfoot⟩ := hrel
    obtain ⟨c1, _⟩ := HR'.out.c
    rw [hl'.out] at c1
    have hm1 := meth_less c1
    clear c1
    by_cases hbig : n ≤ 2 * i' + 1
    · have hfin : l' = R := by
        rw [← HU.out]
        cases f' with
        | zero => rfl
        | succ f'' => rw [downL, if_pos hbig]
      have HU2 := Lib.hid hfin
      clear hfin
      have d1 : decide ((n : Int) ≤ 2 * (i' : Int) + 1) = true := by simp; omega
      go_wp2_with fail
      go_ret
      refine ⟨⟨_, rfl⟩, ?_, hfoot⟩
      rw [← HU2.out]; exact HR'.out
    · obtain ⟨f'', rfl⟩ : ∃ f'', f' = f'' + 1 := ⟨f' - 1, by omega⟩
      have hu := HU.out
      obtain ⟨p, hp⟩ : ∃ p, 2 * i' + 1 = p := ⟨_, rfl⟩
      obtain ⟨q, hq⟩ : ∃ q, 2 * i' + 2 = q := ⟨_, rfl⟩
      have zp : 2 * (i' : Int) + 1 = (p : Int) := by omega
      have zq : (p : Int) + 1 = (q : Int) := by omega
      have d1 : decide ((n : Int) ≤ (p : Int)) = false := by simp; omega
      have d2 : decide ((p : Int) < 0) = false := by simp
      have hip : i' < p ∧ q ≤ p + 1 ∧ p < q ∧ p < n := by omega
      by_cases hc : q < n
      · have d3 : decide ((q : Int) < (n : Int)) = true := by simpa using hc
        by_cases hx : l'.getD q 0 < l'.getD p 0
        · rw [downL_go hbig (j := q) (by rw [hp, hq]; exact if_pos ⟨hc, hx⟩)] at hu
          have HD1 := Lib.hid (decide_eq_true hx)
          clear hx
          by_cases hy : l'.getD q 0 < l'.getD i' 0
          · rw [if_pos hy] at hu
            have HU2 := Lib.hid hu
            have HD2 := Lib.hid (decide_eq_true hy)
            clear hu hy hp hq hbig
            go_wp2_with (first
              | (go_at_call 200; rw [← hl'.out]; with_reducible refine (rless_true HR'.out (i := q) (j := p) (by rw [hl'.out]; omega) (by rw [hl'.out]; omega) HD1.out).mono ?_; rintro e w1 ⟨rfl, hr1, hf1⟩; have c1 := hr1.c.1; rw [hl'.out] at c1; have hm2 := meth_less c1; have hs2 := meth_swap c1; have HR1 := Lib.hid hr1; clear hr1 c1)
              | (go_at_call 200; rw [← hl'.out]; with_reducible refine (rless_true HR1.out (i := q) (j := i') (by rw [hl'.out]; omega) (by rw [hl'.out]; omega) HD2.out).mono ?_; rintro e w2 ⟨rfl, hr2, hf2⟩; have c2 := hr2.c.1; rw [hl'.out] at c2; have hm3 := meth_less c2; have hs3 := meth_swap c2; have HR2 := Lib.hid hr2; clear hr2 c2)
              | (go_at_call 201; rw [← hl'.out]; with_reducible refine (rswap_any HR2.out (i := i') (j := q) (by rw [hl'.out]; omega) (by rw [hl'.out]; omega)).mono ?_; rintro e w3 ⟨rfl, hr3, hf3⟩; have HR3 := Lib.hid hr3; clear hr3))
            go_roundw
            case rel => exact ⟨f'', q, swapL l' i' q, by simp, by omega, Lib.hid (by rw [swapL_len]; exact hl'.out), by omega, HR3, HU2, (((hfoot.trans (hf1.mono (hfoot.size) fun _ _ h => h)).trans (hf2.mono (Nat.le_trans (hfoot.size) hf1.size) fun _ _ h => h)).trans (hf3.mono (Nat.le_trans (Nat.le_trans (hfoot.size) hf1.size) hf2.size) fun _ _ h => h))⟩
            case measure => simp [intOf]; omega
          · rw [if_neg hy] at hu
            have HU2 := Lib.hid hu
            have HD2 := Lib.hid (decide_eq_false hy)
            clear hu hy hp hq hbig
            go_wp2_with (first
              | (go_at_call 200; rw [← hl'.out]; with_reducible refine (rless_true HR'.out (i := q) (j := p) (by rw [hl'.out]; omega) (by rw [hl'.out]; omega) HD1.out).mono ?_; rintro e w1 ⟨rfl, hr1, hf1⟩; have c1 := hr1.c.1; rw [hl'.out] at c1; have hm2 := meth_less c1; have hs2 := meth_swap c1; have HR1 := Lib.hid hr1; clear hr1 c1)
              | (go_at_call 200; rw [← hl'.out]; with_reducible refine (rless_true HR1.out (i := q) (j := i') (by rw [hl'.out]; omega) (by rw [hl'.out]; omega) HD2.out).mono ?_; rintro e w2 ⟨rfl, hr2, hf2⟩; have c2 := hr2.c.1; rw [hl'.out] at c2; have hm3 := meth_less c2; have hs3 := meth_swap c2; have HR2 := Lib.hid hr2; clear hr2 c2))
            go_ret
            refine ⟨⟨_, rfl⟩, ?_, ((hfoot.trans (hf1.mono (hfoot.size) fun _ _ h => h)).trans (hf2.mono (Nat.le_trans (hfoot.size) hf1.size) fun _ _ h => h))⟩
            rw [← HU2.out]; exact HR2.out
        · rw [downL_go hbig (j := p) (by rw [hp, hq]; exact if_neg (fun e => hx e.2))] at hu
          have HD1 := Lib.hid (decide_eq_false hx)
          clear hx
          by_cases hy : l'.getD p 0 < l'.getD i' 0
          · rw [if_pos hy] at hu
            have HU2 := Lib.hid hu
            have HD2 := Lib.hid (decide_eq_true hy)
            clear hu hy hp hq hbig
            go_wp2_with (first
              | (go_at_call 200; rw [← hl'.out]; with_reducible refine (rless_true HR'.out (i := q) (j := p) (by rw [hl'.out]; omega) (by rw [hl'.out]; omega) HD1.out).mono ?_; rintro e w1 ⟨rfl, hr1, hf1⟩; have c1 := hr1.c.1; rw [hl'.out] at c1; have hm2 := meth_less c1; have hs2 := meth_swap c1; have HR1 := Lib.hid hr1; clear hr1 c1)
              | (go_at_call 200; rw [← hl'.out]; with_reducible refine (rless_true HR1.out (i := p) (j := i') (by rw [hl'.out]; omega) (by rw [hl'.out]; omega) HD2.out).mono ?_; rintro e w2 ⟨rfl, hr2, hf2⟩; have c2 := hr2.c.1; rw [hl'.out] at c2; have hm3 := meth_less c2; have hs3 := meth_swap c2; have HR2 := Lib.hid hr2; clear hr2 c2)
              | (go_at_call 201; rw [← hl'.out]; with_reducible refine (rswap_any HR2.out (i := i') (j := p) (by rw [hl'.out]; omega) (by rw [hl'.out]; omega)).mono ?_; rintro e w3 ⟨rfl, hr3, hf3⟩; have HR3 := Lib.hid hr3; clear hr3))
            go_roundw
            case rel => exact ⟨f'', p, swapL l' i' p, by simp, by omega, Lib.hid (by rw [swapL_len]; exact hl'.out), by omega, HR3, HU2, (((hfoot.trans (hf1.mono (hfoot.size) fun _ _ h => h)).trans (hf2.mono (Nat.le_trans (hfoot.size) hf1.size) fun _ _ h => h)).trans (hf3.mono (Nat.le_trans (Nat.le_trans (hfoot.size) hf1.size) hf2.size) fun _ _ h => h))⟩
            case measure => simp [intOf]; omega
          · rw [if_neg hy] at hu
            have HU2 := Lib.hid hu
            have HD2 := Lib.hid (decide_eq_false hy)
            clear hu hy hp hq hbig
            go_wp2_with (first
              | (go_at_call 200; rw [← hl'.out]; with_reducible refine (rless_true HR'.out (i := q) (j := p) (by rw [hl'.out]; omega) (by rw [hl'.out]; omega) HD1.out).mono ?_; rintro e w1 ⟨rfl, hr1, hf1⟩; have c1 := hr1.c.1; rw [hl'.out] at c1; have hm2 := meth_less c1; have hs2 := meth_swap c1; have HR1 := Lib.hid hr1; clear hr1 c1)
              | (go_at_call 200; rw [← hl'.out]; with_reducible refine (rless_true HR1.out (i := p) (j := i') (by rw [hl'.out]; omega) (by rw [hl'.out]; omega) HD2.out).mono ?_; rintro e w2 ⟨rfl, hr2, hf2⟩; have c2 := hr2.c.1; rw [hl'.out] at c2; have hm3 := meth_less c2; have hs3 := meth_swap c2; have HR2 := Lib.hid hr2; clear hr2 c2))
            go_ret
            refine ⟨⟨_, rfl⟩, ?_, ((hfoot.trans (hf1.mono (hfoot.size) fun _ _ h => h)).trans (hf2.mono (Nat.le_trans (hfoot.size) hf1.size) fun _ _ h => h))⟩
            rw [← HU2.out]; exact HR2.out
      · have d3 : decide ((q : Int) < (n : Int)) = false := by simpa using hc
        rw [downL_go hbig (j := p) (by rw [hp, hq]; exact if_neg (fun e => hc e.1))] at hu
        by_cases hy : l'.getD p 0 < l'.getD i' 0
        · rw [if_pos hy] at hu
          have HU2 := Lib.hid hu
          have HD2 := Lib.hid (decide_eq_true hy)
          clear hu hy hp hq hbig
          go_wp2_with (first
            | (go_at_call 200; rw [← hl'.out]; with_reducible refine (rless_true HR'.out (i := p) (j := i') (by rw [hl'.out]; omega) (by rw [hl'.out]; omega) HD2.out).mono ?_; rintro e w1 ⟨rfl, hr1, hf1⟩; have c1 := hr1.c.1; rw [hl'.out] at c1; have hm2 := meth_less c1; have hs2 := meth_swap c1; have HR1 := Lib.hid hr1; clear hr1 c1)
            | (go_at_call 201; rw [← hl'.out]; with_reducible refine (rswap_any HR1.out (i := i') (j := p) (by rw [hl'.out]; omega) (by rw [hl'.out]; omega)).mono ?_; rintro e w2 ⟨rfl, hr2, hf2⟩; have HR2 := Lib.hid hr2; clear hr2))
          go_roundw
          case rel => exact ⟨f'', p, swapL l' i' p, by simp, by omega, Lib.hid (by rw [swapL_len]; exact hl'.out), by omega, HR2, HU2, ((hfoot.trans (hf1.mono (hfoot.size) fun _ _ h => h)).trans (hf2.mono (Nat.le_trans (hfoot.size) hf1.size) fun _ _ h => h))⟩
          case measure => simp [intOf]; omega
        · rw [if_neg hy] at hu
          have HU2 := Lib.hid hu
          have HD2 := Lib.hid (decide_eq_false hy)
          clear hu hy hp hq hbig
          go_wp2_with (first
            | (go_at_call 200; rw [← hl'.out]; with_reducible refine (rless_true HR'.out (i := p) (j := i') (by rw [hl'.out]; omega) (by rw [hl'.out]; omega) HD2.out).mono ?_; rintro e w1 ⟨rfl, hr1, hf1⟩; have c1 := hr1.c.1; rw [hl'.out] at c1; have hm2 := meth_less c1; have hs2 := meth_swap c1; have HR1 := Lib.hid hr1; clear hr1 c1))
          go_ret
          refine ⟨⟨_, rfl⟩, ?_, (hfoot.trans (hf1.mono (hfoot.size) fun _ _ h => h))⟩
          rw [← HU2.out]; exact HR1.out
end Go.Proofs.YtdjbkppdppdcgaaGreatDoor

namespace Go.Proofs.YtdjbkppdppdcgaaGreatDoor
open Go.RowKit

theorem meth_push {r : Nat} {w : World} : (method 393 146 (.pointer (some ⟨r, 0, none⟩)) "Push").run Tryz.prog w = .ok (203, .pointer (some ⟨r, 0, none⟩)) w := by kernel_rfl
theorem meth_pop {r : Nat} {w : World} : (method 393 146 (.pointer (some ⟨r, 0, none⟩)) "Pop").run Tryz.prog w = .ok (202, .pointer (some ⟨r, 0, none⟩)) w := by kernel_rfl
attribute [local go_sem] meth_push meth_pop

set_option maxRecDepth 100000 in
set_option maxHeartbeats 4000000 in
theorem hpush_any {r g cap : Nat} {l : List Int} {w : World} (h : RowSt r g cap l w) (n : Int) (hl : l.length ≤ 900000) :
    Calls Tryz.prog 113 #[.iface 146 (.pointer (some ⟨r, 0, none⟩)), .iface 3 (.int .i64 n)] w fun e w' => e = .returned (.tuple #[]) ∧ ∃ g' cap', RowSt r g' cap' (pushL l n) w' ∧ (g' = g ∨ w.heap.size ≤ g') ∧ Foot w.heap.size (fun k => k = r ∨ k = g) w w' := by
  have HR := Lib.hid h
  clear h
  obtain ⟨R, HX⟩ : ∃ R, Hid (upL (l.length + 1) (l ++ [n]) l.length = R) := ⟨_, rfl⟩
  have HP : Hid (pushL l n = R) := HX
  rw [HP.out]
  obtain ⟨m, HN⟩ : ∃ m, Hid (l.length = m) := ⟨_, rfl⟩
  have HN2 : Hid ((l ++ [n]).length = m + 1) := Lib.hid (by rw [List.length_append, HN.out]; rfl)
  rw [HN.out] at hl HX
  go_enter Tryz.func113, Tryz.ntmps113
  go_wp2_with (first
    | (go_at_call 203; refine (rpush_any HR.out n (by rw [HN.out]; omega)).mono ?_; rintro e w1 ⟨rfl, g', cap', hr1, hg1, hf1⟩; have c1 := hr1.c.1; rw [HN2.out] at c1; have hm1 := meth_len c1; have HR1 := Lib.hid hr1; clear hr1 c1)
    | (go_at_call 199; rw [← HN2.out]; refine (rlen_any _ _ _ _).mono ?_; rintro e w2 ⟨rfl, rfl⟩; rw [HN2.out])
    | (go_at_call 136; refine (up_any (f := m + 1) HR1.out (by rw [HN2.out]; omega) (by omega) (by rw [HN2.out]; omega)).mono ?_; rintro e w3 ⟨rfl, hr3, hf3⟩; have HR3 := Lib.hid hr3; clear hr3))
  go_end0
  rw [HX.out] at HR3
  refine ⟨rfl, g', cap', HR3.out, hg1, hf1.trans (hf3.mono hf1.size fun k hk e => ?_)⟩
  rcases hg1 with e1 | e1
  · exact .inr (by omega)
  · omega

theorem downL_len : ∀ (f : Nat) (l : List Int) (i n : Nat), (downL f l i n).length = l.length
  | 0, _, _, _ => rfl
  | f + 1, l, i, n => by
    by_cases h : n ≤ 2 * i + 1
    · rw [downL, if_pos h]
    · obtain ⟨j, hj⟩ : ∃ j, (if 2 * i + 2 < n ∧ l.getD (2 * i + 2) 0 < l.getD (2 * i + 1) 0 then 2 * i + 2 else 2 * i + 1) = j := ⟨_, rfl⟩
      rw [downL_go h hj]
      split
      · rw [downL_len f, swapL_len]
      · rfl
set_option maxRecDepth 100000 in
set_option maxHeartbeats 4000000 in
theorem hpop_any {r g cap : Nat} {l : List Int} {w : World} (h : RowSt r g cap l w) (h0 : 0 < l.length) (hl : l.length ≤ 900000) :
    Calls Tryz.prog 86 #[.iface 146 (.pointer (some ⟨r, 0, none⟩))] w fun e w' => e = .returned (.iface 3 (.int .i64 (popL l).1)) ∧ RowSt r g cap (popL l).2 w' ∧ Foot w.heap.size (fun k => k = r ∨ k = g) w w' := by
  have HR := Lib.hid h
  have c0 := h.c.1
  clear h
  obtain ⟨m, hm⟩ : ∃ m, l.length = m + 1 := ⟨l.length - 1, by omega⟩
  have HM := Lib.hid hm
  obtain ⟨L1, HL1⟩ : ∃ L1, Hid (swapL l 0 m = L1) := ⟨_, rfl⟩
  obtain ⟨L2, HL2⟩ : ∃ L2, Hid (downL (m + 1) L1 0 m = L2) := ⟨_, rfl⟩
  have hl1 : L1.length = m + 1 := by rw [← HL1.out, swapL_len, hm]
  have hl2 : L2.length = m + 1 := by rw [← HL2.out, downL_len, hl1]
  have HN1 := Lib.hid hl1
  have HN2 := Lib.hid hl2
  have hp : popL l = (L2.getD m 0, L2.take m) := by
    unfold popL
    rw [hm, Nat.add_sub_cancel, HL1.out, HL2.out]
  rw [hp]
  rw [hm] at c0 hl
  have hm1 := meth_len c0
  clear hm h0 hl1 hl2 hp c0
  go_enter Tryz.func86, Tryz.ntmps86
  go_wp2_with (first
    | (go_at_call 199; refine (rlen_any _ _ _ _).mono ?_; rintro e w0 ⟨rfl, rfl⟩; have c1 := HR.out.c.1; rw [HM.out] at c1; have hm2 := meth_swap c1; clear c1)
    | (go_at_call 201; rw [← HM.out]; refine (rswap_any HR.out (i := 0) (j := m) (by rw [HM.out]; omega) (by rw [HM.out]; omega)).mono ?_; rintro e w1 ⟨rfl, hr1, hf1⟩; rw [HL1.out] at hr1; have HR1 := Lib.hid hr1; clear hr1)
    | (go_at_call 111; refine (down_any (f := m + 1) (i := 0) (n := m) HR1.out (by rw [HN1.out]; omega) (by omega) (by omega) (by rw [HN1.out]; omega)).mono ?_; rintro e w2 ⟨⟨b, rfl⟩, hr2, hf2⟩; rw [HL2.out] at hr2; have HR2 := Lib.hid hr2; clear hr2)
    | (go_at_call 202; with_reducible refine (rpop_any HR2.out (by rw [HN2.out]; omega) (by rw [HN2.out]; omega)).mono ?_; rintro e w3 ⟨rfl, hr3, hf3⟩; have HR3 := Lib.hid hr3; clear hr3))
  go_ret
  refine ⟨by simp [HN2.out], ?_, ?_⟩
  · have := HR3.out
    rw [HN2.out, Nat.add_sub_cancel] at this
    exact this
  · exact ((hf1.mono (Nat.le_refl _) fun k _ e => .inr e).trans (hf2.mono hf1.size fun k _ e => .inr e)).trans (hf3.mono (Nat.le_trans hf1.size hf2.size) fun k _ e => .inl e)

/-- A list of ints behind a pointer. -/
structure TodoAt (lo t g cap : Nat) (l : List Int) (w : World) : Prop where
  box : w.heap[t]? = some (.cells #[.slice (some ⟨g, 0, none⟩) l.length cap] 30 (0, 0))
  own : w.ownsRow 0 3 1 (.slice (some ⟨g, 0, none⟩) l.length cap) l.length (rowI l)
  ne : t ≠ g
  lo : lo ≤ g
theorem own_kept {w W : World} {g cap : Nat} {l : List Int} (h : w.ownsRow 0 3 1 (.slice (some ⟨g, 0, none⟩) l.length cap) l.length (rowI l)) (hk : W.heap[g]? = w.heap[g]?) : W.ownsRow 0 3 1 (.slice (some ⟨g, 0, none⟩) l.length cap) l.length (rowI l) := by
  obtain ⟨h1, h2⟩ := h
  refine ⟨h1, ?_⟩
  rcases h2 with h2 | ⟨g', cap', cur, hv, hb, hg, r⟩
  · exact .inl h2
  · have hv' := hv
    simp only [Value.slice.injEq, Option.some.injEq, Addr.mk.injEq, and_true, true_and] at hv'
    obtain ⟨rfl, rfl⟩ := hv'
    exact .inr ⟨g, cap, cur, hv, hb, hk.trans hg, r⟩
theorem own_blk {w : World} {g cap : Nat} {l : List Int} (h : w.ownsRow 0 3 1 (.slice (some ⟨g, 0, none⟩) l.length cap) l.length (rowI l)) : g < w.heap.size := by
  rcases h.2 with ⟨h2, _⟩ | ⟨g', cap', cur, hv, hb, hg, r⟩
  · cases h2
  · simp only [Value.slice.injEq, Option.some.injEq, Addr.mk.injEq, and_true, true_and] at hv
    obtain ⟨rfl, rfl⟩ := hv
    exact (Array.getElem?_eq_some_iff.1 hg).1
theorem TodoAt.keep {lo t g cap : Nat} {l : List Int} {w W : World} (h : TodoAt lo t g cap l w) (h1 : W.heap[t]? = w.heap[t]?) (h2 : W.heap[g]? = w.heap[g]?) : TodoAt lo t g cap l W := ⟨h1.trans h.box, own_kept h.own h2, h.ne, h.lo⟩
theorem TodoAt.row {lo t g cap : Nat} {l : List Int} {w : World} (h : TodoAt lo t g cap l w) : RowSt w.heap.size g cap l (w.alloc (.cells #[.slice (some ⟨g, 0, none⟩) l.length cap] 144 (0, 0))) := by
  have hg := own_blk h.own
  exact ⟨heap_alloc_new _ _, own_kept h.own (heap_alloc_old _ _ hg), by omega⟩

theorem todo_facts {lo t g cap : Nat} {l : List Int} {w w1 : World} (h : TodoAt lo t g cap l w) (hf : Foot (w.alloc (.cells #[.slice (some ⟨g, 0, none⟩) l.length cap] 144 (0, 0))).heap.size (fun k => k = w.heap.size ∨ k = g) (w.alloc (.cells #[.slice (some ⟨g, 0, none⟩) l.length cap] 144 (0, 0))) w1) :
    w1.cell? ⟨t, 0, none⟩ = some (.slice (some ⟨g, 0, none⟩) l.length cap) ∧ w1.frozen? ⟨t, 0, none⟩ = false ∧
    (∀ v, Foot w.heap.size (fun k => k = t ∨ k = g) w (w1.setCell ⟨t, 0, none⟩ v)) ∧
    ∀ {g' cap' : Nat} (l' : List Int), RowSt w.heap.size g' cap' l' w1 → (g' = g ∨ (w.alloc (.cells #[.slice (some ⟨g, 0, none⟩) l.length cap] 144 (0, 0))).heap.size ≤ g') → TodoAt lo t g' cap' l' (w1.setCell ⟨t, 0, none⟩ (.slice (some ⟨g', 0, none⟩) l'.length cap')) := by
  have ht := (Array.getElem?_eq_some_iff.1 h.box).1
  have hg := own_blk h.own
  have hsz : (w.alloc (.cells #[.slice (some ⟨g, 0, none⟩) l.length cap] 144 (0, 0))).heap.size = w.heap.size + 1 := by simp
  have hb : w1.heap[t]? = some (.cells #[.slice (some ⟨g, 0, none⟩) l.length cap] 30 (0, 0)) := by
    rw [hf.block t (by rw [hsz]; omega) (by rintro (e | e); omega; exact h.ne e)]
    exact (heap_alloc_old _ _ ht).trans h.box
  have hF : Foot w.heap.size (fun k => k = t ∨ k = g) w w1 := by
    refine ⟨hf.os, hf.tape, hf.output, by have := hf.size; omega, fun k hk hn => ?_⟩
    rw [hf.block k (by rw [hsz]; omega) (by rintro (e | e); omega; exact hn (.inr e))]
    exact heap_alloc_old _ _ hk
  refine ⟨cell_of_row w1 t 0 _ _ _ hb, frozen_of_row w1 t 0 _ _ hb, fun v => hF.set (.inr (.inl rfl)) v, fun {g' cap'} l' hr hg' => ?_⟩
  have hne : t ≠ g' := by
    rcases hg' with e | e
    · rw [e]; exact h.ne
    · rw [hsz] at e; omega
  refine ⟨heap_setCell_same w1 t 0 _ _ _ hb, own_kept hr.own (heap_setCell_other _ _ _ _ (Ne.symm hne)), hne, ?_⟩
  rcases hg' with e | e
  · rw [e]; exact h.lo
  · rw [hsz] at e; have := h.lo; omega
set_option maxRecDepth 100000 in
set_option maxHeartbeats 2000000 in
theorem push_any {lo t g cap : Nat} {l : List Int} {w : World} (h : TodoAt lo t g cap l w) (n : Int) (hl : l.length ≤ 900000) (_hlo : lo ≤ w.heap.size) :
    Calls Tryz.prog 90 #[.pointer (some ⟨t, 0, none⟩), .int .i64 n] w fun e w' => e = .returned (.tuple #[]) ∧ ∃ g' cap', TodoAt lo t g' cap' (pushL l n) w' ∧ (g' = g ∨ w.heap.size ≤ g') ∧ Foot w.heap.size (fun k => k = t ∨ k = g) w w' := by
  have H := Lib.hid h
  have c0 := cell_of_row w t 0 _ _ _ h.box
  have f0 := frozen_of_row w t 0 _ _ h.box
  simp only [List.getElem?_toArray, List.getElem?_cons_zero] at c0
  clear h
  have hrow := H.out.row
  have HRW := Lib.hid hrow
  have htw : t < w.heap.size := (Array.getElem?_eq_some_iff.1 H.out.box).1
  clear hrow
  go_enter Tryz.func90, Tryz.ntmps90
  go_wp2_with (go_at_call 113; refine (hpush_any HRW.out n hl).mono ?_; rintro e w1 ⟨rfl, g', cap', hr1, hg1, hf1⟩; have c1 := hr1.c.1; have hf := todo_facts H.out hf1; have c2 := hf.1; have f2 := hf.2.1; have HF := Lib.hid hf.2.2; have HR1 := Lib.hid hr1; clear hf hr1)
  go_end0
  refine ⟨rfl, g', cap', HF.out.2 _ HR1.out hg1, ?_, HF.out.1 _⟩
  rcases hg1 with e | e
  · exact .inl e
  · simp at e; exact .inr (by omega)

set_option maxRecDepth 100000 in
set_option maxHeartbeats 2000000 in
theorem pop_any {lo t g cap : Nat} {l : List Int} {w : World} (h : TodoAt lo t g cap l w) (h0 : 0 < l.length) (hl : l.length ≤ 900000) :
    Calls Tryz.prog 60 #[.pointer (some ⟨t, 0, none⟩)] w fun e w' => e = .returned (.int .i64 (popL l).1) ∧ TodoAt lo t g cap (popL l).2 w' ∧ Foot w.heap.size (fun k => k = t ∨ k = g) w w' := by
  have H := Lib.hid h
  have c0 := cell_of_row w t 0 _ _ _ h.box
  have f0 := frozen_of_row w t 0 _ _ h.box
  simp only [List.getElem?_toArray, List.getElem?_cons_zero] at c0
  clear h
  have qT : ∀ (n : Int) w, (Instr.typeAssert (.iface 3 (.int .i64 n)) 20 3 false).run Tryz.prog w = .ok (.int .i64 n) w := fun n w => by kernel_rfl
  have hrow := H.out.row
  have HRW := Lib.hid hrow
  have htw : t < w.heap.size := (Array.getElem?_eq_some_iff.1 H.out.box).1
  clear hrow
  obtain ⟨x, r, hp⟩ : ∃ x r, popL l = (x, r) := ⟨_, _, rfl⟩
  have HP := Lib.hid (hpop_any HRW.out h0 hl)
  rw [hp] at HP ⊢
  go_enter Tryz.func60, Tryz.ntmps60
  go_wp2_with (go_at_call 86; refine HP.out.mono ?_; rintro e w1 ⟨rfl, hr1, hf1⟩; have c1 := hr1.c.1; have hf := todo_facts H.out hf1; have c2 := hf.1; have f2 := hf.2.1; have HF := Lib.hid hf.2.2; have HR1 := Lib.hid hr1; clear hf hr1)
  go_ret
  exact ⟨rfl, HF.out.2 _ HR1.out (.inl rfl), HF.out.1 _⟩
end Go.Proofs.YtdjbkppdppdcgaaGreatDoor
