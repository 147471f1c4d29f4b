/- guiselaw2.TreeAll: the walk of a tree that has very many nodes. -/
import Derived.Test.YtjpmghgmmeemkaaGreatDoorGoes
import Derived.Test.YtjpmghgmmeemkaaGreatDoorTwin
namespace Go.Proofs.YtjpmghgmmeemkaaGreatDoor
open Go.RowKit Go.Shelf
attribute [local go_sem] Oper.semAt_some run_eql_funcNil

mutual
theorem Nd.lay_take {M M' : Nat} (hM : M ≤ M') : ∀ (t : Nd) (len : Nat) (deep : Int), t.lay M len deep = (t.lay M' len deep).take (M - len)
  | .mk k s n a ks, len, deep => by
    unfold Nd.lay
    by_cases h : M ≤ len
    · rw [if_pos h, show M - len = 0 from by omega]; simp
    · rw [if_neg h, if_neg (by omega), show M - len = (M - (len + 1)) + 1 from by omega, List.take_succ_cons, layL_take hM ks (len + 1) (deep + 1)]
theorem layL_take {M M' : Nat} (hM : M ≤ M') : ∀ (ts : List Nd) (len : Nat) (deep : Int), layL M ts len deep = (layL M' ts len deep).take (M - len)
  | [], len, deep => by unfold layL; simp
  | t :: ts, len, deep => by
    unfold layL
    rw [Nd.lay_take hM t len deep, List.take_append]
    by_cases h : (t.lay M' len deep).length ≤ M - len
    · rw [List.take_of_length_le h, layL_take hM ts _ deep]
      congr 2; omega
    · have h1 : M ≤ len + ((t.lay M' len deep).take (M - len)).length := by rw [List.length_take]; omega
      rw [layL_full _ _ h1, show M - len - (t.lay M' len deep).length = 0 from by omega]
      simp
end

/-- As Q; of a panic nothing is promised: there is none. -/
def NoPan (Q : Exit → Act → World → Prop) : Exit → Act → World → Prop
  | .panic _, _, _ => False
  | e, a, w => Q e a w
theorem NoPan.to {Q : Exit → Act → World → Prop} {e : Exit} {a : Act} {w : World} (h : NoPan Q e a w) : Q e a w := by
  cases e <;> first | exact h | exact h.elim

theorem NoPan.mk {Q : Exit → Act → World → Prop} {a : Act} {w : World} (h : Q .normal a w) : NoPan Q .normal a w := h

theorem all_result (tmps : Array Value) (W : World) (g : Nat) (v : Value) (h8 : tmps.getD 6 undef = .pointer (some ⟨g, 0, none⟩)) (hc : W.cell? ⟨g, 0, none⟩ = some v) :
    (results Tryz.f5 tmps).run Tryz.prog W = .ok v W := by
  have h8' : tmps[6]?.getD undef = .pointer (some ⟨g, 0, none⟩) := by simpa using h8
  simp [results, Tryz.f5, go_sem, h8', hc]
theorem all_leaf {k : Int} {s : ByteArray} {n a : Int} {A : Option Addr} {cap : Nat} {ks : List Nd} {w W : World} (fr : MF k s n a A cap ks w W) (tmps : Array Value) (h4 : tmps.getD 6 undef = .pointer (some ⟨w.heap.size + 1, 0, none⟩)) :
    bodyPostM Fence.wide 6 Tryz.prog Tryz.f5 (fun e w' => e = .returned (.bool true) ∧ Below w.heap.size w w') .ret { tmps := tmps, defers := [] } (W.setCell ⟨w.heap.size + 1, 0, none⟩ (.bool true)) :=
  ⟨_, all_result _ _ _ _ h4 (fr.b1.set (.bool true)).cell, rfl, fr.below.setCell (p := ⟨w.heap.size + 1, 0, none⟩) (by simp) _⟩

set_option maxRecDepth 100000 in
set_option maxHeartbeats 4000000 in
theorem TreeAll_big (t : Nd) (v : Value) (m at_ : Int) (w : World) (hex : ∀ W, Below w.heap.size w W → Calls Tryz.prog 7 #[] W fun e W' => e = .returned (.bool true) ∧ Below W.heap.size W W') (h : Lies w w.heap.size t v) (hm : okI m) (_hat : okI at_) (hbig : 3000 < t.count 1000000) :
    Calls Tryz.prog 5 #[v, .int .i64 m, .int .i64 at_] w fun e w' => e = .returned (.bool true) ∧ Below w.heap.size w w' := by
  obtain ⟨k, s, n, a, ks⟩ := t
  obtain ⟨A, cap, rfl⟩ : ∃ (A : Option Addr) (cap : Nat), v = .agg #[.int .i64 k, .string s, .int .i64 n, .int .i64 a, .slice A ks.length cap] := by
    unfold Lies at h; obtain ⟨A, cap, rfl, -⟩ := h; exact ⟨A, cap, rfl⟩
  obtain ⟨c, HC⟩ : ∃ c, Hid ((Nd.mk k s n a ks).count 1000000 = c) := ⟨_, rfl⟩
  have HSZ := Lib.hid (show 3000 < (Nd.mk k s n a ks).size by have := Nd.count_size (Nd.mk k s n a ks) 1000000 (by omega); omega)
  rw [HC.out] at hbig
  have HM := Lib.hid (MF.init h)
  have HEX := Lib.hid (hex _ HM.out.below)
  obtain ⟨f1, f2, f3, f4, f5, f6, f7⟩ := HM.out.cells
  have HI := Lib.hid hm
  clear hex h hm
  refine (callsIn_wide (n := 6)).1 ?_
  refine callsIn_of_wp_marks Tryz.func5 rfl trivial ?_ rfl
  simp only [Tryz.ntmps5, List.size_toArray, List.length_cons, List.length_nil, Nat.reduceAdd, Nat.reduceSub, Array.replicate_succ, Array.replicate_zero, List.push_toArray, List.append_toArray, List.nil_append, List.cons_append]
  gi_wp2_with (first
    | (refine ⟨trivial, ?_⟩; gi_at_call 7; refine (callsIn_wide.2 HEX.out).mono ?_; clear HEX; rintro e w1 ⟨rfl, hb⟩
       have HM := Lib.hid (HM.out.after hb)
       clear f1 f2 f3 f4 f5 f6 f7 hb
       obtain ⟨f1, f2, f3, f4, f5, f6, f7⟩ := HM.out.cells)
    | (refine ⟨trivial, ?_⟩; gi_at_call 16; refine (callsIn_wide.2 (pick_any m 200 _ HI.out (by omega) (by omega))).mono ?_; rintro e w3 ⟨r, rfl, hr0, hr1, rfl⟩)
    | (refine ⟨trivial, ?_⟩; gi_at_call 11; refine (callsIn_wide.2 (rCount_any (.mk k s n a ks) _ _ HM.out.top)).mono ?_; rintro e w2 ⟨rfl, hb⟩
       rw [HC.out]
       have HM := Lib.hid (HM.out.after hb)
       clear f1 f2 f3 f4 f5 f6 f7 hb
       obtain ⟨f1, f2, f3, f4, f5, f6, f7⟩ := HM.out.cells))
  have HLD := Lib.hid (fun W (hb : Below w2.heap.size w2 W) => HM.out.top.up hb)
  have HWT := Lib.hid (show (∃ j, (Nd.mk k s n a ks).lay 300 0 1 = ((Nd.mk k s n a ks).lay 1000000 0 1).take j) ∧ ((Nd.mk k s n a ks).lay 300 0 1).length = 300 from
    ⟨⟨300, Nd.lay_take (by omega) _ _ _⟩, by have := Nd.lay_length (most := 300) (Nd.mk k s n a ks) 0 1 (by omega); have := HSZ.out; omega⟩)
  have HPK := Lib.hid (fun W => pick_any (1 + r) 300 W (by unfold okI; omega) (by omega) (by omega))
  have HOR := Lib.hid (fun W h => Order_any 300 (by omega) (.mk k s n a ks) (.agg #[.int .i64 k, .string s, .int .i64 n, .int .i64 a, .slice A ks.length cap]) W h)
  obtain ⟨L, HLL⟩ : ∃ L, Hid ((Nd.mk k s n a ks).lay 300 0 1 = L) := ⟨_, rfl⟩
  rw [HLL.out] at HWT HOR
  obtain ⟨⟨hL1, hL2⟩⟩ : PLift (_ ∧ _) := ⟨HWT.out⟩
  have HL1 := Lib.hid hL1
  clear HWT hL1
  have HGO := Lib.hid (fun (A5 : Option Addr) (cap5 : Nat) (r2 : Int) (W : World) (h : Lies W W.heap.size (.mk k s n a ks) (.agg #[.int .i64 k, .string s, .int .i64 n, .int .i64 a, .slice A ks.length cap])) (hr : RowAt W A5 L) (h0 : 0 ≤ r2) (h1 : r2 < 300) =>
    show Calls Tryz.prog 17 #[.agg #[.int .i64 k, .string s, .int .i64 n, .int .i64 a, .slice A ks.length cap], .slice A5 300 cap5, .int .i64 (IntKind.i64.wrap (1 + r2))] W fun e w' => e = .returned (.bool true) ∧ Below W.heap.size W w' from by
      rw [wrap_small (1 + r2) (by omega) (by omega)]
      have := goes_any (.mk k s n a ks) _ A5 cap5 L (1 + r2) W h hr (by unfold okI; omega) HL1.out (.inr ⟨by omega, by omega⟩)
      rw [hL2] at this
      exact this)
  refine wpIn_mono (Q := NoPan _) ?_ (fun e a w h => NoPan.to h)
  gi_region_with (first
    | (refine ⟨trivial, ?_⟩; gi_at_call 18; refine (callsIn_wide.2 (HOR.out _ ?_)).mono ?_; exact HLD.out _ (by first | exact (Below.refl _ _).drew | exact Below.refl _ _); rintro e w5 ⟨v5, rfl, ho5, hb5⟩; obtain ⟨A5, cap5, rfl, -, -⟩ := row_form ho5; have HRW := Lib.hid (RowAt.of ho5); have HB5 := Lib.hid hb5; have HM5 := Lib.hid (HM.out.after (of_drew hb5)); obtain ⟨e1, e2, e3, e4, e5, e6, e7⟩ := HM5.out.cells; clear ho5 hb5)
    | (refine ⟨trivial, ?_⟩; gi_at_call 16; refine (callsIn_wide.2 (HPK.out _)).mono ?_; rintro e w6 ⟨r2, rfl, hq0, hq1, rfl⟩)
    | (refine ⟨trivial, ?_⟩; gi_at_call 17; refine (callsIn_wide.2 (HGO.out _ _ _ _ (HLD.out _ (of_drew HB5.out)) HRW.out hq0 hq1)).mono ?_; rintro e w7 ⟨rfl, hb7⟩; have HM7 := Lib.hid (HM.out.after ((of_drew HB5.out).trans (hb7.mono HB5.out.size))); obtain ⟨g1, g2, g3, g4, g5, g6, g7⟩ := HM7.out.cells))
  all_goals refine NoPan.mk ?_
  all_goals gi_wp2
  all_goals exact all_leaf HM7.out _ rfl
end Go.Proofs.YtjpmghgmmeemkaaGreatDoor
