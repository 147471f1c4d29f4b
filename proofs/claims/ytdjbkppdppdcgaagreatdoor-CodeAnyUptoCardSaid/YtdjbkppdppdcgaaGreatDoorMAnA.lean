/- CodeAny: any bytes, any text (the walk). guiselaw13.known by the contracts at any program. CodeAny: for every two texts that are not too long the law answers true (the walk). -/
import Derived.Test.YtdjbkppdppdcgaaGreatDoorLnD
import Derived.Test.YtdjbkppdppdcgaaGreatDoorEnB
import Derived.Test.YtdjbkppdppdcgaaGreatDoorLiB
import Derived.Test.YtdjbkppdppdcgaaGreatDoorMCyJ
namespace Go.Proofs.YtdjbkppdppdcgaaGreatDoor
open Go.RowKit

theorem linesL_like : ∀ (f : Nat) (t : List UInt8) (k : Nat) (p q : Cp), PLike 2000000 k p → k + t.length ≤ 2000000 → linesL f t k p = (q, none) → PLike 2000000 2000000 q
  | 0, _, _, _, _, _, _, h => by cases h
  | f + 1, t, k, p, q, hp, hk, h => by
    by_cases ht : t = []
    · rw [linesL, if_pos ht] at h
      injection h with h _
      subst h
      exact ⟨by have := hp.nf; omega, hp.ng, fun f hf => (hp.fs f hf).more (by omega), hp.gs⟩
    · rw [linesL_cons ht] at h
      have hl := cutAt_len 10 t
      rcases hq : cutAt 10 t with ⟨x, _ | r⟩
      · rw [hq] at h
        cases h
      · rw [hq] at h hl
        dsimp only at h hl
        cases hlq : lineL p k x with
        | none => rw [hlq] at h; cases h
        | some q' =>
          rw [hlq] at h
          have := hl.2 r rfl
          exact linesL_like f r (k + 1) q' q (line_like hp (by omega) hlq) (by omega) h
theorem read_like {s : List UInt8} {p : Cp} (hs : s.length ≤ 2000000) (h : readL s = (p, none)) : PLike 2000000 2000000 p := by
  by_cases h0 : s = []
  · subst h0
    cases h
  · rw [readL_ne h0] at h
    exact linesL_like _ s 0 _ p ⟨Nat.zero_le _, Nat.zero_le _, fun f hf => (by cases hf), fun x hx => (by cases hx)⟩ (by omega) h
/-- What a right Decode and a right Read have made. -/
theorem outD_none {b : List UInt8} (hb : b.length ≤ 2000000) (h : outD b = none) : rightC (decodeD b).1 = none ∧ encodeB (decodeD b).1 = b ∧ Tame (decodeD b).1 := by
  unfold outD at h
  cases hd : (decodeD b).2 with
  | some i => rw [hd] at h; cases h
  | none =>
    rw [hd] at h
    exact ⟨h, (decode_back (p := (decodeD b).1) (Prod.ext rfl hd)).1, decode_tame hb hd⟩
theorem outR_none {s : List UInt8} (hs : s.length ≤ 2000000) (h : outR s = none) : rightC (readL s).1 = none ∧ listL (readL s).1 = s ∧ Tame (readL s).1 ∧ ∀ f ∈ (readL s).1.funcs, ∀ x ∈ f.code, x.text.size ≤ 3000000 := by
  unfold outR at h
  cases hd : (readL s).2 with
  | some i => rw [hd] at h; cases h
  | none =>
    rw [hd] at h
    have hq : readL s = ((readL s).1, none) := Prod.ext rfl hd
    have hl := read_like hs hq
    refine ⟨?_, read_back hq, hl.tame, fun f hf x hx => by have := ((hl.fs f hf).2.2.2.2.2.2.2 x hx).2.2.2.2; omega⟩
    cases hr : rightC (readL s).1 with
    | none => rfl
    | some c => rw [hr] at h; cases h
end Go.Proofs.YtdjbkppdppdcgaaGreatDoor

namespace Go.Proofs.YtdjbkppdppdcgaaGreatDoor
open Go.RowKit

theorem bad_ok : CpOk ⟨[badF], []⟩ := ⟨by decide, by decide, fun f hf => by
  rw [List.mem_singleton.1 hf]
  refine ⟨by show (0 : Nat) ≤ _; omega, okI0, okI0, okIm, by show (0 : Nat) ≤ _; omega, by show (1 : Nat) ≤ _; omega, fun t ht => (nomatch ht), fun x hx => ?_⟩
  rw [List.mem_singleton.1 hx]
  exact least_ci 50 ⟨by decide, by decide⟩, fun s hs => (nomatch hs)⟩
theorem least_tame : Tame least := ⟨least_ok, fun f hf => by rw [List.mem_singleton.1 hf]; exact Nat.zero_le _, fun f hf x hx => by
  rw [List.mem_singleton.1 hf] at hx
  rcases List.mem_cons.1 hx with rfl | hx
  · exact Nat.zero_le _
  · rw [List.mem_singleton.1 hx]; exact Nat.zero_le _, by decide⟩
theorem bad_tame : Tame ⟨[badF], []⟩ := ⟨bad_ok, fun f hf => by rw [List.mem_singleton.1 hf]; exact Nat.zero_le _, fun f hf x hx => by
  rw [List.mem_singleton.1 hf] at hx
  rw [List.mem_singleton.1 hx]; exact Nat.zero_le _, by decide⟩
theorem right_lies {w : World} {p : Cp} {v : Value} (hG : Gc w) (hv : LiesC w w.heap.size p v) (ht : Tame p) : Calls Tryz.prog 13 #[v] w (RightPost w (rightC p)) := by
  obtain ⟨n, m, fa, fc, ga, gc, xs, rfl, h1, h2, hp⟩ := hv.pieces
  exact right_all hp h1 h2 ht hG
theorem right_leastG {w : World} {v : Value} (hG : Gc w) (hv : LiesC w w.heap.size least v) : Calls Tryz.prog 13 #[v] w (RightPost w none) := by
  have := right_lies hG hv least_tame
  rw [least_right] at this
  exact this
theorem right_badG {w : World} {v : Value} (hG : Gc w) (hv : LiesC w w.heap.size ⟨[badF], []⟩ v) : Calls Tryz.prog 13 #[v] w (RightPost w (some ⟨130, 0, some 0⟩)) := by
  have := right_lies hG hv bad_tame
  rw [show rightC ⟨[badF], []⟩ = some ⟨130, 0, some 0⟩ from least_bad] at this
  exact this
theorem encode_leastG {w : World} {v : Value} (hG : Gc w) (hv : LiesC w w.heap.size least v) : Calls Tryz.prog 14 #[v] w fun e w' => e = .returned (.tuple #[.string ⟨⟨leastB⟩⟩, .nilIface]) ∧ Below w.heap.size w w' := by
  obtain ⟨n, m, fa, fc, ga, gc, xs, rfl, h1, h2, hp⟩ := hv.pieces
  refine (encode_any hp h1 h2 least_tame hG fun _ => by rw [least_bytes]; decide).mono fun e w' ⟨h1, h2⟩ => ?_
  rw [least_right] at h2
  dsimp only at h2
  rw [least_bytes] at h2
  exact ⟨h2, h1⟩
theorem list_leastG {w : World} {v : Value} (hG : Gc w) (hv : LiesC w w.heap.size least v) : Calls Tryz.prog 15 #[v] w fun e w' => e = .returned (.tuple #[.string ⟨⟨leastL⟩⟩, .nilIface]) ∧ Below w.heap.size w w' := by
  obtain ⟨n, m, fa, fc, ga, gc, xs, rfl, h1, h2, hp⟩ := hv.pieces
  refine (list_any hp h1 h2 least_tame hG (fun _ => by rw [least_lines]; decide) (fun f hf x hx => by
    rw [List.mem_singleton.1 hf] at hx
    rcases List.mem_cons.1 hx with rfl | hx
    · exact Nat.zero_le _
    · rw [List.mem_singleton.1 hx]; exact Nat.zero_le _)).mono fun e w' ⟨h1, h2⟩ => ?_
  rw [least_right] at h2
  dsimp only at h2
  rw [least_lines] at h2
  exact ⟨h2, h1⟩
theorem decode_leastG {w : World} (hG : Gc w) : Calls Tryz.prog 16 #[.string ⟨⟨leastB⟩⟩] w fun e w' => ∃ v, e = .returned (.tuple #[v, .nilIface]) ∧ LiesC w' w'.heap.size least v ∧ Below w.heap.size w w' := by
  refine (decode_any (by decide) hG).mono fun e w' ⟨h1, h2⟩ => ?_
  rw [show outD leastB = none by unfold outD; rw [least_dec]; exact least_right] at h2
  obtain ⟨vf, vg, xs, gs, rfl, hp, hown⟩ := h2
  obtain ⟨n, m, fa, fc, ga, gc, rfl, rfl, hn, hm, hpg⟩ := hown.pg
  rw [← hp, least_dec] at hpg
  exact ⟨_, rfl, hpg.lies hn hm, h1⟩
theorem read_leastG {w : World} (hG : Gc w) (hE : Ge w) : Calls Tryz.prog 17 #[.string ⟨⟨leastL⟩⟩] w fun e w' => ∃ v, e = .returned (.tuple #[v, .nilIface]) ∧ LiesC w' w'.heap.size least v ∧ Below w.heap.size w w' := by
  refine (read_any (by decide) hG hE).mono fun e w' ⟨h1, h2⟩ => ?_
  rw [show outR leastL = none by unfold outR; rw [least_read]; dsimp only; rw [least_right]] at h2
  obtain ⟨n, m, fa, fc, ga, gc, xs, rfl, hn, hm, hpg⟩ := h2
  rw [least_read] at hpg
  exact ⟨_, rfl, hpg.lies hn hm, h1⟩

set_option maxRecDepth 100000 in
set_option maxHeartbeats 8000000 in
theorem known_all {w : World} (hG : Gc w) (hE : Ge w) : Calls Tryz.prog 7 #[] w fun e w' => e = .returned (.bool true) ∧ Below w.heap.size w w' := by
  have HG := Lib.hid hG
  have HE := Lib.hid hE
  clear hG hE
  go_enter Tryz.func7, Tryz.ntmps7
  go_upto_region 2 with (go_at_call 18; refine (least_any _).mono ?_; rintro e w1 ⟨v1, rfl, hl1, hb1⟩; obtain ⟨n1, m1, fa1, fc1, ga1, gc1, xs1, rfl, _, _, _⟩ := hl1.pieces)
  have HK := Lib.hid (KnAt.new hb1 hl1)
  obtain ⟨pb, hpb⟩ : ∃ pb, w1.heap.size = pb := ⟨_, rfl⟩
  obtain ⟨W1, hW1⟩ : ∃ W1, w1.alloc (.cells #[.slice fa1 n1 fc1, .slice ga1 m1 gc1] 25 (0, 0)) = W1 := ⟨_, rfl⟩
  simp only [hpb, hW1] at HK ⊢
  obtain ⟨c0, c1⟩ := HK.out.cs
  clear hl1 hb1 hpb hW1
  go_upto_region 3 with (go_at_call 13; refine (right_leastG (HG.out.up HK.out.low) HK.out.lies).mono ?_; rintro e w2 ⟨hb2, rfl⟩; have HK2 := Lib.hid (HK.out.under hb2); obtain ⟨d0, d1⟩ := HK2.out.cs; clear hb2)
  clear c0 c1 HK
  go_upto_region 4 with (go_at_call 14; refine (encode_leastG (HG.out.up HK2.out.low) HK2.out.lies).mono ?_; rintro e w3 ⟨rfl, hb3⟩; rw [least_B]; have HK3 := Lib.hid (HK2.out.under hb3); clear hb3)
  clear d0 d1 HK2
  go_upto_region 5 with (go_at_call 16; refine (decode_leastG (HG.out.up HK3.out.low)).mono ?_; rintro e w4 ⟨q, rfl, hq4, hb4⟩; obtain ⟨n2, m2, fa2, fc2, ga2, gc2, xs2, rfl, _, _, _⟩ := hq4.pieces)
  have HK4 := Lib.hid (HK3.out.under hb4)
  have HQ := Lib.hid (KnAt.new HK4.out.low hq4)
  have HK5 := Lib.hid (HK4.out.alloc (.cells #[.slice fa2 n2 fc2, .slice ga2 m2 gc2] 25 (0, 0)))
  obtain ⟨qb, hqb⟩ : ∃ qb, w4.heap.size = qb := ⟨_, rfl⟩
  obtain ⟨W5, hW5⟩ : ∃ W5, w4.alloc (.cells #[.slice fa2 n2 fc2, .slice ga2 m2 gc2] 25 (0, 0)) = W5 := ⟨_, rfl⟩
  simp only [hqb, hW5] at HQ HK5 ⊢
  obtain ⟨c0, c1⟩ := HK5.out.cs
  clear hq4 hb4 hqb hW5 HK3 HK4
  go_upto_region 6 with (go_at_call 15; refine (list_leastG (HG.out.up HK5.out.low) HK5.out.lies).mono ?_; rintro e w6 ⟨rfl, hb6⟩; have HK6 := Lib.hid (HK5.out.under hb6); have HQ6 := Lib.hid (HQ.out.under hb6); clear hb6)
  clear c0 c1 HK5 HQ
  go_upto_region 7 with (go_at_call 17; refine (read_leastG (HG.out.up HK6.out.low) (HE.out.up HK6.out.low)).mono ?_; rintro e w7 ⟨r, rfl, hr7, hb7⟩; obtain ⟨n3, m3, fa3, fc3, ga3, gc3, xs3, rfl, _, _, _⟩ := hr7.pieces)
  have HK7 := Lib.hid (HK6.out.under hb7)
  have HQ7 := Lib.hid (HQ6.out.under hb7)
  have HR := Lib.hid (KnAt.new HK7.out.low hr7)
  have HK8 := Lib.hid (HK7.out.alloc (.cells #[.slice fa3 n3 fc3, .slice ga3 m3 gc3] 25 (0, 0)))
  have HQ8 := Lib.hid (HQ7.out.alloc (.cells #[.slice fa3 n3 fc3, .slice ga3 m3 gc3] 25 (0, 0)))
  obtain ⟨rb, hrb⟩ : ∃ rb, w7.heap.size = rb := ⟨_, rfl⟩
  obtain ⟨W8, hW8⟩ : ∃ W8, w7.alloc (.cells #[.slice fa3 n3 fc3, .slice ga3 m3 gc3] 25 (0, 0)) = W8 := ⟨_, rfl⟩
  simp only [hrb, hW8] at HR HK8 HQ8 ⊢
  clear hr7 hb7 hrb hW8 HK6 HQ6 HK7 HQ7
  have hB9 : ∀ A B : Obj, Below W8.heap.size W8 ((W8.alloc A).alloc B) := fun A B => ((Below.refl _ _).alloc (Nat.le_refl _) A).alloc (by simp) B
  have HB9 := Lib.hid hB9
  have hbad : LiesC ((W8.alloc (.cells #[.int .i64 50, .int .i64 0, .int .i64 0, .string ⟨#[]⟩, .int .i64 0] 46 (0, 0))).alloc (.cells #[.string ⟨#[]⟩, .int .i64 0, .int .i64 0, .slice none 0 0, .int .i64 (-1), .slice (some ⟨W8.heap.size, 0, none⟩) 1 1] 43 (0, 0))) ((W8.alloc (.cells #[.int .i64 50, .int .i64 0, .int .i64 0, .string ⟨#[]⟩, .int .i64 0] 46 (0, 0))).alloc (.cells #[.string ⟨#[]⟩, .int .i64 0, .int .i64 0, .slice none 0 0, .int .i64 (-1), .slice (some ⟨W8.heap.size, 0, none⟩) 1 1] 43 (0, 0))).heap.size ⟨[badF], []⟩ (.agg #[.slice (some ⟨W8.heap.size + 1, 0, none⟩) 1 1, .slice none 0 0]) := by
    have n1 := heap_alloc_new W8 (.cells #[.int .i64 50, .int .i64 0, .int .i64 0, .string ⟨#[]⟩, .int .i64 0] 46 (0, 0))
    have n2 := heap_alloc_new (W8.alloc (.cells #[.int .i64 50, .int .i64 0, .int .i64 0, .string ⟨#[]⟩, .int .i64 0] 46 (0, 0))) (.cells #[.string ⟨#[]⟩, .int .i64 0, .int .i64 0, .slice none 0 0, .int .i64 (-1), .slice (some ⟨W8.heap.size, 0, none⟩) 1 1] 43 (0, 0))
    rw [World.size_alloc] at n2
    exact one_lies (f := badF) rfl rfl rfl rfl n2 ((heap_alloc_old _ _ (by simp)).trans n1)
  have HBAD := Lib.hid hbad
  clear hB9 hbad
  go_upto_region 8 with (go_at_call 13; refine (right_badG (HG.out.up (HK8.out.low.trans ((HB9.out _ _).mono HK8.out.low.size))) HBAD.out).mono ?_; rintro e w9 ⟨hb9, jb, rfl, hjb, hwr⟩)
  have hb9' := (HB9.out _ _).trans (hb9.mono (HB9.out _ _).size)
  have HK9 := Lib.hid (HK8.out.under hb9')
  have HQ9 := Lib.hid (HQ8.out.under hb9')
  have HR9 := Lib.hid (HR.out.under hb9')
  have HWR := Lib.hid hwr
  clear hb9 hb9' hwr HK8 HQ8 HR HBAD HB9 hjb
  go_upto_region 9 with (go_at_call 19; refine (told_wrong HWR.out 130 0 ⟨#[48]⟩ (by decide)).mono ?_; rintro e w10 ⟨rfl, hb10⟩; rw [ins0])
  have HK10 := Lib.hid (HK9.out.under hb10)
  have HQ10 := Lib.hid (HQ9.out.under hb10)
  have HR10 := Lib.hid (HR9.out.under hb10)
  obtain ⟨c0, c1⟩ := HK10.out.cs
  obtain ⟨d0, d1⟩ := HQ10.out.cs
  clear hb10 HK9 HQ9 HR9 HWR
  obtain ⟨g0, g1⟩ := HR10.out.cs
  have hw10 := HK10.out.low
  go_wp2_with (first
    | (go_at_call 9; with_reducible refine (same_least HK10.out.lies HQ10.out.lies).mono ?_; rintro e w11 ⟨rfl, hb11⟩; have HK11 := Lib.hid (HK10.out.under hb11); have HQ11 := Lib.hid (HQ10.out.under hb11); have HR11 := Lib.hid (HR10.out.under hb11); obtain ⟨k0, k1⟩ := HK11.out.cs; obtain ⟨l0, l1⟩ := HR11.out.cs)
    | (go_at_call 9; with_reducible refine (same_least HK11.out.lies HR11.out.lies).mono ?_; rintro e w12 ⟨rfl, hb12⟩; have HK12 := Lib.hid (HK11.out.under hb12); have HQ12 := Lib.hid (HQ11.out.under hb12); obtain ⟨m0, m1⟩ := HK12.out.cs; obtain ⟨o0, o1⟩ := HQ12.out.cs)
    | (go_at_call 10; with_reducible refine (sameC_least HK12.out.lies HQ12.out.lies).mono ?_; rintro e w13 ⟨rfl, hb13⟩))
  go_ret
  exact ⟨rfl, HK12.out.low.trans (hb13.mono HK12.out.low.size)⟩
end Go.Proofs.YtdjbkppdppdcgaaGreatDoor

namespace Go.Proofs.YtdjbkppdppdcgaaGreatDoor
open Go.RowKit

def DecOk (b : List UInt8) (W : World) (v0 v1 : Value) : Prop := ∀ W', Below W.heap.size W W' → Gc W' → Calls Tryz.prog 13 #[.agg #[v0, v1]] W' (fun e W2 => e = .returned .nilIface ∧ Below W'.heap.size W' W2) ∧
  Calls Tryz.prog 14 #[.agg #[v0, v1]] W' (fun e W2 => e = .returned (.tuple #[.string ⟨⟨b⟩⟩, .nilIface]) ∧ Below W'.heap.size W' W2)
def RdOk (s : List UInt8) (W : World) (v0 v1 : Value) : Prop := ∀ W', Below W.heap.size W W' → Gc W' → Calls Tryz.prog 13 #[.agg #[v0, v1]] W' (fun e W2 => e = .returned .nilIface ∧ Below W'.heap.size W' W2) ∧
  Calls Tryz.prog 15 #[.agg #[v0, v1]] W' (fun e W2 => e = .returned (.tuple #[.string ⟨⟨s⟩⟩, .nilIface]) ∧ Below W'.heap.size W' W2)
theorem DecOk.up {b : List UInt8} {W W' : World} {v0 v1 : Value} (h : DecOk b W v0 v1) (hb : Below W.heap.size W W') : DecOk b W' v0 v1 := fun W2 h2 => h W2 (hb.trans (h2.mono hb.size))
theorem RdOk.up {b : List UInt8} {W W' : World} {v0 v1 : Value} (h : RdOk b W v0 v1) (hb : Below W.heap.size W W') : RdOk b W' v0 v1 := fun W2 h2 => h W2 (hb.trans (h2.mono hb.size))
theorem decode_ok {b : List UInt8} (hb : b.length ≤ 2000000) (ho : outD b = none) {w : World} (hG : Gc w) : Calls Tryz.prog 16 #[.string ⟨⟨b⟩⟩] w fun e w' => ∃ fa n fc ga m gc, e = .returned (.tuple #[.agg #[.slice fa n fc, .slice ga m gc], .nilIface]) ∧ Below w.heap.size w w' ∧ DecOk b w' (.slice fa n fc) (.slice ga m gc) := by
  refine (decode_any hb hG).mono fun e w' ⟨h1, h2⟩ => ?_
  rw [ho] at h2
  obtain ⟨vf, vg, xs, gs, rfl, hp, hown⟩ := h2
  obtain ⟨hR, hE, ht⟩ := outD_none hb ho
  obtain ⟨n, m, fa, fc, ga, gc, rfl, rfl, hn, hm, hpg⟩ := hown.pg
  rw [← hp] at hpg
  refine ⟨fa, n, fc, ga, m, gc, rfl, h1, fun W hW hGW => ⟨(right_all (hpg.rise hW) hn hm ht hGW).mono fun e W' h => ?_, (encode_any (hpg.rise hW) hn hm ht hGW fun _ => by rw [hE]; omega).mono fun e W' h => ?_⟩⟩
  · rw [hR] at h
    exact ⟨h.2, h.1⟩
  · obtain ⟨h1, h2⟩ := h
    rw [hR] at h2
    dsimp only at h2
    rw [hE] at h2
    exact ⟨h2, h1⟩
theorem decode_bad {b : List UInt8} (hb : b.length ≤ 2000000) {c : Cwr} (ho : outD b = some c) {w : World} (hG : Gc w) : Calls Tryz.prog 16 #[.string ⟨⟨b⟩⟩] w fun e w' => ∃ k, e = .returned (.tuple #[.agg #[.slice none 0 0, .slice none 0 0], .iface 61 (.pointer (some ⟨k, 0, none⟩))]) ∧ Below w.heap.size w w' := by
  refine (decode_any hb hG).mono fun e w' ⟨h1, h2⟩ => ?_
  rw [ho] at h2
  obtain ⟨k, rfl, _, _⟩ := h2
  exact ⟨k, rfl, h1⟩
theorem read_ok {s : List UInt8} (hb : s.length ≤ 2000000) (ho : outR s = none) {w : World} (hG : Gc w) (hGe : Ge w) : Calls Tryz.prog 17 #[.string ⟨⟨s⟩⟩] w fun e w' => ∃ fa n fc ga m gc, e = .returned (.tuple #[.agg #[.slice fa n fc, .slice ga m gc], .nilIface]) ∧ Below w.heap.size w w' ∧ RdOk s w' (.slice fa n fc) (.slice ga m gc) := by
  refine (read_any hb hG hGe).mono fun e w' ⟨h1, h2⟩ => ?_
  rw [ho] at h2
  obtain ⟨n, m, fa, fc, ga, gc, xs, rfl, hn, hm, hpg⟩ := h2
  obtain ⟨hR, hE, ht, htx⟩ := outR_none hb ho
  refine ⟨fa, n, fc, ga, m, gc, rfl, h1, fun W hW hGW => ⟨(right_all (hpg.rise hW) hn hm ht hGW).mono fun e W' h => ?_, (list_any (hpg.rise hW) hn hm ht hGW (fun _ => by rw [hE]; omega) htx).mono fun e W' h => ?_⟩⟩
  · rw [hR] at h
    exact ⟨h.2, h.1⟩
  · obtain ⟨h1, h2⟩ := h
    rw [hR] at h2
    dsimp only at h2
    rw [hE] at h2
    exact ⟨h2, h1⟩
theorem read_bad {s : List UInt8} (hb : s.length ≤ 2000000) {c : Cwr} (ho : outR s = some c) {w : World} (hG : Gc w) (hGe : Ge w) : Calls Tryz.prog 17 #[.string ⟨⟨s⟩⟩] w fun e w' => ∃ k, e = .returned (.tuple #[.agg #[.slice none 0 0, .slice none 0 0], .iface 61 (.pointer (some ⟨k, 0, none⟩))]) ∧ Below w.heap.size w w' := by
  refine (read_any hb hG hGe).mono fun e w' ⟨h1, h2⟩ => ?_
  rw [ho] at h2
  obtain ⟨k, rfl, _, _⟩ := h2
  exact ⟨k, rfl, h1⟩
/-- A program in a box of the call's own. -/
structure PqAt (w W : World) (b : Nat) (v0 v1 : Value) : Prop where
  low : Below w.heap.size w W
  box : W.heap[b]? = some (.cells #[v0, v1] 25 (0, 0))
theorem PqAt.under {w W W' : World} {b : Nat} {v0 v1 : Value} (h : PqAt w W b v0 v1) (hb : Below W.heap.size W W') : PqAt w W' b v0 v1 :=
  ⟨h.low.trans (hb.mono h.low.size), (hb.block b (Array.getElem?_eq_some_iff.1 h.box).1).trans h.box⟩
theorem PqAt.new {w W : World} {v0 v1 : Value} (hl : Below w.heap.size w W) : PqAt w (W.alloc (.cells #[v0, v1] 25 (0, 0))) W.heap.size v0 v1 := ⟨hl.alloc hl.size _, heap_alloc_new _ _⟩
theorem PqAt.cs {w W : World} {b : Nat} {v0 v1 : Value} (h : PqAt w W b v0 v1) : W.cell? ⟨b, 0, none⟩ = some v0 ∧ W.cell? ⟨b, 1, none⟩ = some v1 := by
  have c0 := cell_of_row W b 0 _ _ _ h.box
  have c1 := cell_of_row W b 1 _ _ _ h.box
  simp only [List.getElem?_toArray, List.getElem?_cons_zero, List.getElem?_cons_succ] at c0 c1
  exact ⟨c0, c1⟩
theorem own_alloc (W : World) (o : Obj) : Below W.heap.size W (W.alloc o) := (Below.refl _ _).alloc (Nat.le_refl _) _

set_option maxRecDepth 100000 in
set_option maxHeartbeats 8000000 in
theorem CodeAny_any {b s : List UInt8} (hbl : b.length ≤ 2000000) (hsl : s.length ≤ 2000000) {w : World} (hG : Gc w) (hE : Ge w) :
    Calls Tryz.prog 5 #[.string ⟨⟨b⟩⟩, .string ⟨⟨s⟩⟩] w fun e w' => e = .returned (.bool true) ∧ Below w.heap.size w w' := by
  have HG := Lib.hid hG
  have HE := Lib.hid hE
  have HBL := Lib.hid hbl
  have HSL := Lib.hid hsl
  clear hG hE hbl hsl
  go_enter Tryz.func5, Tryz.ntmps5
  go_upto_region 2 with (go_at_call 7; refine (known_all HG.out HE.out).mono ?_; rintro e w1 ⟨rfl, hb1⟩; have HB1 := Lib.hid hb1; clear hb1)
  cases hD : outD b with
  | some cd =>
    cases hR : outR s with
    | some cr =>
      have HDC := Lib.hid (decode_bad HBL.out hD (HG.out.up HB1.out))
      clear hD
      go_upto_region 3 with (go_at_call 16; refine HDC.out.mono ?_; rintro e w2 ⟨k2, rfl, hb2⟩)
      have HP := Lib.hid (PqAt.new (v0 := .slice none 0 0) (v1 := .slice none 0 0) (HB1.out.trans (hb2.mono HB1.out.size)))
      obtain ⟨pb, hpb⟩ : ∃ pb, w2.heap.size = pb := ⟨_, rfl⟩
      obtain ⟨W2, hW2⟩ : ∃ W2, w2.alloc (.cells #[.slice none 0 0, .slice none 0 0] 25 (0, 0)) = W2 := ⟨_, rfl⟩
      simp only [hpb, hW2] at HP ⊢
      clear hb2 hpb hW2 HDC HB1
      have HRC := Lib.hid (read_bad HSL.out hR (HG.out.up HP.out.low) (HE.out.up HP.out.low))
      clear hR
      go_upto_region 4 with (go_at_call 17; refine HRC.out.mono ?_; rintro e w3 ⟨k3, rfl, hb3⟩)
      have HP3 := Lib.hid (HP.out.under hb3)
      have HQ := Lib.hid (PqAt.new (v0 := .slice none 0 0) (v1 := .slice none 0 0) HP3.out.low)
      have HP4 := Lib.hid (HP3.out.under (own_alloc w3 (.cells #[.slice none 0 0, .slice none 0 0] 25 (0, 0))))
      obtain ⟨qb, hqb⟩ : ∃ qb, w3.heap.size = qb := ⟨_, rfl⟩
      obtain ⟨W4, hW4⟩ : ∃ W4, w3.alloc (.cells #[.slice none 0 0, .slice none 0 0] 25 (0, 0)) = W4 := ⟨_, rfl⟩
      simp only [hqb, hW4] at HP4 HQ ⊢
      clear hb3 hqb hW4 HRC HP HP3
      obtain ⟨p0, p1⟩ := HP4.out.cs
      obtain ⟨q0, q1⟩ := HQ.out.cs
      go_wp2_with fail
      go_ret
      exact ⟨rfl, HP4.out.low⟩
    | none =>
      have HDC := Lib.hid (decode_bad HBL.out hD (HG.out.up HB1.out))
      clear hD
      go_upto_region 3 with (go_at_call 16; refine HDC.out.mono ?_; rintro e w2 ⟨k2, rfl, hb2⟩)
      have HP := Lib.hid (PqAt.new (v0 := .slice none 0 0) (v1 := .slice none 0 0) (HB1.out.trans (hb2.mono HB1.out.size)))
      obtain ⟨pb, hpb⟩ : ∃ pb, w2.heap.size = pb := ⟨_, rfl⟩
      obtain ⟨W2, hW2⟩ : ∃ W2, w2.alloc (.cells #[.slice none 0 0, .slice none 0 0] 25 (0, 0)) = W2 := ⟨_, rfl⟩
      simp only [hpb, hW2] at HP ⊢
      clear hb2 hpb hW2 HDC HB1
      have HRC := Lib.hid (read_ok HSL.out hR (HG.out.up HP.out.low) (HE.out.up HP.out.low))
      clear hR
      go_upto_region 4 with (go_at_call 17; refine HRC.out.mono ?_; rintro e w3 ⟨fa2, n2, fc2, ga2, m2, gc2, rfl, hb3, hd3⟩)
      have HP3 := Lib.hid (HP.out.under hb3)
      have HQ := Lib.hid (PqAt.new (v0 := .slice fa2 n2 fc2) (v1 := .slice ga2 m2 gc2) HP3.out.low)
      have HP4 := Lib.hid (HP3.out.under (own_alloc w3 (.cells #[.slice fa2 n2 fc2, .slice ga2 m2 gc2] 25 (0, 0))))
      have HR4 := Lib.hid (hd3.up (own_alloc w3 (.cells #[.slice fa2 n2 fc2, .slice ga2 m2 gc2] 25 (0, 0))))
      obtain ⟨qb, hqb⟩ : ∃ qb, w3.heap.size = qb := ⟨_, rfl⟩
      obtain ⟨W4, hW4⟩ : ∃ W4, w3.alloc (.cells #[.slice fa2 n2 fc2, .slice ga2 m2 gc2] 25 (0, 0)) = W4 := ⟨_, rfl⟩
      simp only [hqb, hW4] at HP4 HQ HR4 ⊢
      clear hb3 hqb hW4 HRC HP HP3 hd3
      obtain ⟨p0, p1⟩ := HP4.out.cs
      obtain ⟨q0, q1⟩ := HQ.out.cs
      go_upto_region 13 with (go_at_call 13; refine (HR4.out _ (Below.refl _ _) (HG.out.up HP4.out.low)).1.mono ?_; rintro e w7 ⟨rfl, hb7⟩; have HP7 := Lib.hid (HP4.out.under hb7); have HQ7 := Lib.hid (HQ.out.under hb7); have HR7 := Lib.hid (HR4.out.up hb7); clear hb7)
      clear p0 p1 q0 q1 HP4 HQ HR4
      obtain ⟨p0, p1⟩ := HP7.out.cs
      obtain ⟨q0, q1⟩ := HQ7.out.cs
      go_upto_region 14 with (go_at_call 15; refine (HR7.out _ (Below.refl _ _) (HG.out.up HP7.out.low)).2.mono ?_; rintro e w8 ⟨rfl, hb8⟩; have HP8 := Lib.hid (HP7.out.under hb8); have HQ8 := Lib.hid (HQ7.out.under hb8); have HR8 := Lib.hid (HR7.out.up hb8); clear hb8)
      clear p0 p1 q0 q1 HP7 HQ7 HR7
      obtain ⟨p0, p1⟩ := HP8.out.cs
      obtain ⟨q0, q1⟩ := HQ8.out.cs
      go_wp2_with fail
      go_ret
      exact ⟨rfl, HP8.out.low⟩
  | none =>
    cases hR : outR s with
    | some cr =>
      have HDC := Lib.hid (decode_ok HBL.out hD (HG.out.up HB1.out))
      clear hD
      go_upto_region 3 with (go_at_call 16; refine HDC.out.mono ?_; rintro e w2 ⟨fa, n, fc, ga, m, gc, rfl, hb2, hd2⟩)
      have HP := Lib.hid (PqAt.new (v0 := .slice fa n fc) (v1 := .slice ga m gc) (HB1.out.trans (hb2.mono HB1.out.size)))
      have HD := Lib.hid (hd2.up (own_alloc w2 (.cells #[.slice fa n fc, .slice ga m gc] 25 (0, 0))))
      obtain ⟨pb, hpb⟩ : ∃ pb, w2.heap.size = pb := ⟨_, rfl⟩
      obtain ⟨W2, hW2⟩ : ∃ W2, w2.alloc (.cells #[.slice fa n fc, .slice ga m gc] 25 (0, 0)) = W2 := ⟨_, rfl⟩
      simp only [hpb, hW2] at HP HD ⊢
      clear hb2 hpb hW2 HDC HB1 hd2
      have HRC := Lib.hid (read_bad HSL.out hR (HG.out.up HP.out.low) (HE.out.up HP.out.low))
      clear hR
      go_upto_region 4 with (go_at_call 17; refine HRC.out.mono ?_; rintro e w3 ⟨k3, rfl, hb3⟩)
      have HP3 := Lib.hid (HP.out.under hb3)
      have HQ := Lib.hid (PqAt.new (v0 := .slice none 0 0) (v1 := .slice none 0 0) HP3.out.low)
      have HP4 := Lib.hid (HP3.out.under (own_alloc w3 (.cells #[.slice none 0 0, .slice none 0 0] 25 (0, 0))))
      have HD4 := Lib.hid ((HD.out.up hb3).up (own_alloc w3 (.cells #[.slice none 0 0, .slice none 0 0] 25 (0, 0))))
      obtain ⟨qb, hqb⟩ : ∃ qb, w3.heap.size = qb := ⟨_, rfl⟩
      obtain ⟨W4, hW4⟩ : ∃ W4, w3.alloc (.cells #[.slice none 0 0, .slice none 0 0] 25 (0, 0)) = W4 := ⟨_, rfl⟩
      simp only [hqb, hW4] at HP4 HQ HD4 ⊢
      clear hb3 hqb hW4 HRC HP HP3 HD
      obtain ⟨p0, p1⟩ := HP4.out.cs
      obtain ⟨q0, q1⟩ := HQ.out.cs
      go_upto_region 8 with (go_at_call 13; refine (HD4.out _ (Below.refl _ _) (HG.out.up HP4.out.low)).1.mono ?_; rintro e w5 ⟨rfl, hb5⟩; have HP5 := Lib.hid (HP4.out.under hb5); have HQ5 := Lib.hid (HQ.out.under hb5); have HD5 := Lib.hid (HD4.out.up hb5); clear hb5)
      clear p0 p1 q0 q1 HP4 HQ HD4
      obtain ⟨p0, p1⟩ := HP5.out.cs
      obtain ⟨q0, q1⟩ := HQ5.out.cs
      go_upto_region 9 with (go_at_call 14; refine (HD5.out _ (Below.refl _ _) (HG.out.up HP5.out.low)).2.mono ?_; rintro e w6 ⟨rfl, hb6⟩; have HP6 := Lib.hid (HP5.out.under hb6); have HQ6 := Lib.hid (HQ5.out.under hb6); have HD6 := Lib.hid (HD5.out.up hb6); clear hb6)
      clear p0 p1 q0 q1 HP5 HQ5 HD5
      obtain ⟨p0, p1⟩ := HP6.out.cs
      obtain ⟨q0, q1⟩ := HQ6.out.cs
      go_wp2_with fail
      go_ret
      exact ⟨rfl, HP6.out.low⟩
    | none =>
      have HDC := Lib.hid (decode_ok HBL.out hD (HG.out.up HB1.out))
      clear hD
      go_upto_region 3 with (go_at_call 16; refine HDC.out.mono ?_; rintro e w2 ⟨fa, n, fc, ga, m, gc, rfl, hb2, hd2⟩)
      have HP := Lib.hid (PqAt.new (v0 := .slice fa n fc) (v1 := .slice ga m gc) (HB1.out.trans (hb2.mono HB1.out.size)))
      have HD := Lib.hid (hd2.up (own_alloc w2 (.cells #[.slice fa n fc, .slice ga m gc] 25 (0, 0))))
      obtain ⟨pb, hpb⟩ : ∃ pb, w2.heap.size = pb := ⟨_, rfl⟩
      obtain ⟨W2, hW2⟩ : ∃ W2, w2.alloc (.cells #[.slice fa n fc, .slice ga m gc] 25 (0, 0)) = W2 := ⟨_, rfl⟩
      simp only [hpb, hW2] at HP HD ⊢
      clear hb2 hpb hW2 HDC HB1 hd2
      have HRC := Lib.hid (read_ok HSL.out hR (HG.out.up HP.out.low) (HE.out.up HP.out.low))
      clear hR
      go_upto_region 4 with (go_at_call 17; refine HRC.out.mono ?_; rintro e w3 ⟨fa2, n2, fc2, ga2, m2, gc2, rfl, hb3, hd3⟩)
      have HP3 := Lib.hid (HP.out.under hb3)
      have HQ := Lib.hid (PqAt.new (v0 := .slice fa2 n2 fc2) (v1 := .slice ga2 m2 gc2) HP3.out.low)
      have HP4 := Lib.hid (HP3.out.under (own_alloc w3 (.cells #[.slice fa2 n2 fc2, .slice ga2 m2 gc2] 25 (0, 0))))
      have HD4 := Lib.hid ((HD.out.up hb3).up (own_alloc w3 (.cells #[.slice fa2 n2 fc2, .slice ga2 m2 gc2] 25 (0, 0))))
      have HR4 := Lib.hid (hd3.up (own_alloc w3 (.cells #[.slice fa2 n2 fc2, .slice ga2 m2 gc2] 25 (0, 0))))
      obtain ⟨qb, hqb⟩ : ∃ qb, w3.heap.size = qb := ⟨_, rfl⟩
      obtain ⟨W4, hW4⟩ : ∃ W4, w3.alloc (.cells #[.slice fa2 n2 fc2, .slice ga2 m2 gc2] 25 (0, 0)) = W4 := ⟨_, rfl⟩
      simp only [hqb, hW4] at HP4 HQ HD4 HR4 ⊢
      clear hb3 hqb hW4 HRC HP HP3 hd3 HD
      obtain ⟨p0, p1⟩ := HP4.out.cs
      obtain ⟨q0, q1⟩ := HQ.out.cs
      go_upto_region 8 with (go_at_call 13; refine (HD4.out _ (Below.refl _ _) (HG.out.up HP4.out.low)).1.mono ?_; rintro e w5 ⟨rfl, hb5⟩; have HP5 := Lib.hid (HP4.out.under hb5); have HQ5 := Lib.hid (HQ.out.under hb5); have HD5 := Lib.hid (HD4.out.up hb5); have HR5 := Lib.hid (HR4.out.up hb5); clear hb5)
      clear p0 p1 q0 q1 HP4 HQ HD4 HR4
      obtain ⟨p0, p1⟩ := HP5.out.cs
      obtain ⟨q0, q1⟩ := HQ5.out.cs
      go_upto_region 9 with (go_at_call 14; refine (HD5.out _ (Below.refl _ _) (HG.out.up HP5.out.low)).2.mono ?_; rintro e w6 ⟨rfl, hb6⟩; have HP6 := Lib.hid (HP5.out.under hb6); have HQ6 := Lib.hid (HQ5.out.under hb6); have HD6 := Lib.hid (HD5.out.up hb6); have HR6 := Lib.hid (HR5.out.up hb6); clear hb6)
      clear p0 p1 q0 q1 HP5 HQ5 HD5 HR5
      obtain ⟨p0, p1⟩ := HP6.out.cs
      obtain ⟨q0, q1⟩ := HQ6.out.cs
      go_upto_region 13 with (go_at_call 13; refine (HR6.out _ (Below.refl _ _) (HG.out.up HP6.out.low)).1.mono ?_; rintro e w7 ⟨rfl, hb7⟩; have HP7 := Lib.hid (HP6.out.under hb7); have HQ7 := Lib.hid (HQ6.out.under hb7); have HD7 := Lib.hid (HD6.out.up hb7); have HR7 := Lib.hid (HR6.out.up hb7); clear hb7)
      clear p0 p1 q0 q1 HP6 HQ6 HD6 HR6
      obtain ⟨p0, p1⟩ := HP7.out.cs
      obtain ⟨q0, q1⟩ := HQ7.out.cs
      go_upto_region 14 with (go_at_call 15; refine (HR7.out _ (Below.refl _ _) (HG.out.up HP7.out.low)).2.mono ?_; rintro e w8 ⟨rfl, hb8⟩; have HP8 := Lib.hid (HP7.out.under hb8); have HQ8 := Lib.hid (HQ7.out.under hb8); have HD8 := Lib.hid (HD7.out.up hb8); have HR8 := Lib.hid (HR7.out.up hb8); clear hb8)
      clear p0 p1 q0 q1 HP7 HQ7 HD7 HR7
      obtain ⟨p0, p1⟩ := HP8.out.cs
      obtain ⟨q0, q1⟩ := HQ8.out.cs
      go_wp2_with fail
      go_ret
      exact ⟨rfl, HP8.out.low⟩
end Go.Proofs.YtdjbkppdppdcgaaGreatDoor
