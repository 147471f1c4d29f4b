/- guiselaw13.known: the chapter's first examples are so. -/
import Derived.Test.YtdjbkppdppdcgaaGreatDoorMCyM
import Derived.Test.YtdjbkppdppdcgaaGreatDoorMCyD
import Derived.Test.YtdjbkppdppdcgaaGreatDoorCxF
import Derived.Test.YtdjbkppdppdcgaaGreatDoorCxL
namespace Go.Proofs.YtdjbkppdppdcgaaGreatDoor
open Go.RowKit

theorem LiesC.up {w W : World} {p : Cp} {v : Value} (h : LiesC w w.heap.size p v) (hb : Below w.heap.size w W) : LiesC W W.heap.size p v := (h.keep hb.block).more hb.size
def badF : Cf := ⟨⟨#[]⟩, 0, 0, [], -1, [⟨50, 0, 0, ⟨#[]⟩, 0⟩]⟩
theorem bad_plain : Plain ⟨[badF], []⟩ badF := by
  have hlen : badF.code.length = 1 := rfl
  refine ⟨⟨rfl, rfl, by rw [hlen]; omega, by decide, by decide⟩, by kernel_rfl, by rw [hlen]; omega, fun k x hx => ?_, fun x hx => ?_⟩
  · rw [hlen]
    have hk : k < 1 := (List.getElem?_eq_some_iff.1 hx).1
    match k, hk, hx with
    | 0, _, hx =>
      obtain rfl : (⟨50, 0, 0, ⟨#[]⟩, 0⟩ : Ci) = x := Option.some.inj hx
      exact ⟨⟨by kernel_rfl, by decide, by decide, by kernel_rfl, by kernel_rfl, by kernel_rfl, rfl, by kernel_rfl, by decide⟩, .inr (.inl rfl), ⟨fun _ h => absurd rfl h, fun h => absurd h (by decide), fun h => absurd h (by decide), by decide, by decide⟩⟩
  · rw [List.mem_singleton.1 hx]
    exact counted_any _ (by decide) (by decide)
theorem bad_fits : fitsP badF.code = some 0 := by kernel_rfl
theorem okI0 : okI 0 := ⟨by decide, by decide⟩
theorem okI1 : okI 1 := ⟨by decide, by decide⟩
theorem okIm : okI (-1) := ⟨by decide, by decide⟩
theorem least_ci (op : Int) (h : okI op) : CiOk ⟨op, 0, 0, ⟨#[]⟩, 0⟩ := ⟨h, okI0, okI0, okI0, by show (0 : Nat) ≤ _; omega⟩
theorem least_cf : CfOk leastF := by
  refine ⟨by show (0 : Nat) ≤ _; omega, okI0, okI1, okIm, by show (0 : Nat) ≤ _; omega, by show (2 : Nat) ≤ _; omega, fun t ht => (nomatch ht), fun x hx => ?_⟩
  rcases List.mem_cons.1 hx with rfl | hx
  · exact least_ci 7 ⟨by decide, by decide⟩
  · rw [List.mem_singleton.1 hx]
    exact least_ci 50 ⟨by decide, by decide⟩
theorem least_ok : CpOk least := ⟨by decide, by decide, fun f hf => by rw [List.mem_singleton.1 hf]; exact least_cf, fun s hs => (nomatch hs)⟩
theorem ins0 : insName (some 0) = ⟨#[48]⟩ := by simp [insName, itoa_0]
theorem least_B : leastB = [71, 67, 48, 49, 0, 2, 0, 0, 2, 0, 1, 4, 14, 0, 0, 0, 0, 100, 0, 0, 0, 0] := rfl
theorem encode_least {w : World} (hG : Gc w) {v : Value} (hv : LiesC w w.heap.size least v) :
    Calls Tryz.prog 14 #[v] w fun e w' => e = .returned (.tuple #[.string ⟨⟨leastB⟩⟩, .nilIface]) ∧ Below w.heap.size w w' := by
  have := encode_plain least_plain hG hv least_fits least_cf (by rw [least_bytes]; decide)
  rw [least_bytes] at this
  exact this
theorem list_least {w : World} (hG : Gc w) {v : Value} (hv : LiesC w w.heap.size least v) :
    Calls Tryz.prog 15 #[v] w fun e w' => e = .returned (.tuple #[.string ⟨⟨leastL⟩⟩, .nilIface]) ∧ Below w.heap.size w w' := by
  have := list_plain least_plain rfl rfl (by intro x hx; rcases List.mem_cons.1 hx with rfl | hx; · rfl
                                             rw [List.mem_singleton.1 hx]) hG hv least_fits least_cf (by rw [least_lines]; decide)
  rw [least_lines] at this
  exact this

/-- The least program in a box of the call's own. -/
structure KnAt (w W : World) (b : Nat) (v0 v1 : Value) : Prop where
  low : Below w.heap.size w W
  box : W.heap[b]? = some (.cells #[v0, v1] 25 (0, 0))
  lies : LiesC W W.heap.size least (.agg #[v0, v1])
theorem KnAt.under {w W W' : World} {b : Nat} {v0 v1 : Value} (h : KnAt w W b v0 v1) (hb : Below W.heap.size W W') : KnAt w W' b v0 v1 :=
  ⟨h.low.trans (hb.mono h.low.size), (hb.block b (Array.getElem?_eq_some_iff.1 h.box).1).trans h.box, h.lies.up hb⟩
theorem KnAt.new {w W : World} {v0 v1 : Value} (hl : Below w.heap.size w W) (h : LiesC W W.heap.size least (.agg #[v0, v1])) : KnAt w (W.alloc (.cells #[v0, v1] 25 (0, 0))) W.heap.size v0 v1 :=
  ⟨hl.alloc hl.size _, heap_alloc_new _ _, h.up ((Below.refl _ _).alloc (Nat.le_refl _) _)⟩
theorem KnAt.alloc {w W : World} {b : Nat} {v0 v1 : Value} (h : KnAt w W b v0 v1) (o : Obj) : KnAt w (W.alloc o) b v0 v1 := h.under ((Below.refl _ _).alloc (Nat.le_refl _) _)
theorem KnAt.cs {w W : World} {b : Nat} {v0 v1 : Value} (h : KnAt w W b v0 v1) : W.cell? ⟨b, 0, none⟩ = some v0 ∧ W.cell? ⟨b, 1, none⟩ = some v1 := by
  have c0 := cell_of_row W b 0 _ _ _ h.box
  have c1 := cell_of_row W b 1 _ _ _ h.box
  simp only [List.getElem?_toArray, List.getElem?_cons_zero, List.getElem?_cons_succ] at c0 c1
  exact ⟨c0, c1⟩
theorem same_least {W : World} {u v : Value} (h : LiesC W W.heap.size least u) (h' : LiesC W W.heap.size least v) : Calls Tryz.prog 9 #[u, v] W fun e w' => e = .returned (.bool true) ∧ Below W.heap.size W w' := by
  have := same13_any h h' least_ok
  rw [sameC_self] at this
  exact this
theorem sameC_least {W : World} {u v : Value} (h : LiesC W W.heap.size least u) (h' : LiesC W W.heap.size least v) : Calls Tryz.prog 10 #[u, v] W fun e w' => e = .returned (.bool true) ∧ Below W.heap.size W w' := by
  have := sameC_any h h' least_ok
  rw [sameC_self] at this
  exact this
set_option maxRecDepth 100000 in
set_option maxHeartbeats 8000000 in
theorem known_any {w : World} (hG : Gc w) : Calls Tryz.prog 7 #[] w fun e w' => e = .returned (.bool true) ∧ Below w.heap.size w w' := by
  have HG := Lib.hid hG
  clear hG
  go_enter Tryz.func7, Tryz.ntmps7
  go_upto_region 2 with (go_at_call 18; refine (least_any _).mono ?_; rintro e w1 ⟨v1, rfl, hl1, hb1⟩; obtain ⟨n1, m1, fa1, fc1, ga1, gc1, xs1, rfl, _, _, _⟩ := hl1.pieces)
  have HK := Lib.hid (KnAt.new hb1 hl1)
  obtain ⟨pb, hpb⟩ : ∃ pb, w1.heap.size = pb := ⟨_, rfl⟩
  obtain ⟨W1, hW1⟩ : ∃ W1, w1.alloc (.cells #[.slice fa1 n1 fc1, .slice ga1 m1 gc1] 25 (0, 0)) = W1 := ⟨_, rfl⟩
  simp only [hpb, hW1] at HK ⊢
  obtain ⟨c0, c1⟩ := HK.out.cs
  clear hl1 hb1 hpb hW1
  go_upto_region 3 with (go_at_call 13; refine (right_plain least_plain (HG.out.up HK.out.low) HK.out.lies least_fits (by simp)).mono ?_; rintro e w2 ⟨hb2, rfl⟩; have HK2 := Lib.hid (HK.out.under hb2); obtain ⟨d0, d1⟩ := HK2.out.cs; clear hb2)
  clear c0 c1 HK
  go_upto_region 4 with (go_at_call 14; refine (encode_least (HG.out.up HK2.out.low) HK2.out.lies).mono ?_; rintro e w3 ⟨rfl, hb3⟩; rw [least_B]; have HK3 := Lib.hid (HK2.out.under hb3); clear hb3)
  clear d0 d1 HK2
  go_upto_region 5 with (go_at_call 16; refine (decode_least (HG.out.up HK3.out.low)).mono ?_; rintro e w4 ⟨q, rfl, hq4, hb4⟩; obtain ⟨n2, m2, fa2, fc2, ga2, gc2, xs2, rfl, _, _, _⟩ := hq4.pieces)
  have HK4 := Lib.hid (HK3.out.under hb4)
  have HQ := Lib.hid (KnAt.new HK4.out.low hq4)
  have HK5 := Lib.hid (HK4.out.alloc (.cells #[.slice fa2 n2 fc2, .slice ga2 m2 gc2] 25 (0, 0)))
  obtain ⟨qb, hqb⟩ : ∃ qb, w4.heap.size = qb := ⟨_, rfl⟩
  obtain ⟨W5, hW5⟩ : ∃ W5, w4.alloc (.cells #[.slice fa2 n2 fc2, .slice ga2 m2 gc2] 25 (0, 0)) = W5 := ⟨_, rfl⟩
  simp only [hqb, hW5] at HQ HK5 ⊢
  obtain ⟨c0, c1⟩ := HK5.out.cs
  clear hq4 hb4 hqb hW5 HK3 HK4
  go_upto_region 6 with (go_at_call 15; refine (list_least (HG.out.up HK5.out.low) HK5.out.lies).mono ?_; rintro e w6 ⟨rfl, hb6⟩; have HK6 := Lib.hid (HK5.out.under hb6); have HQ6 := Lib.hid (HQ.out.under hb6); clear hb6)
  clear c0 c1 HK5 HQ
  go_upto_region 7 with (go_at_call 17; refine (read_least (HG.out.up HK6.out.low)).mono ?_; rintro e w7 ⟨r, rfl, hr7, hb7⟩; obtain ⟨n3, m3, fa3, fc3, ga3, gc3, xs3, rfl, _, _, _⟩ := hr7.pieces)
  have HK7 := Lib.hid (HK6.out.under hb7)
  have HQ7 := Lib.hid (HQ6.out.under hb7)
  have HR := Lib.hid (KnAt.new HK7.out.low hr7)
  have HK8 := Lib.hid (HK7.out.alloc (.cells #[.slice fa3 n3 fc3, .slice ga3 m3 gc3] 25 (0, 0)))
  have HQ8 := Lib.hid (HQ7.out.alloc (.cells #[.slice fa3 n3 fc3, .slice ga3 m3 gc3] 25 (0, 0)))
  obtain ⟨rb, hrb⟩ : ∃ rb, w7.heap.size = rb := ⟨_, rfl⟩
  obtain ⟨W8, hW8⟩ : ∃ W8, w7.alloc (.cells #[.slice fa3 n3 fc3, .slice ga3 m3 gc3] 25 (0, 0)) = W8 := ⟨_, rfl⟩
  simp only [hrb, hW8] at HR HK8 HQ8 ⊢
  clear hr7 hb7 hrb hW8 HK6 HQ6 HK7 HQ7
  have hB9 : ∀ A B : Obj, Below W8.heap.size W8 ((W8.alloc A).alloc B) := fun A B => ((Below.refl _ _).alloc (Nat.le_refl _) A).alloc (by simp) B
  have HB9 := Lib.hid hB9
  have hbad : LiesC ((W8.alloc (.cells #[.int .i64 50, .int .i64 0, .int .i64 0, .string ⟨#[]⟩, .int .i64 0] 46 (0, 0))).alloc (.cells #[.string ⟨#[]⟩, .int .i64 0, .int .i64 0, .slice none 0 0, .int .i64 (-1), .slice (some ⟨W8.heap.size, 0, none⟩) 1 1] 43 (0, 0))) ((W8.alloc (.cells #[.int .i64 50, .int .i64 0, .int .i64 0, .string ⟨#[]⟩, .int .i64 0] 46 (0, 0))).alloc (.cells #[.string ⟨#[]⟩, .int .i64 0, .int .i64 0, .slice none 0 0, .int .i64 (-1), .slice (some ⟨W8.heap.size, 0, none⟩) 1 1] 43 (0, 0))).heap.size ⟨[badF], []⟩ (.agg #[.slice (some ⟨W8.heap.size + 1, 0, none⟩) 1 1, .slice none 0 0]) := by
    have n1 := heap_alloc_new W8 (.cells #[.int .i64 50, .int .i64 0, .int .i64 0, .string ⟨#[]⟩, .int .i64 0] 46 (0, 0))
    have n2 := heap_alloc_new (W8.alloc (.cells #[.int .i64 50, .int .i64 0, .int .i64 0, .string ⟨#[]⟩, .int .i64 0] 46 (0, 0))) (.cells #[.string ⟨#[]⟩, .int .i64 0, .int .i64 0, .slice none 0 0, .int .i64 (-1), .slice (some ⟨W8.heap.size, 0, none⟩) 1 1] 43 (0, 0))
    rw [World.size_alloc] at n2
    exact one_lies (f := badF) rfl rfl rfl rfl n2 ((heap_alloc_old _ _ (by simp)).trans n1)
  have HBAD := Lib.hid hbad
  clear hB9 hbad
  go_upto_region 8 with (go_at_call 13; refine (right_plain bad_plain (HG.out.up (HK8.out.low.trans ((HB9.out _ _).mono HK8.out.low.size))) HBAD.out bad_fits (by intro k hk; obtain rfl := Option.some.inj hk; exact ⟨by decide, by decide⟩)).mono ?_; rintro e w9 ⟨hb9, jb, rfl, hjb, hwr⟩)
  have hb9' := (HB9.out _ _).trans (hb9.mono (HB9.out _ _).size)
  have HK9 := Lib.hid (HK8.out.under hb9')
  have HQ9 := Lib.hid (HQ8.out.under hb9')
  have HR9 := Lib.hid (HR.out.under hb9')
  have HWR := Lib.hid hwr
  clear hb9 hb9' hwr HK8 HQ8 HR HBAD HB9 hjb
  go_upto_region 9 with (go_at_call 19; refine (told_wrong HWR.out 130 0 ⟨#[48]⟩ (by decide)).mono ?_; rintro e w10 ⟨rfl, hb10⟩; rw [ins0])
  have HK10 := Lib.hid (HK9.out.under hb10)
  have HQ10 := Lib.hid (HQ9.out.under hb10)
  have HR10 := Lib.hid (HR9.out.under hb10)
  obtain ⟨c0, c1⟩ := HK10.out.cs
  obtain ⟨d0, d1⟩ := HQ10.out.cs
  clear hb10 HK9 HQ9 HR9 HWR
  obtain ⟨g0, g1⟩ := HR10.out.cs
  have hw10 := HK10.out.low
  go_wp2_with (first
    | (go_at_call 9; with_reducible refine (same_least HK10.out.lies HQ10.out.lies).mono ?_; rintro e w11 ⟨rfl, hb11⟩; have HK11 := Lib.hid (HK10.out.under hb11); have HQ11 := Lib.hid (HQ10.out.under hb11); have HR11 := Lib.hid (HR10.out.under hb11); obtain ⟨k0, k1⟩ := HK11.out.cs; obtain ⟨l0, l1⟩ := HR11.out.cs)
    | (go_at_call 9; with_reducible refine (same_least HK11.out.lies HR11.out.lies).mono ?_; rintro e w12 ⟨rfl, hb12⟩; have HK12 := Lib.hid (HK11.out.under hb12); have HQ12 := Lib.hid (HQ11.out.under hb12); obtain ⟨m0, m1⟩ := HK12.out.cs; obtain ⟨o0, o1⟩ := HQ12.out.cs)
    | (go_at_call 10; with_reducible refine (sameC_least HK12.out.lies HQ12.out.lies).mono ?_; rintro e w13 ⟨rfl, hb13⟩))
  go_ret
  exact ⟨rfl, HK12.out.low.trans (hb13.mono HK12.out.low.size)⟩
end Go.Proofs.YtdjbkppdppdcgaaGreatDoor
