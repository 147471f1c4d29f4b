/- guiselaw2.TreePlaces: the walk, in its cases. guiselaw2.TreePlaces: the walk, in its cases. guiselaw2.TreePlaces at every tree. TreePlaces: for every tree and every number the law answers true, and what was handed in reads behind the call as it did. -/
import Derived.ChangeMaps5
import Derived.RowKit
import Derived.Test.YtjpmghgmmeemkaaGreatDoorJPlLaw
import Derived.Test.YtjpmghgmmeemkaaGreatDoorGround
import Derived.Test.YtjpmghgmmeemkaaGreatDoorJEx
namespace Go.Proofs.YtjpmghgmmeemkaaGreatDoor
open Go.RowKit

set_option maxRecDepth 100000 in
set_option maxHeartbeats 8000000 in
theorem places_ok (t : Nd) (v : Value) (d : Int) (c p : Int) (m : ByteArray) (S : ByteArray) (w : World) (hgl : Gl w) (hge : Gerr w) (hex : ∀ W, Below w.heap.size w W → Calls Tryz.prog 7 #[] W fun e W' => e = .returned (.bool true) ∧ Below W.heap.size W W') (h : Lies w w.heap.size t v) (hcnt : t.count 1000000 ≤ 30000)
    (hc1 : wrC (t.look intB floatsB 1 0 0).2 = 0) (ha1 : wrA (t.look intB floatsB 1 0 0).2 = 0) (hn1 : wrN (t.look intB floatsB 1 0 0).2 = ⟨#[]⟩)
    (hc2 : wrC ((t.mv d).look intB floatsB 1 0 0).2 = 0) (ha2 : wrA ((t.mv d).look intB floatsB 1 0 0).2 = 0) (hn2 : wrN ((t.mv d).look intB floatsB 1 0 0).2 = ⟨#[]⟩)
    (hs3 : (prRes intB floatsB t).1 = S) (hc3 : wrC (prRes intB floatsB t).2 = c) (ha3 : wrA (prRes intB floatsB t).2 = p) (hn3 : wrN (prRes intB floatsB t).2 = m)
    (hs4 : (prRes intB floatsB (t.mv d)).1 = S) (hc4 : wrC (prRes intB floatsB (t.mv d)).2 = c) (ha4 : wrA (prRes intB floatsB (t.mv d)).2 = p) (hn4 : wrN (prRes intB floatsB (t.mv d)).2 = m)
    : Calls Tryz.prog 4 #[v, .int .i64 d] w fun e w' => e = .returned (.bool true) ∧ Below w.heap.size w w' := by
  have HX := Lib.hid h
  have HEX := Lib.hid hex
  have HGL := Lib.hid hgl
  have HGE := Lib.hid hge
  have h1w : 1 ≤ w.heap.size := by have := hgl.2.2; omega
  have hsm := mv_Same d t (by omega)
  have hsize : (t.size : Int) ≤ 100000 := by have := Nd.count_size t 1000000 (by omega); omega
  have HC1 := Lib.hid hc1
  have HA1 := Lib.hid ha1
  have HN1 := Lib.hid hn1
  have HC2 := Lib.hid hc2
  have HA2 := Lib.hid ha2
  have HN2 := Lib.hid hn2
  have HC3 := Lib.hid hc3
  have HA3 := Lib.hid ha3
  have HN3 := Lib.hid hn3
  have HC4 := Lib.hid hc4
  have HA4 := Lib.hid ha4
  have HN4 := Lib.hid hn4
  have HSM1 := Lib.hid hsm.1
  have HSM2 := Lib.hid hsm.2
  have HS3 := Lib.hid hs3
  have HS4 := Lib.hid hs4
  have HSZ := Lib.hid hsize
  clear hc1 ha1 hn1 hc2 ha2 hn2 hc3 ha3 hn3 hc4 ha4 hn4 hs3 hs4 hsm hex hgl hge hsize
  have hcc := fun W hl => rCount_any t v W hl
  obtain ⟨cn, HCN⟩ : ∃ cn, Hid (t.count 1000000 = cn) := ⟨_, rfl⟩
  rw [HCN.out] at hcnt
  simp only [HCN.out] at hcc
  have HCC := Lib.hid hcc
  clear hcc
  have hcn : ((30000 : Int) < cn) = False := by simp; omega
  obtain ⟨T, HT⟩ : ∃ T, Hid (t = T) := ⟨_, rfl⟩
  have hT := HT.out
  rw [hT] at HX HSM1 HSM2 HSZ HCC HS3 HS4 HC1 HA1 HN1 HC2 HA2 HN2 HC3 HA3 HN3 HC4 HA4 HN4 h
  clear hT
  obtain ⟨k, s, n, a, ks⟩ := t
  rw [← HT.out] at h
  unfold Lies at h
  obtain ⟨A, cap, rfl, -⟩ := h
  have hr := (RSt.push (rows := []) ⟨Below.refl _ w, fun r hr => by simp at hr⟩ #[.int .i64 k, .string s, .int .i64 n, .int .i64 a, .slice A ks.length cap] 24)
  have n0 := hr.at_ (List.mem_cons_self ..) 0 rfl
  have n1 := hr.at_ (List.mem_cons_self ..) 1 rfl
  have n2 := hr.at_ (List.mem_cons_self ..) 2 rfl
  have n3 := hr.at_ (List.mem_cons_self ..) 3 rfl
  have n4 := hr.at_ (List.mem_cons_self ..) 4 rfl
  have R0 := Lib.hid hr
  clear hr
  go_enter Tryz.func4, Tryz.ntmps4
  go_wp2_with (first
    | (go_at_call 7; refine (HEX.out _ R0.out.bel).mono ?_; rintro e w1 ⟨rfl, hb⟩
       have hr := R0.out.step hb
       have z1 := hb.size
       try simp only [World.size_alloc] at z1
       have n0 := hr.at_ (List.mem_cons_self ..) 0 rfl
       have n1 := hr.at_ (List.mem_cons_self ..) 1 rfl
       have n2 := hr.at_ (List.mem_cons_self ..) 2 rfl
       have n3 := hr.at_ (List.mem_cons_self ..) 3 rfl
       have n4 := hr.at_ (List.mem_cons_self ..) 4 rfl
       have R1 := Lib.hid hr
       clear hr hb R0)
    | (go_at_call 11; refine (HCC.out _ (HX.out.up R1.out.bel)).mono ?_; rintro e w2 ⟨rfl, hb⟩
       have hr := R1.out.step hb
       have z2 := hb.size
       try simp only [World.size_alloc] at z2
       have n0 := hr.at_ (List.mem_cons_self ..) 0 rfl
       have n1 := hr.at_ (List.mem_cons_self ..) 1 rfl
       have n2 := hr.at_ (List.mem_cons_self ..) 2 rfl
       have n3 := hr.at_ (List.mem_cons_self ..) 3 rfl
       have n4 := hr.at_ (List.mem_cons_self ..) 4 rfl
       have R2 := Lib.hid hr
       clear hr hb R1)
    | (go_at_call 12; refine (moved_any d T _ _ (HX.out.up R2.out.bel) HSZ.out).mono ?_; rintro e w3 ⟨v', rfl, hA, hb⟩
       have hM := hA.lies
       rw [← HT.out] at hA
       obtain ⟨A3, cap3, rfl⟩ : ∃ A3 cap3, v' = .agg #[.int .i64 k, .string s, .int .i64 n, .int .i64 (wrap64 (a + d)), .slice A3 (mvL d ks).length cap3] := LiesA.form hA
       have hr := R2.out.step hb
       have z3 := hb.size
       try simp only [World.size_alloc] at z3
       have hr := hr.push #[.int .i64 k, .string s, .int .i64 n, .int .i64 (wrap64 (a + d)), .slice A3 (mvL d ks).length cap3] 24
       have m0 := hr.at_ (List.mem_cons_self ..) 0 rfl
       have m1 := hr.at_ (List.mem_cons_self ..) 1 rfl
       have m2 := hr.at_ (List.mem_cons_self ..) 2 rfl
       have m3 := hr.at_ (List.mem_cons_self ..) 3 rfl
       have m4 := hr.at_ (List.mem_cons_self ..) 4 rfl
       have n0 := hr.at_ (List.mem_cons_of_mem _ (List.mem_cons_self ..)) 0 rfl
       have n1 := hr.at_ (List.mem_cons_of_mem _ (List.mem_cons_self ..)) 1 rfl
       have n2 := hr.at_ (List.mem_cons_of_mem _ (List.mem_cons_self ..)) 2 rfl
       have n3 := hr.at_ (List.mem_cons_of_mem _ (List.mem_cons_self ..)) 3 rfl
       have n4 := hr.at_ (List.mem_cons_of_mem _ (List.mem_cons_self ..)) 4 rfl
       have R3 := Lib.hid hr
       clear hr hb R2
       have HM := Lib.hid (hM.up (((Below.refl _ _).alloc (Nat.le_refl _) _) : Below w3.heap.size w3 (w3.alloc (.cells #[.int .i64 k, .string s, .int .i64 n, .int .i64 (wrap64 (a + d)), .slice A3 (mvL d ks).length cap3] 24 (0, 0)))))
       clear hM hA)
    | (go_at_call 14; refine (right_told (HGL.out.up R3.out.bel) (HX.out.up R3.out.bel)).mono ?_; rintro e w4 ⟨ev1, rfl, he, hb⟩
       have hM := HM.out.up hb
       have HM4 := Lib.hid hM
       clear hM HM
       have hr := R3.out.step hb
       have z4 := hb.size
       try simp only [World.size_alloc] at z4
       have m0 := hr.at_ (List.mem_cons_self ..) 0 rfl
       have m1 := hr.at_ (List.mem_cons_self ..) 1 rfl
       have m2 := hr.at_ (List.mem_cons_self ..) 2 rfl
       have m3 := hr.at_ (List.mem_cons_self ..) 3 rfl
       have m4 := hr.at_ (List.mem_cons_self ..) 4 rfl
       have n0 := hr.at_ (List.mem_cons_of_mem _ (List.mem_cons_self ..)) 0 rfl
       have n1 := hr.at_ (List.mem_cons_of_mem _ (List.mem_cons_self ..)) 1 rfl
       have n2 := hr.at_ (List.mem_cons_of_mem _ (List.mem_cons_self ..)) 2 rfl
       have n3 := hr.at_ (List.mem_cons_of_mem _ (List.mem_cons_self ..)) 3 rfl
       have n4 := hr.at_ (List.mem_cons_of_mem _ (List.mem_cons_self ..)) 4 rfl
       have R4 := Lib.hid hr
       clear hr hb R3
       have HE4 := Lib.hid he
       clear he)
    | (go_at_call 13; refine (told_is HE4.out HC1.out HA1.out HN1.out (HGE.out.below R4.out.bel h1w) (Nat.le_trans h1w R4.out.bel.size)).mono ?_; rintro e w5 ⟨rfl, hb⟩
       have hM := (HM4.out.up hb).up (((Below.refl _ _).alloc (Nat.le_refl _) (.cells #[.int .i64 0, .int .i64 0, .string ⟨#[]⟩] 31 (0, 0))))
       have HM5 := Lib.hid hM
       clear hM HM4 HE4
       have hr := R4.out.step hb
       have z5 := hb.size
       try simp only [World.size_alloc] at z5
       have hr := hr.push #[.int .i64 0, .int .i64 0, .string ⟨#[]⟩] 31
       have e0 := hr.at_ (List.mem_cons_self ..) 0 rfl
       have e1 := hr.at_ (List.mem_cons_self ..) 1 rfl
       have e2 := hr.at_ (List.mem_cons_self ..) 2 rfl
       have m0 := hr.at_ (List.mem_cons_of_mem _ (List.mem_cons_self ..)) 0 rfl
       have m1 := hr.at_ (List.mem_cons_of_mem _ (List.mem_cons_self ..)) 1 rfl
       have m2 := hr.at_ (List.mem_cons_of_mem _ (List.mem_cons_self ..)) 2 rfl
       have m3 := hr.at_ (List.mem_cons_of_mem _ (List.mem_cons_self ..)) 3 rfl
       have m4 := hr.at_ (List.mem_cons_of_mem _ (List.mem_cons_self ..)) 4 rfl
       have n0 := hr.at_ (List.mem_cons_of_mem _ (List.mem_cons_of_mem _ (List.mem_cons_self ..))) 0 rfl
       have n1 := hr.at_ (List.mem_cons_of_mem _ (List.mem_cons_of_mem _ (List.mem_cons_self ..))) 1 rfl
       have n2 := hr.at_ (List.mem_cons_of_mem _ (List.mem_cons_of_mem _ (List.mem_cons_self ..))) 2 rfl
       have n3 := hr.at_ (List.mem_cons_of_mem _ (List.mem_cons_of_mem _ (List.mem_cons_self ..))) 3 rfl
       have n4 := hr.at_ (List.mem_cons_of_mem _ (List.mem_cons_of_mem _ (List.mem_cons_self ..))) 4 rfl
       have R5 := Lib.hid hr
       clear hr hb R4)
    | (go_at_call 14; refine (right_told (HGL.out.up R5.out.bel) HM5.out).mono ?_; rintro e w6 ⟨ev2, rfl, he, hb⟩
       have hM := HM5.out.up hb
       have HM6 := Lib.hid hM
       clear hM HM5
       have hr := R5.out.step hb
       have z6 := hb.size
       try simp only [World.size_alloc] at z6
       have e0 := hr.at_ (List.mem_cons_self ..) 0 rfl
       have e1 := hr.at_ (List.mem_cons_self ..) 1 rfl
       have e2 := hr.at_ (List.mem_cons_self ..) 2 rfl
       have m0 := hr.at_ (List.mem_cons_of_mem _ (List.mem_cons_self ..)) 0 rfl
       have m1 := hr.at_ (List.mem_cons_of_mem _ (List.mem_cons_self ..)) 1 rfl
       have m2 := hr.at_ (List.mem_cons_of_mem _ (List.mem_cons_self ..)) 2 rfl
       have m3 := hr.at_ (List.mem_cons_of_mem _ (List.mem_cons_self ..)) 3 rfl
       have m4 := hr.at_ (List.mem_cons_of_mem _ (List.mem_cons_self ..)) 4 rfl
       have n0 := hr.at_ (List.mem_cons_of_mem _ (List.mem_cons_of_mem _ (List.mem_cons_self ..))) 0 rfl
       have n1 := hr.at_ (List.mem_cons_of_mem _ (List.mem_cons_of_mem _ (List.mem_cons_self ..))) 1 rfl
       have n2 := hr.at_ (List.mem_cons_of_mem _ (List.mem_cons_of_mem _ (List.mem_cons_self ..))) 2 rfl
       have n3 := hr.at_ (List.mem_cons_of_mem _ (List.mem_cons_of_mem _ (List.mem_cons_self ..))) 3 rfl
       have n4 := hr.at_ (List.mem_cons_of_mem _ (List.mem_cons_of_mem _ (List.mem_cons_self ..))) 4 rfl
       have R6 := Lib.hid hr
       clear hr hb R5
       have HE6 := Lib.hid he
       clear he)
    | (go_at_call 13; refine (told_is HE6.out HC2.out HA2.out HN2.out (HGE.out.below R6.out.bel h1w) (Nat.le_trans h1w R6.out.bel.size)).mono ?_; rintro e w7 ⟨rfl, hb⟩
       have hM := (HM6.out.up hb).up (((Below.refl _ _).alloc (Nat.le_refl _) (.cells #[.int .i64 0, .int .i64 0, .string ⟨#[]⟩] 31 (0, 0))))
       have HM7 := Lib.hid hM
       clear hM HM6 HE6
       have hr := R6.out.step hb
       have z7 := hb.size
       try simp only [World.size_alloc] at z7
       have hr := hr.push #[.int .i64 0, .int .i64 0, .string ⟨#[]⟩] 31
       have f0 := hr.at_ (List.mem_cons_self ..) 0 rfl
       have f1 := hr.at_ (List.mem_cons_self ..) 1 rfl
       have f2 := hr.at_ (List.mem_cons_self ..) 2 rfl
       have e0 := hr.at_ (List.mem_cons_of_mem _ (List.mem_cons_self ..)) 0 rfl
       have e1 := hr.at_ (List.mem_cons_of_mem _ (List.mem_cons_self ..)) 1 rfl
       have e2 := hr.at_ (List.mem_cons_of_mem _ (List.mem_cons_self ..)) 2 rfl
       have m0 := hr.at_ (List.mem_cons_of_mem _ (List.mem_cons_of_mem _ (List.mem_cons_self ..))) 0 rfl
       have m1 := hr.at_ (List.mem_cons_of_mem _ (List.mem_cons_of_mem _ (List.mem_cons_self ..))) 1 rfl
       have m2 := hr.at_ (List.mem_cons_of_mem _ (List.mem_cons_of_mem _ (List.mem_cons_self ..))) 2 rfl
       have m3 := hr.at_ (List.mem_cons_of_mem _ (List.mem_cons_of_mem _ (List.mem_cons_self ..))) 3 rfl
       have m4 := hr.at_ (List.mem_cons_of_mem _ (List.mem_cons_of_mem _ (List.mem_cons_self ..))) 4 rfl
       have n0 := hr.at_ (List.mem_cons_of_mem _ (List.mem_cons_of_mem _ (List.mem_cons_of_mem _ (List.mem_cons_self ..)))) 0 rfl
       have n1 := hr.at_ (List.mem_cons_of_mem _ (List.mem_cons_of_mem _ (List.mem_cons_of_mem _ (List.mem_cons_self ..)))) 1 rfl
       have n2 := hr.at_ (List.mem_cons_of_mem _ (List.mem_cons_of_mem _ (List.mem_cons_of_mem _ (List.mem_cons_self ..)))) 2 rfl
       have n3 := hr.at_ (List.mem_cons_of_mem _ (List.mem_cons_of_mem _ (List.mem_cons_of_mem _ (List.mem_cons_self ..)))) 3 rfl
       have n4 := hr.at_ (List.mem_cons_of_mem _ (List.mem_cons_of_mem _ (List.mem_cons_of_mem _ (List.mem_cons_self ..)))) 4 rfl
       have R7 := Lib.hid hr
       clear hr hb R6)
    | (go_at_call 15; refine (print_told (HGL.out.up R7.out.bel) (HX.out.up R7.out.bel)).mono ?_; rintro e w8 ⟨ev3, rfl, he, hb⟩
       rw [HS3.out]
       have hM := HM7.out.up hb
       have HM8 := Lib.hid hM
       clear hM HM7
       have hr := R7.out.step hb
       have z8 := hb.size
       try simp only [World.size_alloc] at z8
       have f0 := hr.at_ (List.mem_cons_self ..) 0 rfl
       have f1 := hr.at_ (List.mem_cons_self ..) 1 rfl
       have f2 := hr.at_ (List.mem_cons_self ..) 2 rfl
       have e0 := hr.at_ (List.mem_cons_of_mem _ (List.mem_cons_self ..)) 0 rfl
       have e1 := hr.at_ (List.mem_cons_of_mem _ (List.mem_cons_self ..)) 1 rfl
       have e2 := hr.at_ (List.mem_cons_of_mem _ (List.mem_cons_self ..)) 2 rfl
       have m0 := hr.at_ (List.mem_cons_of_mem _ (List.mem_cons_of_mem _ (List.mem_cons_self ..))) 0 rfl
       have m1 := hr.at_ (List.mem_cons_of_mem _ (List.mem_cons_of_mem _ (List.mem_cons_self ..))) 1 rfl
       have m2 := hr.at_ (List.mem_cons_of_mem _ (List.mem_cons_of_mem _ (List.mem_cons_self ..))) 2 rfl
       have m3 := hr.at_ (List.mem_cons_of_mem _ (List.mem_cons_of_mem _ (List.mem_cons_self ..))) 3 rfl
       have m4 := hr.at_ (List.mem_cons_of_mem _ (List.mem_cons_of_mem _ (List.mem_cons_self ..))) 4 rfl
       have n0 := hr.at_ (List.mem_cons_of_mem _ (List.mem_cons_of_mem _ (List.mem_cons_of_mem _ (List.mem_cons_self ..)))) 0 rfl
       have n1 := hr.at_ (List.mem_cons_of_mem _ (List.mem_cons_of_mem _ (List.mem_cons_of_mem _ (List.mem_cons_self ..)))) 1 rfl
       have n2 := hr.at_ (List.mem_cons_of_mem _ (List.mem_cons_of_mem _ (List.mem_cons_of_mem _ (List.mem_cons_self ..)))) 2 rfl
       have n3 := hr.at_ (List.mem_cons_of_mem _ (List.mem_cons_of_mem _ (List.mem_cons_of_mem _ (List.mem_cons_self ..)))) 3 rfl
       have n4 := hr.at_ (List.mem_cons_of_mem _ (List.mem_cons_of_mem _ (List.mem_cons_of_mem _ (List.mem_cons_self ..)))) 4 rfl
       have R8 := Lib.hid hr
       clear hr hb R7
       have HE8 := Lib.hid he
       clear he)
    | (go_at_call 15; refine (print_told (HGL.out.up R8.out.bel) HM8.out).mono ?_; rintro e w9 ⟨ev4, rfl, he, hb⟩
       rw [HS4.out]
       have hM := HM8.out.up hb
       have HM9 := Lib.hid hM
       have HE9 := Lib.hid (HE8.out.up hb)
       clear hM HM8 HE8
       have hr := R8.out.step hb
       have z9 := hb.size
       try simp only [World.size_alloc] at z9
       have f0 := hr.at_ (List.mem_cons_self ..) 0 rfl
       have f1 := hr.at_ (List.mem_cons_self ..) 1 rfl
       have f2 := hr.at_ (List.mem_cons_self ..) 2 rfl
       have e0 := hr.at_ (List.mem_cons_of_mem _ (List.mem_cons_self ..)) 0 rfl
       have e1 := hr.at_ (List.mem_cons_of_mem _ (List.mem_cons_self ..)) 1 rfl
       have e2 := hr.at_ (List.mem_cons_of_mem _ (List.mem_cons_self ..)) 2 rfl
       have m0 := hr.at_ (List.mem_cons_of_mem _ (List.mem_cons_of_mem _ (List.mem_cons_self ..))) 0 rfl
       have m1 := hr.at_ (List.mem_cons_of_mem _ (List.mem_cons_of_mem _ (List.mem_cons_self ..))) 1 rfl
       have m2 := hr.at_ (List.mem_cons_of_mem _ (List.mem_cons_of_mem _ (List.mem_cons_self ..))) 2 rfl
       have m3 := hr.at_ (List.mem_cons_of_mem _ (List.mem_cons_of_mem _ (List.mem_cons_self ..))) 3 rfl
       have m4 := hr.at_ (List.mem_cons_of_mem _ (List.mem_cons_of_mem _ (List.mem_cons_self ..))) 4 rfl
       have n0 := hr.at_ (List.mem_cons_of_mem _ (List.mem_cons_of_mem _ (List.mem_cons_of_mem _ (List.mem_cons_self ..)))) 0 rfl
       have n1 := hr.at_ (List.mem_cons_of_mem _ (List.mem_cons_of_mem _ (List.mem_cons_of_mem _ (List.mem_cons_self ..)))) 1 rfl
       have n2 := hr.at_ (List.mem_cons_of_mem _ (List.mem_cons_of_mem _ (List.mem_cons_of_mem _ (List.mem_cons_self ..)))) 2 rfl
       have n3 := hr.at_ (List.mem_cons_of_mem _ (List.mem_cons_of_mem _ (List.mem_cons_of_mem _ (List.mem_cons_self ..)))) 3 rfl
       have n4 := hr.at_ (List.mem_cons_of_mem _ (List.mem_cons_of_mem _ (List.mem_cons_of_mem _ (List.mem_cons_self ..)))) 4 rfl
       have R9 := Lib.hid hr
       clear hr hb R8
       have HF9 := Lib.hid he
       clear he)
    | (go_at_call 13; refine (told_is HE9.out HC3.out HA3.out HN3.out (HGE.out.below R9.out.bel h1w) (Nat.le_trans h1w R9.out.bel.size)).mono ?_; rintro e w10 ⟨rfl, hb⟩
       have hM := (HM9.out.up hb).up (((Below.refl _ _).alloc (Nat.le_refl _) (.cells #[.int .i64 c, .int .i64 p, .string m] 31 (0, 0))))
       have HM10 := Lib.hid hM
       have HF10 := Lib.hid ((HF9.out.up hb).up ((Below.refl _ _).alloc (Nat.le_refl _) (.cells #[.int .i64 c, .int .i64 p, .string m] 31 (0, 0))))
       clear hM HM9 HE9 HF9
       have hr := R9.out.step hb
       have z10 := hb.size
       try simp only [World.size_alloc] at z10
       have hr := hr.push #[.int .i64 c, .int .i64 p, .string m] 31
       have i0 := hr.at_ (List.mem_cons_self ..) 0 rfl
       have i1 := hr.at_ (List.mem_cons_self ..) 1 rfl
       have i2 := hr.at_ (List.mem_cons_self ..) 2 rfl
       have f0 := hr.at_ (List.mem_cons_of_mem _ (List.mem_cons_self ..)) 0 rfl
       have f1 := hr.at_ (List.mem_cons_of_mem _ (List.mem_cons_self ..)) 1 rfl
       have f2 := hr.at_ (List.mem_cons_of_mem _ (List.mem_cons_self ..)) 2 rfl
       have e0 := hr.at_ (List.mem_cons_of_mem _ (List.mem_cons_of_mem _ (List.mem_cons_self ..))) 0 rfl
       have e1 := hr.at_ (List.mem_cons_of_mem _ (List.mem_cons_of_mem _ (List.mem_cons_self ..))) 1 rfl
       have e2 := hr.at_ (List.mem_cons_of_mem _ (List.mem_cons_of_mem _ (List.mem_cons_self ..))) 2 rfl
       have m0 := hr.at_ (List.mem_cons_of_mem _ (List.mem_cons_of_mem _ (List.mem_cons_of_mem _ (List.mem_cons_self ..)))) 0 rfl
       have m1 := hr.at_ (List.mem_cons_of_mem _ (List.mem_cons_of_mem _ (List.mem_cons_of_mem _ (List.mem_cons_self ..)))) 1 rfl
       have m2 := hr.at_ (List.mem_cons_of_mem _ (List.mem_cons_of_mem _ (List.mem_cons_of_mem _ (List.mem_cons_self ..)))) 2 rfl
       have m3 := hr.at_ (List.mem_cons_of_mem _ (List.mem_cons_of_mem _ (List.mem_cons_of_mem _ (List.mem_cons_self ..)))) 3 rfl
       have m4 := hr.at_ (List.mem_cons_of_mem _ (List.mem_cons_of_mem _ (List.mem_cons_of_mem _ (List.mem_cons_self ..)))) 4 rfl
       have n0 := hr.at_ (List.mem_cons_of_mem _ (List.mem_cons_of_mem _ (List.mem_cons_of_mem _ (List.mem_cons_of_mem _ (List.mem_cons_self ..))))) 0 rfl
       have n1 := hr.at_ (List.mem_cons_of_mem _ (List.mem_cons_of_mem _ (List.mem_cons_of_mem _ (List.mem_cons_of_mem _ (List.mem_cons_self ..))))) 1 rfl
       have n2 := hr.at_ (List.mem_cons_of_mem _ (List.mem_cons_of_mem _ (List.mem_cons_of_mem _ (List.mem_cons_of_mem _ (List.mem_cons_self ..))))) 2 rfl
       have n3 := hr.at_ (List.mem_cons_of_mem _ (List.mem_cons_of_mem _ (List.mem_cons_of_mem _ (List.mem_cons_of_mem _ (List.mem_cons_self ..))))) 3 rfl
       have n4 := hr.at_ (List.mem_cons_of_mem _ (List.mem_cons_of_mem _ (List.mem_cons_of_mem _ (List.mem_cons_of_mem _ (List.mem_cons_self ..))))) 4 rfl
       have R10 := Lib.hid hr
       clear hr hb R9)
    | (go_at_call 13; refine (told_is HF10.out HC4.out HA4.out HN4.out (HGE.out.below R10.out.bel h1w) (Nat.le_trans h1w R10.out.bel.size)).mono ?_; rintro e w11 ⟨rfl, hb⟩
       have hM := (HM10.out.up hb).up (((Below.refl _ _).alloc (Nat.le_refl _) (.cells #[.int .i64 c, .int .i64 p, .string m] 31 (0, 0))))
       have HM11 := Lib.hid hM
       clear hM HM10 HF10
       have hr := R10.out.step hb
       have z11 := hb.size
       try simp only [World.size_alloc] at z11
       have hr := hr.push #[.int .i64 c, .int .i64 p, .string m] 31
       have j0 := hr.at_ (List.mem_cons_self ..) 0 rfl
       have j1 := hr.at_ (List.mem_cons_self ..) 1 rfl
       have j2 := hr.at_ (List.mem_cons_self ..) 2 rfl
       have i0 := hr.at_ (List.mem_cons_of_mem _ (List.mem_cons_self ..)) 0 rfl
       have i1 := hr.at_ (List.mem_cons_of_mem _ (List.mem_cons_self ..)) 1 rfl
       have i2 := hr.at_ (List.mem_cons_of_mem _ (List.mem_cons_self ..)) 2 rfl
       have f0 := hr.at_ (List.mem_cons_of_mem _ (List.mem_cons_of_mem _ (List.mem_cons_self ..))) 0 rfl
       have f1 := hr.at_ (List.mem_cons_of_mem _ (List.mem_cons_of_mem _ (List.mem_cons_self ..))) 1 rfl
       have f2 := hr.at_ (List.mem_cons_of_mem _ (List.mem_cons_of_mem _ (List.mem_cons_self ..))) 2 rfl
       have e0 := hr.at_ (List.mem_cons_of_mem _ (List.mem_cons_of_mem _ (List.mem_cons_of_mem _ (List.mem_cons_self ..)))) 0 rfl
       have e1 := hr.at_ (List.mem_cons_of_mem _ (List.mem_cons_of_mem _ (List.mem_cons_of_mem _ (List.mem_cons_self ..)))) 1 rfl
       have e2 := hr.at_ (List.mem_cons_of_mem _ (List.mem_cons_of_mem _ (List.mem_cons_of_mem _ (List.mem_cons_self ..)))) 2 rfl
       have m0 := hr.at_ (List.mem_cons_of_mem _ (List.mem_cons_of_mem _ (List.mem_cons_of_mem _ (List.mem_cons_of_mem _ (List.mem_cons_self ..))))) 0 rfl
       have m1 := hr.at_ (List.mem_cons_of_mem _ (List.mem_cons_of_mem _ (List.mem_cons_of_mem _ (List.mem_cons_of_mem _ (List.mem_cons_self ..))))) 1 rfl
       have m2 := hr.at_ (List.mem_cons_of_mem _ (List.mem_cons_of_mem _ (List.mem_cons_of_mem _ (List.mem_cons_of_mem _ (List.mem_cons_self ..))))) 2 rfl
       have m3 := hr.at_ (List.mem_cons_of_mem _ (List.mem_cons_of_mem _ (List.mem_cons_of_mem _ (List.mem_cons_of_mem _ (List.mem_cons_self ..))))) 3 rfl
       have m4 := hr.at_ (List.mem_cons_of_mem _ (List.mem_cons_of_mem _ (List.mem_cons_of_mem _ (List.mem_cons_of_mem _ (List.mem_cons_self ..))))) 4 rfl
       have n0 := hr.at_ (List.mem_cons_of_mem _ (List.mem_cons_of_mem _ (List.mem_cons_of_mem _ (List.mem_cons_of_mem _ (List.mem_cons_of_mem _ (List.mem_cons_self ..)))))) 0 rfl
       have n1 := hr.at_ (List.mem_cons_of_mem _ (List.mem_cons_of_mem _ (List.mem_cons_of_mem _ (List.mem_cons_of_mem _ (List.mem_cons_of_mem _ (List.mem_cons_self ..)))))) 1 rfl
       have n2 := hr.at_ (List.mem_cons_of_mem _ (List.mem_cons_of_mem _ (List.mem_cons_of_mem _ (List.mem_cons_of_mem _ (List.mem_cons_of_mem _ (List.mem_cons_self ..)))))) 2 rfl
       have n3 := hr.at_ (List.mem_cons_of_mem _ (List.mem_cons_of_mem _ (List.mem_cons_of_mem _ (List.mem_cons_of_mem _ (List.mem_cons_of_mem _ (List.mem_cons_self ..)))))) 3 rfl
       have n4 := hr.at_ (List.mem_cons_of_mem _ (List.mem_cons_of_mem _ (List.mem_cons_of_mem _ (List.mem_cons_of_mem _ (List.mem_cons_of_mem _ (List.mem_cons_self ..)))))) 4 rfl
       have R11 := Lib.hid hr
       clear hr hb R10)
    | (go_at_call 9; refine (Same_any T (T.mv d) _ _ _ (HX.out.up R11.out.bel) HM11.out).mono ?_; rintro e w12 ⟨rfl, hb⟩
       rw [HSM1.out]
       have hM := HM11.out.up hb
       have HM12 := Lib.hid hM
       clear hM HM11
       have hr := R11.out.step hb
       have z12 := hb.size
       try simp only [World.size_alloc] at z12
       have j0 := hr.at_ (List.mem_cons_self ..) 0 rfl
       have j1 := hr.at_ (List.mem_cons_self ..) 1 rfl
       have j2 := hr.at_ (List.mem_cons_self ..) 2 rfl
       have i0 := hr.at_ (List.mem_cons_of_mem _ (List.mem_cons_self ..)) 0 rfl
       have i1 := hr.at_ (List.mem_cons_of_mem _ (List.mem_cons_self ..)) 1 rfl
       have i2 := hr.at_ (List.mem_cons_of_mem _ (List.mem_cons_self ..)) 2 rfl
       have f0 := hr.at_ (List.mem_cons_of_mem _ (List.mem_cons_of_mem _ (List.mem_cons_self ..))) 0 rfl
       have f1 := hr.at_ (List.mem_cons_of_mem _ (List.mem_cons_of_mem _ (List.mem_cons_self ..))) 1 rfl
       have f2 := hr.at_ (List.mem_cons_of_mem _ (List.mem_cons_of_mem _ (List.mem_cons_self ..))) 2 rfl
       have e0 := hr.at_ (List.mem_cons_of_mem _ (List.mem_cons_of_mem _ (List.mem_cons_of_mem _ (List.mem_cons_self ..)))) 0 rfl
       have e1 := hr.at_ (List.mem_cons_of_mem _ (List.mem_cons_of_mem _ (List.mem_cons_of_mem _ (List.mem_cons_self ..)))) 1 rfl
       have e2 := hr.at_ (List.mem_cons_of_mem _ (List.mem_cons_of_mem _ (List.mem_cons_of_mem _ (List.mem_cons_self ..)))) 2 rfl
       have m0 := hr.at_ (List.mem_cons_of_mem _ (List.mem_cons_of_mem _ (List.mem_cons_of_mem _ (List.mem_cons_of_mem _ (List.mem_cons_self ..))))) 0 rfl
       have m1 := hr.at_ (List.mem_cons_of_mem _ (List.mem_cons_of_mem _ (List.mem_cons_of_mem _ (List.mem_cons_of_mem _ (List.mem_cons_self ..))))) 1 rfl
       have m2 := hr.at_ (List.mem_cons_of_mem _ (List.mem_cons_of_mem _ (List.mem_cons_of_mem _ (List.mem_cons_of_mem _ (List.mem_cons_self ..))))) 2 rfl
       have m3 := hr.at_ (List.mem_cons_of_mem _ (List.mem_cons_of_mem _ (List.mem_cons_of_mem _ (List.mem_cons_of_mem _ (List.mem_cons_self ..))))) 3 rfl
       have m4 := hr.at_ (List.mem_cons_of_mem _ (List.mem_cons_of_mem _ (List.mem_cons_of_mem _ (List.mem_cons_of_mem _ (List.mem_cons_self ..))))) 4 rfl
       have n0 := hr.at_ (List.mem_cons_of_mem _ (List.mem_cons_of_mem _ (List.mem_cons_of_mem _ (List.mem_cons_of_mem _ (List.mem_cons_of_mem _ (List.mem_cons_self ..)))))) 0 rfl
       have n1 := hr.at_ (List.mem_cons_of_mem _ (List.mem_cons_of_mem _ (List.mem_cons_of_mem _ (List.mem_cons_of_mem _ (List.mem_cons_of_mem _ (List.mem_cons_self ..)))))) 1 rfl
       have n2 := hr.at_ (List.mem_cons_of_mem _ (List.mem_cons_of_mem _ (List.mem_cons_of_mem _ (List.mem_cons_of_mem _ (List.mem_cons_of_mem _ (List.mem_cons_self ..)))))) 2 rfl
       have n3 := hr.at_ (List.mem_cons_of_mem _ (List.mem_cons_of_mem _ (List.mem_cons_of_mem _ (List.mem_cons_of_mem _ (List.mem_cons_of_mem _ (List.mem_cons_self ..)))))) 3 rfl
       have n4 := hr.at_ (List.mem_cons_of_mem _ (List.mem_cons_of_mem _ (List.mem_cons_of_mem _ (List.mem_cons_of_mem _ (List.mem_cons_of_mem _ (List.mem_cons_self ..)))))) 4 rfl
       have R12 := Lib.hid hr
       clear hr hb R11)
    | (go_at_call 9; refine (Same_any (T.mv d) T _ _ _ HM12.out (HX.out.up R12.out.bel)).mono ?_; rintro e w13 ⟨rfl, hb⟩
       rw [HSM2.out]
       have hr := R12.out.step hb
       have z13 := hb.size
       try simp only [World.size_alloc] at z13
       have j0 := hr.at_ (List.mem_cons_self ..) 0 rfl
       have j1 := hr.at_ (List.mem_cons_self ..) 1 rfl
       have j2 := hr.at_ (List.mem_cons_self ..) 2 rfl
       have i0 := hr.at_ (List.mem_cons_of_mem _ (List.mem_cons_self ..)) 0 rfl
       have i1 := hr.at_ (List.mem_cons_of_mem _ (List.mem_cons_self ..)) 1 rfl
       have i2 := hr.at_ (List.mem_cons_of_mem _ (List.mem_cons_self ..)) 2 rfl
       have f0 := hr.at_ (List.mem_cons_of_mem _ (List.mem_cons_of_mem _ (List.mem_cons_self ..))) 0 rfl
       have f1 := hr.at_ (List.mem_cons_of_mem _ (List.mem_cons_of_mem _ (List.mem_cons_self ..))) 1 rfl
       have f2 := hr.at_ (List.mem_cons_of_mem _ (List.mem_cons_of_mem _ (List.mem_cons_self ..))) 2 rfl
       have e0 := hr.at_ (List.mem_cons_of_mem _ (List.mem_cons_of_mem _ (List.mem_cons_of_mem _ (List.mem_cons_self ..)))) 0 rfl
       have e1 := hr.at_ (List.mem_cons_of_mem _ (List.mem_cons_of_mem _ (List.mem_cons_of_mem _ (List.mem_cons_self ..)))) 1 rfl
       have e2 := hr.at_ (List.mem_cons_of_mem _ (List.mem_cons_of_mem _ (List.mem_cons_of_mem _ (List.mem_cons_self ..)))) 2 rfl
       have m0 := hr.at_ (List.mem_cons_of_mem _ (List.mem_cons_of_mem _ (List.mem_cons_of_mem _ (List.mem_cons_of_mem _ (List.mem_cons_self ..))))) 0 rfl
       have m1 := hr.at_ (List.mem_cons_of_mem _ (List.mem_cons_of_mem _ (List.mem_cons_of_mem _ (List.mem_cons_of_mem _ (List.mem_cons_self ..))))) 1 rfl
       have m2 := hr.at_ (List.mem_cons_of_mem _ (List.mem_cons_of_mem _ (List.mem_cons_of_mem _ (List.mem_cons_of_mem _ (List.mem_cons_self ..))))) 2 rfl
       have m3 := hr.at_ (List.mem_cons_of_mem _ (List.mem_cons_of_mem _ (List.mem_cons_of_mem _ (List.mem_cons_of_mem _ (List.mem_cons_self ..))))) 3 rfl
       have m4 := hr.at_ (List.mem_cons_of_mem _ (List.mem_cons_of_mem _ (List.mem_cons_of_mem _ (List.mem_cons_of_mem _ (List.mem_cons_self ..))))) 4 rfl
       have n0 := hr.at_ (List.mem_cons_of_mem _ (List.mem_cons_of_mem _ (List.mem_cons_of_mem _ (List.mem_cons_of_mem _ (List.mem_cons_of_mem _ (List.mem_cons_self ..)))))) 0 rfl
       have n1 := hr.at_ (List.mem_cons_of_mem _ (List.mem_cons_of_mem _ (List.mem_cons_of_mem _ (List.mem_cons_of_mem _ (List.mem_cons_of_mem _ (List.mem_cons_self ..)))))) 1 rfl
       have n2 := hr.at_ (List.mem_cons_of_mem _ (List.mem_cons_of_mem _ (List.mem_cons_of_mem _ (List.mem_cons_of_mem _ (List.mem_cons_of_mem _ (List.mem_cons_self ..)))))) 2 rfl
       have n3 := hr.at_ (List.mem_cons_of_mem _ (List.mem_cons_of_mem _ (List.mem_cons_of_mem _ (List.mem_cons_of_mem _ (List.mem_cons_of_mem _ (List.mem_cons_self ..)))))) 3 rfl
       have n4 := hr.at_ (List.mem_cons_of_mem _ (List.mem_cons_of_mem _ (List.mem_cons_of_mem _ (List.mem_cons_of_mem _ (List.mem_cons_of_mem _ (List.mem_cons_self ..)))))) 4 rfl
       have R13 := Lib.hid hr
       clear hr hb R12))
  go_ret
  exact ⟨rfl, R13.out.bel⟩
end Go.Proofs.YtjpmghgmmeemkaaGreatDoor

namespace Go.Proofs.YtjpmghgmmeemkaaGreatDoor
open Go.RowKit

set_option maxRecDepth 100000 in
set_option maxHeartbeats 8000000 in
theorem places_bad (t : Nd) (v : Value) (d : Int) (c p : Int) (m : ByteArray) (h0 : c ≠ 0) (w : World) (hgl : Gl w) (hge : Gerr w) (hex : ∀ W, Below w.heap.size w W → Calls Tryz.prog 7 #[] W fun e W' => e = .returned (.bool true) ∧ Below W.heap.size W W') (h : Lies w w.heap.size t v) (hcnt : t.count 1000000 ≤ 30000)
    (hc1 : wrC (t.look intB floatsB 1 0 0).2 = c) (ha1 : wrA (t.look intB floatsB 1 0 0).2 = p) (hn1 : wrN (t.look intB floatsB 1 0 0).2 = m)
    (hc2 : wrC ((t.mv d).look intB floatsB 1 0 0).2 = c) (ha2 : wrA ((t.mv d).look intB floatsB 1 0 0).2 = (wrap64 (p + d))) (hn2 : wrN ((t.mv d).look intB floatsB 1 0 0).2 = m)
    (hs3 : (prRes intB floatsB t).1 = ⟨#[]⟩) (hc3 : wrC (prRes intB floatsB t).2 = c) (ha3 : wrA (prRes intB floatsB t).2 = p) (hn3 : wrN (prRes intB floatsB t).2 = m)
    (hs4 : (prRes intB floatsB (t.mv d)).1 = ⟨#[]⟩) (hc4 : wrC (prRes intB floatsB (t.mv d)).2 = c) (ha4 : wrA (prRes intB floatsB (t.mv d)).2 = (wrap64 (p + d))) (hn4 : wrN (prRes intB floatsB (t.mv d)).2 = m)
    : Calls Tryz.prog 4 #[v, .int .i64 d] w fun e w' => e = .returned (.bool true) ∧ Below w.heap.size w w' := by
  have HX := Lib.hid h
  have HEX := Lib.hid hex
  have HGL := Lib.hid hgl
  have HGE := Lib.hid hge
  have h1w : 1 ≤ w.heap.size := by have := hgl.2.2; omega
  have hsm := mv_Same d t (by omega)
  have hsize : (t.size : Int) ≤ 100000 := by have := Nd.count_size t 1000000 (by omega); omega
  have HC1 := Lib.hid hc1
  have HA1 := Lib.hid ha1
  have HN1 := Lib.hid hn1
  have HC2 := Lib.hid hc2
  have HA2 := Lib.hid ha2
  have HN2 := Lib.hid hn2
  have HC3 := Lib.hid hc3
  have HA3 := Lib.hid ha3
  have HN3 := Lib.hid hn3
  have HC4 := Lib.hid hc4
  have HA4 := Lib.hid ha4
  have HN4 := Lib.hid hn4
  have HSM1 := Lib.hid hsm.1
  have HSM2 := Lib.hid hsm.2
  have HS3 := Lib.hid hs3
  have HS4 := Lib.hid hs4
  have HSZ := Lib.hid hsize
  clear hc1 ha1 hn1 hc2 ha2 hn2 hc3 ha3 hn3 hc4 ha4 hn4 hs3 hs4 hsm hex hgl hge hsize
  have hcc := fun W hl => rCount_any t v W hl
  obtain ⟨cn, HCN⟩ : ∃ cn, Hid (t.count 1000000 = cn) := ⟨_, rfl⟩
  rw [HCN.out] at hcnt
  simp only [HCN.out] at hcc
  have HCC := Lib.hid hcc
  clear hcc
  have hcn : ((30000 : Int) < cn) = False := by simp; omega
  have hc0 : (c == 0) = false := beq_eq_false_iff_ne.2 h0
  obtain ⟨T, HT⟩ : ∃ T, Hid (t = T) := ⟨_, rfl⟩
  have hT := HT.out
  rw [hT] at HX HSM1 HSM2 HSZ HCC HS3 HS4 HC1 HA1 HN1 HC2 HA2 HN2 HC3 HA3 HN3 HC4 HA4 HN4 h
  clear hT
  obtain ⟨k, s, n, a, ks⟩ := t
  rw [← HT.out] at h
  unfold Lies at h
  obtain ⟨A, cap, rfl, -⟩ := h
  have hr := (RSt.push (rows := []) ⟨Below.refl _ w, fun r hr => by simp at hr⟩ #[.int .i64 k, .string s, .int .i64 n, .int .i64 a, .slice A ks.length cap] 24)
  have n0 := hr.at_ (List.mem_cons_self ..) 0 rfl
  have n1 := hr.at_ (List.mem_cons_self ..) 1 rfl
  have n2 := hr.at_ (List.mem_cons_self ..) 2 rfl
  have n3 := hr.at_ (List.mem_cons_self ..) 3 rfl
  have n4 := hr.at_ (List.mem_cons_self ..) 4 rfl
  have R0 := Lib.hid hr
  clear hr
  go_enter Tryz.func4, Tryz.ntmps4
  go_wp2_with (first
    | (go_at_call 7; refine (HEX.out _ R0.out.bel).mono ?_; rintro e w1 ⟨rfl, hb⟩
       have hr := R0.out.step hb
       have z1 := hb.size
       try simp only [World.size_alloc] at z1
       have n0 := hr.at_ (List.mem_cons_self ..) 0 rfl
       have n1 := hr.at_ (List.mem_cons_self ..) 1 rfl
       have n2 := hr.at_ (List.mem_cons_self ..) 2 rfl
       have n3 := hr.at_ (List.mem_cons_self ..) 3 rfl
       have n4 := hr.at_ (List.mem_cons_self ..) 4 rfl
       have R1 := Lib.hid hr
       clear hr hb R0)
    | (go_at_call 11; refine (HCC.out _ (HX.out.up R1.out.bel)).mono ?_; rintro e w2 ⟨rfl, hb⟩
       have hr := R1.out.step hb
       have z2 := hb.size
       try simp only [World.size_alloc] at z2
       have n0 := hr.at_ (List.mem_cons_self ..) 0 rfl
       have n1 := hr.at_ (List.mem_cons_self ..) 1 rfl
       have n2 := hr.at_ (List.mem_cons_self ..) 2 rfl
       have n3 := hr.at_ (List.mem_cons_self ..) 3 rfl
       have n4 := hr.at_ (List.mem_cons_self ..) 4 rfl
       have R2 := Lib.hid hr
       clear hr hb R1)
    | (go_at_call 12; refine (moved_any d T _ _ (HX.out.up R2.out.bel) HSZ.out).mono ?_; rintro e w3 ⟨v', rfl, hA, hb⟩
       have hM := hA.lies
       rw [← HT.out] at hA
       obtain ⟨A3, cap3, rfl⟩ : ∃ A3 cap3, v' = .agg #[.int .i64 k, .string s, .int .i64 n, .int .i64 (wrap64 (a + d)), .slice A3 (mvL d ks).length cap3] := LiesA.form hA
       have hr := R2.out.step hb
       have z3 := hb.size
       try simp only [World.size_alloc] at z3
       have hr := hr.push #[.int .i64 k, .string s, .int .i64 n, .int .i64 (wrap64 (a + d)), .slice A3 (mvL d ks).length cap3] 24
       have m0 := hr.at_ (List.mem_cons_self ..) 0 rfl
       have m1 := hr.at_ (List.mem_cons_self ..) 1 rfl
       have m2 := hr.at_ (List.mem_cons_self ..) 2 rfl
       have m3 := hr.at_ (List.mem_cons_self ..) 3 rfl
       have m4 := hr.at_ (List.mem_cons_self ..) 4 rfl
       have n0 := hr.at_ (List.mem_cons_of_mem _ (List.mem_cons_self ..)) 0 rfl
       have n1 := hr.at_ (List.mem_cons_of_mem _ (List.mem_cons_self ..)) 1 rfl
       have n2 := hr.at_ (List.mem_cons_of_mem _ (List.mem_cons_self ..)) 2 rfl
       have n3 := hr.at_ (List.mem_cons_of_mem _ (List.mem_cons_self ..)) 3 rfl
       have n4 := hr.at_ (List.mem_cons_of_mem _ (List.mem_cons_self ..)) 4 rfl
       have R3 := Lib.hid hr
       clear hr hb R2
       have HM := Lib.hid (hM.up (((Below.refl _ _).alloc (Nat.le_refl _) _) : Below w3.heap.size w3 (w3.alloc (.cells #[.int .i64 k, .string s, .int .i64 n, .int .i64 (wrap64 (a + d)), .slice A3 (mvL d ks).length cap3] 24 (0, 0)))))
       clear hM hA)
    | (go_at_call 14; refine (right_told (HGL.out.up R3.out.bel) (HX.out.up R3.out.bel)).mono ?_; rintro e w4 ⟨ev1, rfl, he, hb⟩
       have hM := HM.out.up hb
       have HM4 := Lib.hid hM
       clear hM HM
       have hr := R3.out.step hb
       have z4 := hb.size
       try simp only [World.size_alloc] at z4
       have m0 := hr.at_ (List.mem_cons_self ..) 0 rfl
       have m1 := hr.at_ (List.mem_cons_self ..) 1 rfl
       have m2 := hr.at_ (List.mem_cons_self ..) 2 rfl
       have m3 := hr.at_ (List.mem_cons_self ..) 3 rfl
       have m4 := hr.at_ (List.mem_cons_self ..) 4 rfl
       have n0 := hr.at_ (List.mem_cons_of_mem _ (List.mem_cons_self ..)) 0 rfl
       have n1 := hr.at_ (List.mem_cons_of_mem _ (List.mem_cons_self ..)) 1 rfl
       have n2 := hr.at_ (List.mem_cons_of_mem _ (List.mem_cons_self ..)) 2 rfl
       have n3 := hr.at_ (List.mem_cons_of_mem _ (List.mem_cons_self ..)) 3 rfl
       have n4 := hr.at_ (List.mem_cons_of_mem _ (List.mem_cons_self ..)) 4 rfl
       have R4 := Lib.hid hr
       clear hr hb R3
       have HE4 := Lib.hid he
       clear he)
    | (go_at_call 13; refine (told_is HE4.out HC1.out HA1.out HN1.out (HGE.out.below R4.out.bel h1w) (Nat.le_trans h1w R4.out.bel.size)).mono ?_; rintro e w5 ⟨rfl, hb⟩
       have hM := (HM4.out.up hb).up (((Below.refl _ _).alloc (Nat.le_refl _) (.cells #[.int .i64 c, .int .i64 p, .string m] 31 (0, 0))))
       have HM5 := Lib.hid hM
       clear hM HM4 HE4
       have hr := R4.out.step hb
       have z5 := hb.size
       try simp only [World.size_alloc] at z5
       have hr := hr.push #[.int .i64 c, .int .i64 p, .string m] 31
       have e0 := hr.at_ (List.mem_cons_self ..) 0 rfl
       have e1 := hr.at_ (List.mem_cons_self ..) 1 rfl
       have e2 := hr.at_ (List.mem_cons_self ..) 2 rfl
       have m0 := hr.at_ (List.mem_cons_of_mem _ (List.mem_cons_self ..)) 0 rfl
       have m1 := hr.at_ (List.mem_cons_of_mem _ (List.mem_cons_self ..)) 1 rfl
       have m2 := hr.at_ (List.mem_cons_of_mem _ (List.mem_cons_self ..)) 2 rfl
       have m3 := hr.at_ (List.mem_cons_of_mem _ (List.mem_cons_self ..)) 3 rfl
       have m4 := hr.at_ (List.mem_cons_of_mem _ (List.mem_cons_self ..)) 4 rfl
       have n0 := hr.at_ (List.mem_cons_of_mem _ (List.mem_cons_of_mem _ (List.mem_cons_self ..))) 0 rfl
       have n1 := hr.at_ (List.mem_cons_of_mem _ (List.mem_cons_of_mem _ (List.mem_cons_self ..))) 1 rfl
       have n2 := hr.at_ (List.mem_cons_of_mem _ (List.mem_cons_of_mem _ (List.mem_cons_self ..))) 2 rfl
       have n3 := hr.at_ (List.mem_cons_of_mem _ (List.mem_cons_of_mem _ (List.mem_cons_self ..))) 3 rfl
       have n4 := hr.at_ (List.mem_cons_of_mem _ (List.mem_cons_of_mem _ (List.mem_cons_self ..))) 4 rfl
       have R5 := Lib.hid hr
       clear hr hb R4)
    | (go_at_call 14; refine (right_told (HGL.out.up R5.out.bel) HM5.out).mono ?_; rintro e w6 ⟨ev2, rfl, he, hb⟩
       have hM := HM5.out.up hb
       have HM6 := Lib.hid hM
       clear hM HM5
       have hr := R5.out.step hb
       have z6 := hb.size
       try simp only [World.size_alloc] at z6
       have e0 := hr.at_ (List.mem_cons_self ..) 0 rfl
       have e1 := hr.at_ (List.mem_cons_self ..) 1 rfl
       have e2 := hr.at_ (List.mem_cons_self ..) 2 rfl
       have m0 := hr.at_ (List.mem_cons_of_mem _ (List.mem_cons_self ..)) 0 rfl
       have m1 := hr.at_ (List.mem_cons_of_mem _ (List.mem_cons_self ..)) 1 rfl
       have m2 := hr.at_ (List.mem_cons_of_mem _ (List.mem_cons_self ..)) 2 rfl
       have m3 := hr.at_ (List.mem_cons_of_mem _ (List.mem_cons_self ..)) 3 rfl
       have m4 := hr.at_ (List.mem_cons_of_mem _ (List.mem_cons_self ..)) 4 rfl
       have n0 := hr.at_ (List.mem_cons_of_mem _ (List.mem_cons_of_mem _ (List.mem_cons_self ..))) 0 rfl
       have n1 := hr.at_ (List.mem_cons_of_mem _ (List.mem_cons_of_mem _ (List.mem_cons_self ..))) 1 rfl
       have n2 := hr.at_ (List.mem_cons_of_mem _ (List.mem_cons_of_mem _ (List.mem_cons_self ..))) 2 rfl
       have n3 := hr.at_ (List.mem_cons_of_mem _ (List.mem_cons_of_mem _ (List.mem_cons_self ..))) 3 rfl
       have n4 := hr.at_ (List.mem_cons_of_mem _ (List.mem_cons_of_mem _ (List.mem_cons_self ..))) 4 rfl
       have R6 := Lib.hid hr
       clear hr hb R5
       have HE6 := Lib.hid he
       clear he)
    | (go_at_call 13; refine (told_is HE6.out HC2.out HA2.out HN2.out (HGE.out.below R6.out.bel h1w) (Nat.le_trans h1w R6.out.bel.size)).mono ?_; rintro e w7 ⟨rfl, hb⟩
       have hM := (HM6.out.up hb).up (((Below.refl _ _).alloc (Nat.le_refl _) (.cells #[.int .i64 c, .int .i64 (wrap64 (p + d)), .string m] 31 (0, 0))))
       have HM7 := Lib.hid hM
       clear hM HM6 HE6
       have hr := R6.out.step hb
       have z7 := hb.size
       try simp only [World.size_alloc] at z7
       have hr := hr.push #[.int .i64 c, .int .i64 (wrap64 (p + d)), .string m] 31
       have f0 := hr.at_ (List.mem_cons_self ..) 0 rfl
       have f1 := hr.at_ (List.mem_cons_self ..) 1 rfl
       have f2 := hr.at_ (List.mem_cons_self ..) 2 rfl
       have e0 := hr.at_ (List.mem_cons_of_mem _ (List.mem_cons_self ..)) 0 rfl
       have e1 := hr.at_ (List.mem_cons_of_mem _ (List.mem_cons_self ..)) 1 rfl
       have e2 := hr.at_ (List.mem_cons_of_mem _ (List.mem_cons_self ..)) 2 rfl
       have m0 := hr.at_ (List.mem_cons_of_mem _ (List.mem_cons_of_mem _ (List.mem_cons_self ..))) 0 rfl
       have m1 := hr.at_ (List.mem_cons_of_mem _ (List.mem_cons_of_mem _ (List.mem_cons_self ..))) 1 rfl
       have m2 := hr.at_ (List.mem_cons_of_mem _ (List.mem_cons_of_mem _ (List.mem_cons_self ..))) 2 rfl
       have m3 := hr.at_ (List.mem_cons_of_mem _ (List.mem_cons_of_mem _ (List.mem_cons_self ..))) 3 rfl
       have m4 := hr.at_ (List.mem_cons_of_mem _ (List.mem_cons_of_mem _ (List.mem_cons_self ..))) 4 rfl
       have n0 := hr.at_ (List.mem_cons_of_mem _ (List.mem_cons_of_mem _ (List.mem_cons_of_mem _ (List.mem_cons_self ..)))) 0 rfl
       have n1 := hr.at_ (List.mem_cons_of_mem _ (List.mem_cons_of_mem _ (List.mem_cons_of_mem _ (List.mem_cons_self ..)))) 1 rfl
       have n2 := hr.at_ (List.mem_cons_of_mem _ (List.mem_cons_of_mem _ (List.mem_cons_of_mem _ (List.mem_cons_self ..)))) 2 rfl
       have n3 := hr.at_ (List.mem_cons_of_mem _ (List.mem_cons_of_mem _ (List.mem_cons_of_mem _ (List.mem_cons_self ..)))) 3 rfl
       have n4 := hr.at_ (List.mem_cons_of_mem _ (List.mem_cons_of_mem _ (List.mem_cons_of_mem _ (List.mem_cons_self ..)))) 4 rfl
       have R7 := Lib.hid hr
       clear hr hb R6)
    | (go_at_call 15; refine (print_told (HGL.out.up R7.out.bel) (HX.out.up R7.out.bel)).mono ?_; rintro e w8 ⟨ev3, rfl, he, hb⟩
       rw [HS3.out]
       have hM := HM7.out.up hb
       have HM8 := Lib.hid hM
       clear hM HM7
       have hr := R7.out.step hb
       have z8 := hb.size
       try simp only [World.size_alloc] at z8
       have f0 := hr.at_ (List.mem_cons_self ..) 0 rfl
       have f1 := hr.at_ (List.mem_cons_self ..) 1 rfl
       have f2 := hr.at_ (List.mem_cons_self ..) 2 rfl
       have e0 := hr.at_ (List.mem_cons_of_mem _ (List.mem_cons_self ..)) 0 rfl
       have e1 := hr.at_ (List.mem_cons_of_mem _ (List.mem_cons_self ..)) 1 rfl
       have e2 := hr.at_ (List.mem_cons_of_mem _ (List.mem_cons_self ..)) 2 rfl
       have m0 := hr.at_ (List.mem_cons_of_mem _ (List.mem_cons_of_mem _ (List.mem_cons_self ..))) 0 rfl
       have m1 := hr.at_ (List.mem_cons_of_mem _ (List.mem_cons_of_mem _ (List.mem_cons_self ..))) 1 rfl
       have m2 := hr.at_ (List.mem_cons_of_mem _ (List.mem_cons_of_mem _ (List.mem_cons_self ..))) 2 rfl
       have m3 := hr.at_ (List.mem_cons_of_mem _ (List.mem_cons_of_mem _ (List.mem_cons_self ..))) 3 rfl
       have m4 := hr.at_ (List.mem_cons_of_mem _ (List.mem_cons_of_mem _ (List.mem_cons_self ..))) 4 rfl
       have n0 := hr.at_ (List.mem_cons_of_mem _ (List.mem_cons_of_mem _ (List.mem_cons_of_mem _ (List.mem_cons_self ..)))) 0 rfl
       have n1 := hr.at_ (List.mem_cons_of_mem _ (List.mem_cons_of_mem _ (List.mem_cons_of_mem _ (List.mem_cons_self ..)))) 1 rfl
       have n2 := hr.at_ (List.mem_cons_of_mem _ (List.mem_cons_of_mem _ (List.mem_cons_of_mem _ (List.mem_cons_self ..)))) 2 rfl
       have n3 := hr.at_ (List.mem_cons_of_mem _ (List.mem_cons_of_mem _ (List.mem_cons_of_mem _ (List.mem_cons_self ..)))) 3 rfl
       have n4 := hr.at_ (List.mem_cons_of_mem _ (List.mem_cons_of_mem _ (List.mem_cons_of_mem _ (List.mem_cons_self ..)))) 4 rfl
       have R8 := Lib.hid hr
       clear hr hb R7
       have HE8 := Lib.hid he
       clear he)
    | (go_at_call 15; refine (print_told (HGL.out.up R8.out.bel) HM8.out).mono ?_; rintro e w9 ⟨ev4, rfl, he, hb⟩
       rw [HS4.out]
       have hM := HM8.out.up hb
       have HM9 := Lib.hid hM
       have HE9 := Lib.hid (HE8.out.up hb)
       clear hM HM8 HE8
       have hr := R8.out.step hb
       have z9 := hb.size
       try simp only [World.size_alloc] at z9
       have f0 := hr.at_ (List.mem_cons_self ..) 0 rfl
       have f1 := hr.at_ (List.mem_cons_self ..) 1 rfl
       have f2 := hr.at_ (List.mem_cons_self ..) 2 rfl
       have e0 := hr.at_ (List.mem_cons_of_mem _ (List.mem_cons_self ..)) 0 rfl
       have e1 := hr.at_ (List.mem_cons_of_mem _ (List.mem_cons_self ..)) 1 rfl
       have e2 := hr.at_ (List.mem_cons_of_mem _ (List.mem_cons_self ..)) 2 rfl
       have m0 := hr.at_ (List.mem_cons_of_mem _ (List.mem_cons_of_mem _ (List.mem_cons_self ..))) 0 rfl
       have m1 := hr.at_ (List.mem_cons_of_mem _ (List.mem_cons_of_mem _ (List.mem_cons_self ..))) 1 rfl
       have m2 := hr.at_ (List.mem_cons_of_mem _ (List.mem_cons_of_mem _ (List.mem_cons_self ..))) 2 rfl
       have m3 := hr.at_ (List.mem_cons_of_mem _ (List.mem_cons_of_mem _ (List.mem_cons_self ..))) 3 rfl
       have m4 := hr.at_ (List.mem_cons_of_mem _ (List.mem_cons_of_mem _ (List.mem_cons_self ..))) 4 rfl
       have n0 := hr.at_ (List.mem_cons_of_mem _ (List.mem_cons_of_mem _ (List.mem_cons_of_mem _ (List.mem_cons_self ..)))) 0 rfl
       have n1 := hr.at_ (List.mem_cons_of_mem _ (List.mem_cons_of_mem _ (List.mem_cons_of_mem _ (List.mem_cons_self ..)))) 1 rfl
       have n2 := hr.at_ (List.mem_cons_of_mem _ (List.mem_cons_of_mem _ (List.mem_cons_of_mem _ (List.mem_cons_self ..)))) 2 rfl
       have n3 := hr.at_ (List.mem_cons_of_mem _ (List.mem_cons_of_mem _ (List.mem_cons_of_mem _ (List.mem_cons_self ..)))) 3 rfl
       have n4 := hr.at_ (List.mem_cons_of_mem _ (List.mem_cons_of_mem _ (List.mem_cons_of_mem _ (List.mem_cons_self ..)))) 4 rfl
       have R9 := Lib.hid hr
       clear hr hb R8
       have HF9 := Lib.hid he
       clear he)
    | (go_at_call 13; refine (told_is HE9.out HC3.out HA3.out HN3.out (HGE.out.below R9.out.bel h1w) (Nat.le_trans h1w R9.out.bel.size)).mono ?_; rintro e w10 ⟨rfl, hb⟩
       have hM := (HM9.out.up hb).up (((Below.refl _ _).alloc (Nat.le_refl _) (.cells #[.int .i64 c, .int .i64 p, .string m] 31 (0, 0))))
       have HM10 := Lib.hid hM
       have HF10 := Lib.hid ((HF9.out.up hb).up ((Below.refl _ _).alloc (Nat.le_refl _) (.cells #[.int .i64 c, .int .i64 p, .string m] 31 (0, 0))))
       clear hM HM9 HE9 HF9
       have hr := R9.out.step hb
       have z10 := hb.size
       try simp only [World.size_alloc] at z10
       have hr := hr.push #[.int .i64 c, .int .i64 p, .string m] 31
       have i0 := hr.at_ (List.mem_cons_self ..) 0 rfl
       have i1 := hr.at_ (List.mem_cons_self ..) 1 rfl
       have i2 := hr.at_ (List.mem_cons_self ..) 2 rfl
       have f0 := hr.at_ (List.mem_cons_of_mem _ (List.mem_cons_self ..)) 0 rfl
       have f1 := hr.at_ (List.mem_cons_of_mem _ (List.mem_cons_self ..)) 1 rfl
       have f2 := hr.at_ (List.mem_cons_of_mem _ (List.mem_cons_self ..)) 2 rfl
       have e0 := hr.at_ (List.mem_cons_of_mem _ (List.mem_cons_of_mem _ (List.mem_cons_self ..))) 0 rfl
       have e1 := hr.at_ (List.mem_cons_of_mem _ (List.mem_cons_of_mem _ (List.mem_cons_self ..))) 1 rfl
       have e2 := hr.at_ (List.mem_cons_of_mem _ (List.mem_cons_of_mem _ (List.mem_cons_self ..))) 2 rfl
       have m0 := hr.at_ (List.mem_cons_of_mem _ (List.mem_cons_of_mem _ (List.mem_cons_of_mem _ (List.mem_cons_self ..)))) 0 rfl
       have m1 := hr.at_ (List.mem_cons_of_mem _ (List.mem_cons_of_mem _ (List.mem_cons_of_mem _ (List.mem_cons_self ..)))) 1 rfl
       have m2 := hr.at_ (List.mem_cons_of_mem _ (List.mem_cons_of_mem _ (List.mem_cons_of_mem _ (List.mem_cons_self ..)))) 2 rfl
       have m3 := hr.at_ (List.mem_cons_of_mem _ (List.mem_cons_of_mem _ (List.mem_cons_of_mem _ (List.mem_cons_self ..)))) 3 rfl
       have m4 := hr.at_ (List.mem_cons_of_mem _ (List.mem_cons_of_mem _ (List.mem_cons_of_mem _ (List.mem_cons_self ..)))) 4 rfl
       have n0 := hr.at_ (List.mem_cons_of_mem _ (List.mem_cons_of_mem _ (List.mem_cons_of_mem _ (List.mem_cons_of_mem _ (List.mem_cons_self ..))))) 0 rfl
       have n1 := hr.at_ (List.mem_cons_of_mem _ (List.mem_cons_of_mem _ (List.mem_cons_of_mem _ (List.mem_cons_of_mem _ (List.mem_cons_self ..))))) 1 rfl
       have n2 := hr.at_ (List.mem_cons_of_mem _ (List.mem_cons_of_mem _ (List.mem_cons_of_mem _ (List.mem_cons_of_mem _ (List.mem_cons_self ..))))) 2 rfl
       have n3 := hr.at_ (List.mem_cons_of_mem _ (List.mem_cons_of_mem _ (List.mem_cons_of_mem _ (List.mem_cons_of_mem _ (List.mem_cons_self ..))))) 3 rfl
       have n4 := hr.at_ (List.mem_cons_of_mem _ (List.mem_cons_of_mem _ (List.mem_cons_of_mem _ (List.mem_cons_of_mem _ (List.mem_cons_self ..))))) 4 rfl
       have R10 := Lib.hid hr
       clear hr hb R9)
    | (go_at_call 13; refine (told_is HF10.out HC4.out HA4.out HN4.out (HGE.out.below R10.out.bel h1w) (Nat.le_trans h1w R10.out.bel.size)).mono ?_; rintro e w11 ⟨rfl, hb⟩
       have hM := (HM10.out.up hb).up (((Below.refl _ _).alloc (Nat.le_refl _) (.cells #[.int .i64 c, .int .i64 (wrap64 (p + d)), .string m] 31 (0, 0))))
       have HM11 := Lib.hid hM
       clear hM HM10 HF10
       have hr := R10.out.step hb
       have z11 := hb.size
       try simp only [World.size_alloc] at z11
       have hr := hr.push #[.int .i64 c, .int .i64 (wrap64 (p + d)), .string m] 31
       have j0 := hr.at_ (List.mem_cons_self ..) 0 rfl
       have j1 := hr.at_ (List.mem_cons_self ..) 1 rfl
       have j2 := hr.at_ (List.mem_cons_self ..) 2 rfl
       have i0 := hr.at_ (List.mem_cons_of_mem _ (List.mem_cons_self ..)) 0 rfl
       have i1 := hr.at_ (List.mem_cons_of_mem _ (List.mem_cons_self ..)) 1 rfl
       have i2 := hr.at_ (List.mem_cons_of_mem _ (List.mem_cons_self ..)) 2 rfl
       have f0 := hr.at_ (List.mem_cons_of_mem _ (List.mem_cons_of_mem _ (List.mem_cons_self ..))) 0 rfl
       have f1 := hr.at_ (List.mem_cons_of_mem _ (List.mem_cons_of_mem _ (List.mem_cons_self ..))) 1 rfl
       have f2 := hr.at_ (List.mem_cons_of_mem _ (List.mem_cons_of_mem _ (List.mem_cons_self ..))) 2 rfl
       have e0 := hr.at_ (List.mem_cons_of_mem _ (List.mem_cons_of_mem _ (List.mem_cons_of_mem _ (List.mem_cons_self ..)))) 0 rfl
       have e1 := hr.at_ (List.mem_cons_of_mem _ (List.mem_cons_of_mem _ (List.mem_cons_of_mem _ (List.mem_cons_self ..)))) 1 rfl
       have e2 := hr.at_ (List.mem_cons_of_mem _ (List.mem_cons_of_mem _ (List.mem_cons_of_mem _ (List.mem_cons_self ..)))) 2 rfl
       have m0 := hr.at_ (List.mem_cons_of_mem _ (List.mem_cons_of_mem _ (List.mem_cons_of_mem _ (List.mem_cons_of_mem _ (List.mem_cons_self ..))))) 0 rfl
       have m1 := hr.at_ (List.mem_cons_of_mem _ (List.mem_cons_of_mem _ (List.mem_cons_of_mem _ (List.mem_cons_of_mem _ (List.mem_cons_self ..))))) 1 rfl
       have m2 := hr.at_ (List.mem_cons_of_mem _ (List.mem_cons_of_mem _ (List.mem_cons_of_mem _ (List.mem_cons_of_mem _ (List.mem_cons_self ..))))) 2 rfl
       have m3 := hr.at_ (List.mem_cons_of_mem _ (List.mem_cons_of_mem _ (List.mem_cons_of_mem _ (List.mem_cons_of_mem _ (List.mem_cons_self ..))))) 3 rfl
       have m4 := hr.at_ (List.mem_cons_of_mem _ (List.mem_cons_of_mem _ (List.mem_cons_of_mem _ (List.mem_cons_of_mem _ (List.mem_cons_self ..))))) 4 rfl
       have n0 := hr.at_ (List.mem_cons_of_mem _ (List.mem_cons_of_mem _ (List.mem_cons_of_mem _ (List.mem_cons_of_mem _ (List.mem_cons_of_mem _ (List.mem_cons_self ..)))))) 0 rfl
       have n1 := hr.at_ (List.mem_cons_of_mem _ (List.mem_cons_of_mem _ (List.mem_cons_of_mem _ (List.mem_cons_of_mem _ (List.mem_cons_of_mem _ (List.mem_cons_self ..)))))) 1 rfl
       have n2 := hr.at_ (List.mem_cons_of_mem _ (List.mem_cons_of_mem _ (List.mem_cons_of_mem _ (List.mem_cons_of_mem _ (List.mem_cons_of_mem _ (List.mem_cons_self ..)))))) 2 rfl
       have n3 := hr.at_ (List.mem_cons_of_mem _ (List.mem_cons_of_mem _ (List.mem_cons_of_mem _ (List.mem_cons_of_mem _ (List.mem_cons_of_mem _ (List.mem_cons_self ..)))))) 3 rfl
       have n4 := hr.at_ (List.mem_cons_of_mem _ (List.mem_cons_of_mem _ (List.mem_cons_of_mem _ (List.mem_cons_of_mem _ (List.mem_cons_of_mem _ (List.mem_cons_self ..)))))) 4 rfl
       have R11 := Lib.hid hr
       clear hr hb R10)
    | (go_at_call 9; refine (Same_any T (T.mv d) _ _ _ (HX.out.up R11.out.bel) HM11.out).mono ?_; rintro e w12 ⟨rfl, hb⟩
       rw [HSM1.out]
       have hM := HM11.out.up hb
       have HM12 := Lib.hid hM
       clear hM HM11
       have hr := R11.out.step hb
       have z12 := hb.size
       try simp only [World.size_alloc] at z12
       have j0 := hr.at_ (List.mem_cons_self ..) 0 rfl
       have j1 := hr.at_ (List.mem_cons_self ..) 1 rfl
       have j2 := hr.at_ (List.mem_cons_self ..) 2 rfl
       have i0 := hr.at_ (List.mem_cons_of_mem _ (List.mem_cons_self ..)) 0 rfl
       have i1 := hr.at_ (List.mem_cons_of_mem _ (List.mem_cons_self ..)) 1 rfl
       have i2 := hr.at_ (List.mem_cons_of_mem _ (List.mem_cons_self ..)) 2 rfl
       have f0 := hr.at_ (List.mem_cons_of_mem _ (List.mem_cons_of_mem _ (List.mem_cons_self ..))) 0 rfl
       have f1 := hr.at_ (List.mem_cons_of_mem _ (List.mem_cons_of_mem _ (List.mem_cons_self ..))) 1 rfl
       have f2 := hr.at_ (List.mem_cons_of_mem _ (List.mem_cons_of_mem _ (List.mem_cons_self ..))) 2 rfl
       have e0 := hr.at_ (List.mem_cons_of_mem _ (List.mem_cons_of_mem _ (List.mem_cons_of_mem _ (List.mem_cons_self ..)))) 0 rfl
       have e1 := hr.at_ (List.mem_cons_of_mem _ (List.mem_cons_of_mem _ (List.mem_cons_of_mem _ (List.mem_cons_self ..)))) 1 rfl
       have e2 := hr.at_ (List.mem_cons_of_mem _ (List.mem_cons_of_mem _ (List.mem_cons_of_mem _ (List.mem_cons_self ..)))) 2 rfl
       have m0 := hr.at_ (List.mem_cons_of_mem _ (List.mem_cons_of_mem _ (List.mem_cons_of_mem _ (List.mem_cons_of_mem _ (List.mem_cons_self ..))))) 0 rfl
       have m1 := hr.at_ (List.mem_cons_of_mem _ (List.mem_cons_of_mem _ (List.mem_cons_of_mem _ (List.mem_cons_of_mem _ (List.mem_cons_self ..))))) 1 rfl
       have m2 := hr.at_ (List.mem_cons_of_mem _ (List.mem_cons_of_mem _ (List.mem_cons_of_mem _ (List.mem_cons_of_mem _ (List.mem_cons_self ..))))) 2 rfl
       have m3 := hr.at_ (List.mem_cons_of_mem _ (List.mem_cons_of_mem _ (List.mem_cons_of_mem _ (List.mem_cons_of_mem _ (List.mem_cons_self ..))))) 3 rfl
       have m4 := hr.at_ (List.mem_cons_of_mem _ (List.mem_cons_of_mem _ (List.mem_cons_of_mem _ (List.mem_cons_of_mem _ (List.mem_cons_self ..))))) 4 rfl
       have n0 := hr.at_ (List.mem_cons_of_mem _ (List.mem_cons_of_mem _ (List.mem_cons_of_mem _ (List.mem_cons_of_mem _ (List.mem_cons_of_mem _ (List.mem_cons_self ..)))))) 0 rfl
       have n1 := hr.at_ (List.mem_cons_of_mem _ (List.mem_cons_of_mem _ (List.mem_cons_of_mem _ (List.mem_cons_of_mem _ (List.mem_cons_of_mem _ (List.mem_cons_self ..)))))) 1 rfl
       have n2 := hr.at_ (List.mem_cons_of_mem _ (List.mem_cons_of_mem _ (List.mem_cons_of_mem _ (List.mem_cons_of_mem _ (List.mem_cons_of_mem _ (List.mem_cons_self ..)))))) 2 rfl
       have n3 := hr.at_ (List.mem_cons_of_mem _ (List.mem_cons_of_mem _ (List.mem_cons_of_mem _ (List.mem_cons_of_mem _ (List.mem_cons_of_mem _ (List.mem_cons_self ..)))))) 3 rfl
       have n4 := hr.at_ (List.mem_cons_of_mem _ (List.mem_cons_of_mem _ (List.mem_cons_of_mem _ (List.mem_cons_of_mem _ (List.mem_cons_of_mem _ (List.mem_cons_self ..)))))) 4 rfl
       have R12 := Lib.hid hr
       clear hr hb R11)
    | (go_at_call 9; refine (Same_any (T.mv d) T _ _ _ HM12.out (HX.out.up R12.out.bel)).mono ?_; rintro e w13 ⟨rfl, hb⟩
       rw [HSM2.out]
       have hr := R12.out.step hb
       have z13 := hb.size
       try simp only [World.size_alloc] at z13
       have j0 := hr.at_ (List.mem_cons_self ..) 0 rfl
       have j1 := hr.at_ (List.mem_cons_self ..) 1 rfl
       have j2 := hr.at_ (List.mem_cons_self ..) 2 rfl
       have i0 := hr.at_ (List.mem_cons_of_mem _ (List.mem_cons_self ..)) 0 rfl
       have i1 := hr.at_ (List.mem_cons_of_mem _ (List.mem_cons_self ..)) 1 rfl
       have i2 := hr.at_ (List.mem_cons_of_mem _ (List.mem_cons_self ..)) 2 rfl
       have f0 := hr.at_ (List.mem_cons_of_mem _ (List.mem_cons_of_mem _ (List.mem_cons_self ..))) 0 rfl
       have f1 := hr.at_ (List.mem_cons_of_mem _ (List.mem_cons_of_mem _ (List.mem_cons_self ..))) 1 rfl
       have f2 := hr.at_ (List.mem_cons_of_mem _ (List.mem_cons_of_mem _ (List.mem_cons_self ..))) 2 rfl
       have e0 := hr.at_ (List.mem_cons_of_mem _ (List.mem_cons_of_mem _ (List.mem_cons_of_mem _ (List.mem_cons_self ..)))) 0 rfl
       have e1 := hr.at_ (List.mem_cons_of_mem _ (List.mem_cons_of_mem _ (List.mem_cons_of_mem _ (List.mem_cons_self ..)))) 1 rfl
       have e2 := hr.at_ (List.mem_cons_of_mem _ (List.mem_cons_of_mem _ (List.mem_cons_of_mem _ (List.mem_cons_self ..)))) 2 rfl
       have m0 := hr.at_ (List.mem_cons_of_mem _ (List.mem_cons_of_mem _ (List.mem_cons_of_mem _ (List.mem_cons_of_mem _ (List.mem_cons_self ..))))) 0 rfl
       have m1 := hr.at_ (List.mem_cons_of_mem _ (List.mem_cons_of_mem _ (List.mem_cons_of_mem _ (List.mem_cons_of_mem _ (List.mem_cons_self ..))))) 1 rfl
       have m2 := hr.at_ (List.mem_cons_of_mem _ (List.mem_cons_of_mem _ (List.mem_cons_of_mem _ (List.mem_cons_of_mem _ (List.mem_cons_self ..))))) 2 rfl
       have m3 := hr.at_ (List.mem_cons_of_mem _ (List.mem_cons_of_mem _ (List.mem_cons_of_mem _ (List.mem_cons_of_mem _ (List.mem_cons_self ..))))) 3 rfl
       have m4 := hr.at_ (List.mem_cons_of_mem _ (List.mem_cons_of_mem _ (List.mem_cons_of_mem _ (List.mem_cons_of_mem _ (List.mem_cons_self ..))))) 4 rfl
       have n0 := hr.at_ (List.mem_cons_of_mem _ (List.mem_cons_of_mem _ (List.mem_cons_of_mem _ (List.mem_cons_of_mem _ (List.mem_cons_of_mem _ (List.mem_cons_self ..)))))) 0 rfl
       have n1 := hr.at_ (List.mem_cons_of_mem _ (List.mem_cons_of_mem _ (List.mem_cons_of_mem _ (List.mem_cons_of_mem _ (List.mem_cons_of_mem _ (List.mem_cons_self ..)))))) 1 rfl
       have n2 := hr.at_ (List.mem_cons_of_mem _ (List.mem_cons_of_mem _ (List.mem_cons_of_mem _ (List.mem_cons_of_mem _ (List.mem_cons_of_mem _ (List.mem_cons_self ..)))))) 2 rfl
       have n3 := hr.at_ (List.mem_cons_of_mem _ (List.mem_cons_of_mem _ (List.mem_cons_of_mem _ (List.mem_cons_of_mem _ (List.mem_cons_of_mem _ (List.mem_cons_self ..)))))) 3 rfl
       have n4 := hr.at_ (List.mem_cons_of_mem _ (List.mem_cons_of_mem _ (List.mem_cons_of_mem _ (List.mem_cons_of_mem _ (List.mem_cons_of_mem _ (List.mem_cons_self ..)))))) 4 rfl
       have ka0 : (w5.heap.size = w10.heap.size) = False := by simp only [eq_iff_iff, iff_false]; omega
       have kb0 : (w10.heap.size = w5.heap.size) = False := by simp only [eq_iff_iff, iff_false]; omega
       have ka1 : (w5.heap.size = w7.heap.size) = False := by simp only [eq_iff_iff, iff_false]; omega
       have kb1 : (w7.heap.size = w5.heap.size) = False := by simp only [eq_iff_iff, iff_false]; omega
       have ka2 : (w10.heap.size = w7.heap.size) = False := by simp only [eq_iff_iff, iff_false]; omega
       have kb2 : (w7.heap.size = w10.heap.size) = False := by simp only [eq_iff_iff, iff_false]; omega
       have ka3 : (w5.heap.size = w11.heap.size) = False := by simp only [eq_iff_iff, iff_false]; omega
       have kb3 : (w11.heap.size = w5.heap.size) = False := by simp only [eq_iff_iff, iff_false]; omega
       have ka4 : (w10.heap.size = w11.heap.size) = False := by simp only [eq_iff_iff, iff_false]; omega
       have kb4 : (w11.heap.size = w10.heap.size) = False := by simp only [eq_iff_iff, iff_false]; omega
       have ge : w.heap.size ≤ w5.heap.size := by have := h1w; omega
       have gi : w.heap.size ≤ w10.heap.size := by omega
       have fe := hr.fz (List.mem_cons_of_mem _ (List.mem_cons_of_mem _ (List.mem_cons_of_mem _ (List.mem_cons_self ..)))) 1
       have fi := hr.fz (List.mem_cons_of_mem _ (List.mem_cons_self ..)) 1
       have R13 := Lib.hid hr
       clear hr hb R12))
  go_ret
  exact ⟨rfl, (R13.out.bel.setCell (p := ⟨_, 1, none⟩) ge _).setCell (p := ⟨_, 1, none⟩) gi _⟩
end Go.Proofs.YtjpmghgmmeemkaaGreatDoor

namespace Go.Proofs.YtjpmghgmmeemkaaGreatDoor
open Go.RowKit

set_option maxRecDepth 100000 in
set_option maxHeartbeats 2000000 in
theorem places_big (t : Nd) (v : Value) (d : Int) (w : World) (hex : ∀ W, Below w.heap.size w W → Calls Tryz.prog 7 #[] W fun e W' => e = .returned (.bool true) ∧ Below W.heap.size W W') (h : Lies w w.heap.size t v) (hcnt : 30000 < t.count 1000000) :
    Calls Tryz.prog 4 #[v, .int .i64 d] w fun e w' => e = .returned (.bool true) ∧ Below w.heap.size w w' := by
  have HX := Lib.hid h
  have HEX := Lib.hid hex
  have hcc := fun W hl => rCount_any t v W hl
  obtain ⟨cn, HCN⟩ : ∃ cn, Hid (t.count 1000000 = cn) := ⟨_, rfl⟩
  rw [HCN.out] at hcnt
  simp only [HCN.out] at hcc
  have HCC := Lib.hid hcc
  clear hcc hex
  have hcn : ((30000 : Int) < cn) = True := by simp; omega
  obtain ⟨k, s, n, a, ks⟩ := t
  unfold Lies at h
  obtain ⟨A, cap, rfl, -⟩ := h
  have hr := (RSt.push (rows := []) ⟨Below.refl _ w, fun r hr => by simp at hr⟩ #[.int .i64 k, .string s, .int .i64 n, .int .i64 a, .slice A ks.length cap] 24)
  have R0 := Lib.hid hr
  clear hr
  go_enter Tryz.func4, Tryz.ntmps4
  go_wp2_with (first
    | (go_at_call 7; refine (HEX.out _ R0.out.bel).mono ?_; rintro e w1 ⟨rfl, hb⟩
       have hr := R0.out.step hb
       have n0 := hr.at_ (List.mem_cons_self ..) 0 rfl
       have n1 := hr.at_ (List.mem_cons_self ..) 1 rfl
       have n2 := hr.at_ (List.mem_cons_self ..) 2 rfl
       have n3 := hr.at_ (List.mem_cons_self ..) 3 rfl
       have n4 := hr.at_ (List.mem_cons_self ..) 4 rfl
       have R1 := Lib.hid hr
       clear hr hb R0)
    | (go_at_call 11; refine (HCC.out _ (HX.out.up R1.out.bel)).mono ?_; rintro e w2 ⟨rfl, hb⟩
       have R2 := Lib.hid (R1.out.step hb)
       clear hb R1))
  go_ret
  exact ⟨rfl, R2.out.bel⟩

theorem TreePlaces_any (t : Nd) (v : Value) (d : Int) (w : World) (hgl : Gl w) (hge : Gerr w) (hex : ∀ W, Below w.heap.size w W → Calls Tryz.prog 7 #[] W fun e W' => e = .returned (.bool true) ∧ Below W.heap.size W W') (h : Lies w w.heap.size t v) :
    Calls Tryz.prog 4 #[v, .int .i64 d] w fun e w' => e = .returned (.bool true) ∧ Below w.heap.size w w' := by
  by_cases hb : 30000 < t.count 1000000
  · exact places_big t v d w hex h hb
  · rcases prRes_mv d t with ⟨x, h1, hc, h2, h3, h4⟩ | ⟨h1, h2, h3⟩
    · exact places_bad t v d x.code x.at_ x.name hc w hgl hge hex h (by omega) (by rw [h1]; rfl) (by rw [h1]; rfl) (by rw [h1]; rfl) (by rw [h2]; rfl) (by rw [h2]; rfl) (by rw [h2]; rfl)
        (by rw [h3]) (by rw [h3]; rfl) (by rw [h3]; rfl) (by rw [h3]; rfl) (by rw [h4]) (by rw [h4]; rfl) (by rw [h4]; rfl) (by rw [h4]; rfl)
    · exact places_ok t v d (wrC (prRes intB floatsB t).2) (wrA (prRes intB floatsB t).2) (wrN (prRes intB floatsB t).2) (prRes intB floatsB t).1 w hgl hge hex h (by omega) (by rw [h1]; rfl) (by rw [h1]; rfl) (by rw [h1]; rfl) (by rw [h2]; rfl) (by rw [h2]; rfl) (by rw [h2]; rfl)
        rfl rfl rfl rfl (by rw [h3]) (by rw [h3]) (by rw [h3]) (by rw [h3])
end Go.Proofs.YtjpmghgmmeemkaaGreatDoor

namespace Go.Proofs.YtjpmghgmmeemkaaGreatDoor
open Go.RowKit Go.ChangeShapes Go.WideShapes Go.ChangeAt

set_option maxRecDepth 100000 in
theorem treePlaces_lifted (os : Os) (started : os.Started) (H : Type) (enc : TypeId × Value → H) :
    ReturnsInHanded {} Tryz.checked os 4 .any ((OpenSpec.ofChange Rows.treePlacesSpec).preRow enc Tryz.prog Tryz.f4 [] false Rows.treePlacesRow.laid)
      (((OpenSpec.ofChange Rows.treePlacesSpec).at (fun _ _ _ => 0)).post enc Tryz.prog Tryz.f4 false true false false) := by
  refine returnsInHanded_of_row (C := Tryz.checked) own started (by kernel_rfl) Tryz.func4
    (ChangeSpec.witness_shaped (enc := enc) (C := Tryz.checked) (os := os) (s := Rows.treePlacesSpec) (X := fun w _ => laidMetH Tryz.prog laidL w) false (World.doorLaid Tryz.prog 60 os)
      #[.agg #[.int .i64 0, .string ⟨#[]⟩, .int .i64 0, .int .i64 0, .slice none 0 0], .int .i64 0] 8 rfl (door_shaped os _) (by kernel_rfl) (by kernel_rfl) (by kernel_rfl) (door_met os _)) ?_
  intro W base args ds gs before hval0 hW _ _ hsz0 hL hsh _
  have hval : ∀ (j : Nat) t v, Tryz.f4.params[j]? = some t → args[j]? = some v → Value.okWide Tryz.prog W .any base t v := hval0
  have hsz : (DataW.weightsEach Tryz.prog (Tryz.f4.params.toList ++ []) (ds ++ gs)).all (· ≤ reachBytes) = true := hsz0
  have hW' := hW
  obtain ⟨p, q, hA0, hV, rfl, hfz, hnd⟩ := hW
  have hA : DataW.TrodAll enc Tryz.prog W 0 (fun _ => true) true Tryz.f4.params.toList args.toList ds p := hA0
  rw [Tryz.params4] at hA hval hsz
  obtain ⟨v0, v1, d0, d1, p0, p1, rfl, rfl, rfl, h0, h1⟩ := trodAll_two hA
  obtain ⟨rfl, rfl⟩ := trodVars_none hV
  simp only [List.append_nil] at hsz
  have hw0 : ∀ x ∈ d0.weights Tryz.prog 24, x ≤ reachBytes := fun x hx => by
    have := List.all_eq_true.1 hsz x (DataW.weights_mem_each (j := 0) (t := 24) (d := d0) rfl rfl x hx)
    simpa using this
  obtain ⟨m, rfl, hd1, rfl, hm⟩ := open_int Tryz.underlying3 (hval 1 3 v1 rfl rfl) h1
  obtain ⟨t0, l0⟩ := node_arg (hval 0 24 v0 rfl rfl) h0 hw0
  obtain ⟨hgl, hge⟩ := ground_of hL hsh
  have hlt : ∀ x ∈ p0, x.block < W.heap.size := fun x hx => hW'.lt x (List.mem_append.2 (.inl (List.mem_append.2 (.inl hx))))
  refine (TreePlaces_any t0 v0 m W hgl hge (fun W' hb => examples_any W' (hgl.up hb) (hge.below hb (by have := hgl.2.2; omega))) l0).mono fun e W' ⟨he, hb⟩ => ?_
  subst he
  refine ⟨_, rfl, [d0, d1], [], _, [], p0 ++ [], [], hW', ?_, ?_, ?_, ?_, fun h => by cases h⟩
  · exact trodAll_mk1 (shut_bool Tryz.underlying4 true)
  · rw [Tryz.params4]
    exact trodAll_mk2 (Below.trod laidOut nodeReads (of_decide_eq_true (by kernel_rfl)) h0 hb fun x hx => hlt x hx)
      (Below.trod laidOut (by kernel_rfl) (of_decide_eq_true (by kernel_rfl)) h1 hb fun x hx => by cases hx)
  · exact rfl
  · exact Below.frame hb _

theorem treePlaces_holds : Rows.TreePlacesSaid :=
  OpenClaim.holds_of_wide 4 Tryz.f4 rfl rfl rfl rfl rfl rfl rfl ⟨rfl, rfl, rfl, rfl, rfl⟩ rfl rfl rfl rfl rfl (by kernel_rfl) Tryz.func4 (by kernel_rfl)
    (of_decide_eq_true (by kernel_rfl)) (by unfold Func.isWrapper; rw [if_neg (of_decide_eq_false (by kernel_rfl))]; exact ⟨rfl, rfl⟩)
    (fun os started H enc _ => treePlaces_lifted os started H enc)
#print axioms treePlaces_holds
end Go.Proofs.YtjpmghgmmeemkaaGreatDoor
