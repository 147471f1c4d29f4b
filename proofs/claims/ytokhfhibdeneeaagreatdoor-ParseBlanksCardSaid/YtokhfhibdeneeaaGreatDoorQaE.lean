/- wish: a number's digits. -/
import Derived.Test.YtokhfhibdeneeaaGreatDoorShelfN
import Derived.Test.YtokhfhibdeneeaaGreatDoorPaK
import Derived.Test.YtokhfhibdeneeaaGreatDoorMLiesP
namespace Go.Proofs.YtokhfhibdeneeaaGreatDoor
open Go.RowKit
/-- The tokens that are ints are digits, of a number that is one. -/
def DigOk (E : Env) : Prop := ∀ j, ((E.tok j).kind == 4) = true → (E.tok j).text ≠ [] ∧ (∀ c ∈ (E.tok j).text, 48 ≤ c.toNat ∧ c.toNat ≤ 57) ∧ decN (E.tok j).text ≤ 9223372036854775807
theorem dec_ge : ∀ (l : List UInt8) (n : Nat), n ≤ l.foldl (fun n c => 10 * n + (c.toNat - 48)) n
 | [], _ => Nat.le_refl _
 | c :: r, n => Nat.le_trans (by omega) (dec_ge r (10 * n + (c.toNat - 48)))
theorem parse_dec : ∀ (l : List UInt8) (n : Nat), (∀ c ∈ l, 48 ≤ c.toNat ∧ c.toNat ≤ 57) → l.foldl (fun n c => 10 * n + (c.toNat - 48)) n ≤ 9223372036854775807 → Lib.parseUint10 n l = .ok (l.foldl (fun n c => 10 * n + (c.toNat - 48)) n)
 | [], _, _, _ => rfl
 | c :: r, n, hd, hb => by
  have h1 := hd c M0
  have h2 := dec_ge r (10 * n + (c.toNat - 48))
  simp only [List.foldl_cons] at hb ⊢
  rw [Lib.parseUint10, if_pos h1, if_neg (by omega), if_neg (by omega), Nat.mul_comm n 10]
  exact parse_dec r _ (fun c hc => hd c (U1 hc)) hb
theorem atoi_dec {l : List UInt8} (h0 : l ≠ []) (hd : ∀ c ∈ l, 48 ≤ c.toNat ∧ c.toNat ≤ 57) (hb : decN l ≤ 9223372036854775807) : Lib.atoiAll l = .ok (decN l) := by
 cases l with
 | nil => exact absurd rfl h0
 | cons c r =>
 have h1 := hd c M0
 have h2 : Lib.parseMag (c :: r) = .ok (decN (c :: r)) := by
  unfold Lib.parseMag
  rw [if_neg (by simp)]
  exact parse_dec _ _ hd hb
 unfold Lib.atoiAll
 simp only
 rw [if_neg (by omega), h2]
 simp only
 rw [if_neg (by omega), if_neg (by omega), if_neg (by omega)]
theorem atoi_below {w w' : World} {e : TypeId} (h : w' = w ∨ ∃ t, w' = Lib.bytesWorld w e t) : Below w.heap.size w w' := by
 rcases h with rfl | ⟨t, rfl⟩
 · exact Below.refl _ _
 · exact ⟨rfl, rfl, rfl, by rw [Lib.bytesWorld_size]; omega, fun i hi => Lib.bytesWorld_at_old w e t i hi⟩
section
variable {E : Env} {M : Rm} {w0 W w1 W' : World} {rows : List Rw} {gs : Option Gv} {ts : List (Nd × Value)} {st s s' : Rs} {K : Kn} {g : Gv}

theorem wantR_ne {E : Env} (l : List UInt8) (s : Rs) : wantR E l s ≠ .out := by unfold wantR; split <;> (intro e; cases e)
theorem wish_ne {E : Env} (s : Rs) : wishR E s ≠ .out := by
 unfold wishR
 exact bind_ne (name_ne s) fun x s1 => by
  split
  · split
    · exact bind_ne (wantR_ne _ _) fun _ _ h => by cases h
    · intro h; cases h
  · intro h; cases h

set_option maxRecDepth 100000 in
set_option maxHeartbeats 4000000 in
theorem wish_rd (hE : EnvOk E M) (hD : DigOk E) (h : RdAt E M s W) :
 Calls Tryz.prog 92 #[.pointer (some ⟨M.bp, 0, none⟩)] W (Post E M VNd W (wishR E s)) := by
 obtain ⟨R, HR⟩ : ∃ R, Hid (wishR E s = R) := ⟨_, rfl⟩
 have hneR : R ≠ .out := by rw [← HR.out]; exact wish_ne s
 rw [HR.out]
 have HNE := Lib.hid hneR
 have HSP0 : Hid (((nameR E s).bind fun x s1 => if isT E s1 [40] then if (cur E (adv s1 1)).kind == 4 then (wantR E [41] (adv s1 2)).bind fun _ s' => .ok (.mk 11 x.text (decN (cur E (adv s1 1)).text) (cur E s).at_ []) s' else .bad (s1.i + 1) else .ok (.mk 9 x.text 0 (cur E s).at_ []) s1 : Rr Nd) = R) := HR.out
 have HS1 := Lib.hid ((St.init h).pz)
 try simp only [World.size_alloc] at HS1
 have a2R := F5 HS1 M0
 have hfi0 := fieldTok0
 have hfi1 := fieldTok1
 have hfi2 := fieldTok2
 have hfn0 := fieldNd0
 have hfn1 := fieldNd1
 have hn0 := hE.n
 have hle0 := h.le
 clear hneR HR h
 go_enter Tryz.func92, Tryz.ntmps92
 go_wp2_with fail
 go_at_call 42
 refine (at0_rd hE HS1.rd).mono ?_
 rintro e w3 ⟨rfl, hb3⟩
 clear a2R
 have HS4 := Lib.hid ((HS1.below hb3).push #[.int .i64 9, .string ⟨#[]⟩, .int .i64 0, .int .i64 (E.tok s.i).at_, .slice none 0 0] 25); try simp only [sz] at HS4
 have a5 := J2 (F5 HS4 M0) (F5 HS4 M1)
 clear hb3
 go_wp2_with fail
 go_at_call 87
 refine Post.use HSP0.out HNE.out (fun h0 => name_nm hE HS4.rd) (be HS4.fp) ?_
 intro x6 s6 v6 w6 hsp6 hv6 hr6 hf6
 obtain ⟨t6, a6, rfl, rfl, ha6, ht6⟩ := hv6
 clear a5
 have HS7 := Lib.hid ((HS4.go hr6 hf6).tree (t := .mk 14 t6 0 a6 []) (v := .agg #[.int .i64 14, .string t6, .int .i64 0, .int .i64 a6, .slice none 0 0]) (LiesP.leaf ok_lit ok_lit ha6 ht6)); try simp only [sz] at HS7
 have a8 := J2 (F5 HS7 M0) (F5 HS7 M1)
 have HSP6 := Lib.hid hsp6
 clear hsp6 hr6 hf6
 have HS9 := Lib.hid (HS7.setRow 1 (.string t6)); try simp only [sz] at HS9
 have a10 := J2 (F5 HS9 M0) (F5 HS9 M1)
 cases hp : isT E s6 [40] with
 | true =>
  have HSP11 := HSP6; try simp only [hp, reduceIte] at HSP11
  have htk11 : takeS E [40] s6 = adv s6 1 := by rw [takeS, hp]; rfl
  go_wp2_with fail
  go_at_call 86
  refine (take_any hE HS9.rd ⟨#[40]⟩ [40] rfl).mono ?_
  rw [hp]
  rw [htk11]
  rintro e w12 ⟨rfl, hr12, hf12⟩
  clear a8 a10
  have HS13 := Lib.hid (HS9.go hr12 hf12); try simp only [sz] at HS13
  have a14 := J2 (F5 HS13 M0) (F5 HS13 M1)
  clear hr12 hf12
  go_wp2_with fail
  clear a14
  have HS15 := Lib.hid (HS13.setRow 0 (.int .i64 11)); try simp only [sz] at HS15
  have a16 := J2 (F5 HS15 M0) (F5 HS15 M1)
  go_wp2_with fail
  go_at_call 42
  refine (at0_rd hE HS15.rd).mono ?_
  rintro e w17 ⟨rfl, hb17⟩
  clear a16
  have HS18 := Lib.hid ((HS15.below hb17).push #[.int .i64 (E.tok ((adv s6 1)).i).kind, .string (E.tok ((adv s6 1)).i).str, .int .i64 (E.tok ((adv s6 1)).i).at_] 46); try simp only [sz] at HS18
  have a19 := J3 (F3 HS18 M0) (F5 HS18 M1) (F5 HS18 M2)
  clear hb17
  cases k4 : (cur E (adv s6 1)).kind == 4 with
  | true =>
   have HSP20 := HSP11; try simp only [k4, reduceIte] at HSP20
   have hk : ((E.tok ((adv s6 1)).i).kind == 4) = true := k4
   have hdg := hD _ hk
   have hlt : ((adv s6 1)).i < E.n := kind_ltB hE.ok hk (by decide)
   have c21_1 := HS18.rd.c1
   have f21_1 := HS18.rd.fz 1
   have HS22 := Lib.hid (HS18.adv1 hE (by first | omega | (simp only [adv]; omega))); try simp only [sz] at HS22
   have a23 := J3 (F3 HS22 M0) (F5 HS22 M1) (F5 HS22 M2)
   go_wp2_with fail
   go_at_call 149
   refine (Num.Tryz.strconv_Atoi_ok (E.tok ((adv s6 1)).i).str (by have := hE.str ((adv s6 1)).i; omega) (decN (E.tok ((adv s6 1)).i).text : Nat) (atoi_dec hdg.1 hdg.2.1 hdg.2.2) _).mono ?_
   rintro e w24 ⟨rfl, hw24⟩
   have hb24 := atoi_below hw24
   clear hw24 a19 c21_1 f21_1 a23
   have HS25 := Lib.hid (HS22.below hb24); try simp only [sz] at HS25
   have a26 := J3 (F3 HS25 M0) (F5 HS25 M1) (F5 HS25 M2)
   clear hb24
   have HS27 := Lib.hid (HS25.swap.setRow 2 (.int .i64 (decN (E.tok ((adv s6 1)).i).text : Nat))); try simp only [sz] at HS27
   have a28 := J3 (F5 HS27 M0) (F3 HS27 M1) (F5 HS27 M2)
   go_wp2_with fail
   go_at_call 90
   refine Post.use HSP20.out HNE.out (fun _ => want_any hE HS27.rd ⟨#[41]⟩ [41] rfl) (be HS27.fp) ?_
   intro x29 s29 v29 w29 hsp29 hv29 hr29 hf29
   obtain rfl : v29 = _ := hv29
   clear a26 a28
   have HS30 := Lib.hid (HS27.go hr29 hf29); try simp only [sz] at HS30
   have a31 := J3 (F5 HS30 M0) (F3 HS30 M1) (F5 HS30 M2)
   have HSP29 := Lib.hid hsp29
   clear hsp29 hr29 hf29
   go_wp2_with fail
   have hs32 := (HS30.swap3.set5 (.int .i64 11) (.string t6) (.int .i64 (decN (E.tok ((adv s6 1)).i).text : Nat)) (.int .i64 (E.tok s.i).at_) (.slice none 0 0))
   refine St.fin (slot := 2) rfl hs32 rfl (LiesP.leaf ok_lit ⟨by omega, by have := hdg.2.2; omega⟩ (hE.at_ _) ht6) ?_
   exact HSP29.out
  | false =>
  have HSP20 := HSP11; try simp only [k4, sm, reduceIte] at HSP20
  have hk : ((E.tok ((adv s6 1)).i).kind == 4) = false := k4
  go_wp2_with fail
  go_at_call 44
  refine (fail_any hE HS18.rd).mono ?_
  rintro e wz ⟨rfl, hbz⟩
  exact ⟨rfl, bad_end (HSP20.out).symm (HS18.below hbz).fp⟩
 | false =>
 have HSP11 := HSP6; try simp only [hp, sm, reduceIte] at HSP11
 have htk11 : takeS E [40] s6 = s6 := by rw [takeS, hp]; rfl
 go_wp2_with fail
 go_at_call 86
 refine (take_any hE HS9.rd ⟨#[40]⟩ [40] rfl).mono ?_
 rw [hp]
 rw [htk11]
 rintro e w12 ⟨rfl, hr12, hf12⟩
 clear a8 a10
 have HS13 := Lib.hid (HS9.go hr12 hf12); try simp only [sz] at HS13
 have a14 := J2 (F5 HS13 M0) (F5 HS13 M1)
 clear hr12 hf12
 go_wp2_with fail
 have hs15 := (HS13.swap.set5 (.int .i64 9) (.string t6) (.int .i64 0) (.int .i64 (E.tok s.i).at_) (.slice none 0 0))
 refine St.fin (slot := 2) rfl hs15 rfl (LiesP.leaf ok_lit ok_lit (hE.at_ _) ht6) ?_
 exact HSP11.out

end
end Go.Proofs.YtokhfhibdeneeaaGreatDoor
