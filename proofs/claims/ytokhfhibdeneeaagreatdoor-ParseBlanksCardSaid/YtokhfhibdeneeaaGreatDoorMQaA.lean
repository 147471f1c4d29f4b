/- stmts. Expr$1, Statements$1, function. -/
import Derived.Deep.LoopGhost
import Derived.Test.YtokhfhibdeneeaaGreatDoorPaZ
import Derived.Test.YtokhfhibdeneeaaGreatDoorMLiesP
import Derived.Test.YtokhfhibdeneeaaGreatDoorMPaN
import Derived.Test.YtokhfhibdeneeaaGreatDoorPaP
import Derived.Test.YtokhfhibdeneeaaGreatDoorPaO
namespace Go.Proofs.YtokhfhibdeneeaaGreatDoor
open Go.RowKit
section
variable {E : Env} {M : Rm} {w0 W w1 W' : World} {rows : List Rw} {gs : Option Gv} {ts : List (Nd × Value)} {st s s' : Rs} {K : Kn} {g : Gv}

set_option maxRecDepth 100000 in
set_option maxHeartbeats 4000000 in
theorem stmts_rd (hE : EnvOk E M) (hK : KOK E M K) (hix : IndexOk E M K) (h : RdAt E M s W) {at0 : Int} (ha0 : okI at0) (hne : stmtsR E K at0 s ≠ .out) :
 Calls Tryz.prog 40 #[.pointer (some ⟨M.bp, 0, none⟩), .int .i64 at0] W (Post E M VNd W (stmtsR E K at0 s)) := by
 obtain ⟨R, HR⟩ : ∃ R, Hid (stmtsR E K at0 s = R) := ⟨_, rfl⟩
 have hneR : R ≠ .out := by rw [← HR.out]; exact hne
 clear hne
 rw [HR.out]
 have HNE := Lib.hid hneR
 have HSP0 := HR
 unfold stmtsR at HSP0
 obtain ⟨i0, hi0, hz0, hz1, hz2⟩ := info_parts infoNd
 have hfu := hK.fuel
 have HS1 := Lib.hid (((St.init h).pz).push #[.int .i64 17, .string ⟨#[]⟩, .int .i64 0, .int .i64 at0, .slice none 0 0] 25)
 try simp only [World.size_alloc] at HS1
 have a1 := J2 (F5 HS1 M0) (F5 HS1 M1)
 have hfi0 := fieldTok0
 have hfi1 := fieldTok1
 have hfi2 := fieldTok2
 have hfn0 := fieldNd0
 have hfn1 := fieldNd1
 have hn0 := hE.n
 clear hneR h
 go_enter Tryz.func40, Tryz.ntmps40
 go_wp2_with fail
 go_at_call 38
 refine (ends_rd hE HS1.rd).mono ?_
 rintro e w2 ⟨rfl, hr2, hf2⟩
 clear a1
 have HS3 := Lib.hid (HS1.go hr2 hf2); try simp only [sz] at HS3
 have a4 := J2 (F5 HS3 M0) (F5 HS3 M1)
 clear hr2 hf2 a4
 go_wp2_with fail
 go_loopg [] K.fuel (fun f wr => ∃ (s2 : Rs) (A2 : Option Addr) (cap2 : Nat) (xs : List (Nd × Value)), xs.length + f ≤ K.fuel ∧ Hid (St E M W [(W.heap.size, #[.int .i64 0, .string ⟨#[]⟩, .int .i64 0, .int .i64 0, .slice none 0 0], 25)] (some ⟨(W.heap.size + 1), 17, ⟨#[]⟩, 0, at0, .slice A2 xs.length cap2, xs⟩) [] s2 wr) ∧ Hid (stmtsL E (stmtR E K) f (.mk 17 (bs []) 0 at0 (xs.map (fun x : Nd × Value => x.1))) s2 = R))
 case atStart => exact ⟨_, none, 0, [], by simp, Lib.hid (St.grow0 HS3.swap.swap ok_lit ok_lit ha0 (by decide)), HSP0.out⟩
 case round =>
  obtain ⟨s2, A2, cap2, xs, hxf, HL2, HSL2⟩ := hrel
  cases gk with
  | zero => exact absurd HSL2.symm HNE.out
  | succ g =>
  have hspu := HSL2.out
  rw [stmtsL] at hspu
  have HSU := Lib.hid hspu
  clear hspu
  have a5R := F5 HL2 M0
  have gg5 := HL2.gcells
  cases hst : stopsB E s2 with
  | true =>
   have HSP6 := HSU; try simp only [hst, reduceIte] at HSP6
   go_wp2_with fail
   go_at_call 84
   refine (stops_rd hE HL2.rd).mono ?_
   rw [hst]
   rintro e w7 ⟨rfl, hb7⟩
   clear a5R gg5
   have HS8 := Lib.hid (HL2.below hb7); try simp only [sz] at HS8
   have a9R := F5 HS8 M0
   have gg9 := HS8.gcells
   clear hb7 a9R gg9
   have HS10 := Lib.hid (HS8.ungrow); try simp only at HS10
   have a11 := J2 (F5 HS10 M0) (F5 HS10 M1)
   go_wp2_with fail
   have hs12 := (HS10.swap.set5 (.int .i64 17) (.string ⟨#[]⟩) (.int .i64 0) (.int .i64 at0) (.slice A2 xs.length cap2))
   refine St.fin (slot := 4) rfl hs12 rfl (hs12.bx.tr _ M0) ?_
   exact HSP6.out
  | false =>
  have HSP6 := HSU; try simp only [hst, sm, reduceIte] at HSP6
  go_wp2_with fail
  go_at_call 84
  refine (stops_rd hE HL2.rd).mono ?_
  rw [hst]
  rintro e w7 ⟨rfl, hb7⟩
  clear a5R gg5
  have HS8 := Lib.hid (HL2.below hb7); try simp only [sz] at HS8
  have a9R := F5 HS8 M0
  have gg9 := HS8.gcells
  clear hb7
  go_wp2_with fail
  clear a9R gg9
  have hs10 := HS8.drew
  refine wp_region_G [7] (fun Wx => Wx.cell? ⟨(W.heap.size + 1), 4, none⟩ = some (.slice A2 xs.length cap2)) (by rfl) ?_ (fun hHeld => ?_)
  · exact hs10.gcells.2.2.2.2.1
  revert hs10 hHeld
  generalize World.drew _ = wd10
  intro hs10 hHeld
  refine tk 0 (h := tk 1 (h := tk 2 (h := ?_)))
  try simp only [nm]
  refine rd1 3 fun KK hKK => ?_
  go_simp
  go_at_call 85
  refine Post.nd HSP6 HNE (fun h0 => stmt_rd hE hK hix hs10.rd h0) (be hs10.fp) ?_
  intro k11 t11 n11 a11 ks11 s11 A11 cap11 w11 HSP11 hv11 hr11 hf11
  have hs12 := (hs10.read hr11 hf11 hv11); try simp only [sz] at hs12
  clear hs10 hHeld
  refine hKK.out _ _ (hs12.gcells.2.2.2.2.1) (fun hHeld => ?_)
  clear hKK KK
  try simp only [nm]
  refine rd1 4 fun KK hKK => ?_
  go_simp
  have hs13 := (hs12.pn k11 t11 n11 a11 (.slice A11 ks11.length cap11)); try simp only [sz] at hs13
  clear hs12
  revert hs13
  generalize World.alloc _ _ = wq14
  intro hs13
  clear hHeld
  refine hKK.out _ _ (hs13.gcells.2.2.2.2.1) (fun hHeld => ?_)
  clear hKK KK
  try simp only [nm]
  refine rd1 5 fun KK hKK => ?_
  refine apl 14 17 hs13 M0 xs.length (h := ?_)
  intro b15 capb15 w15 ho15 hg15 hb15 hbl15
  obtain ⟨he15, ef15, n415, nf15, hne15, hbox15, hlen15⟩ := hs13.newElem rfl ho15 hg15 hb15
  obtain ⟨e15_0, e15_1, e15_2, e15_3, e15_4⟩ := he15
  have hnx15 : ((W.heap.size + 1) = b15) = False := by simpa using fun e => hne15 e.symm
  have hny15 : (b15 = (W.heap.size + 1)) = False := by simpa using hne15
  have HSF15 := Lib.hid (And.intro hs13 (And.intro ho15 (And.intro hg15 (And.intro hb15 (And.intro hbox15 hlen15)))))
  clear hs13 ho15 hg15 hb15 hHeld
  refine hKK.out _ _ (n415) (fun hHeld => ?_)
  clear hKK KK
  refine tk 6 (h := ?_)
  try simp only [nm]
  refine rl1 7 fun KK hKK => ?_
  go_simp
  clear hHeld
  refine hKK.out _ _ ?_
  clear hKK KK
  try simp only [nm]
  refine wpAny_done (by kernel_rfl) ?_ _
  have hA15 := AppTo.whole (lo := W.heap.size) HSF15.out.2.1 HSF15.out.2.2.2.2.1 (fun e => hne15 e.symm)
  have HS16 := Lib.hid (HSF15.out.1.appendedN (m := xs.length) (N := 1) (zs := [.int .i64 k11, .string t11, .int .i64 n11, .int .i64 a11, .slice A11 ks11.length cap11]) rfl rfl HSF15.out.2.1 HSF15.out.2.2.1 HSF15.out.2.2.2.1 (ys := [(.mk k11 t11 n11 a11 ks11, .agg #[.int .i64 k11, .string t11, .int .i64 n11, .int .i64 a11, .slice A11 ks11.length cap11])]) (memC M0 (mem0 _)) hA15 rfl); try simp only at HS16
  have a17 := J2 (F5 HS16 M0) (F5 HS16 M1)
  have gg17 := HS16.gcells
  obtain ⟨be, hbe⟩ : ∃ b, decide (s11.i < (endsS E s11).i) = b := ⟨_, rfl⟩
  go_wp2_with fail
  go_at_call 38
  refine (ends_rd hE HS16.rd).mono ?_
  rw [hbe]
  rintro e w18 ⟨rfl, hr18, hf18⟩
  clear a17 gg17
  have HS19 := Lib.hid (HS16.go hr18 hf18); try simp only [sz] at HS19
  have a20 := J2 (F5 HS19 M0) (F5 HS19 M1)
  have gg20 := HS19.gcells
  clear hr18 hf18
  have HSP21 := HSP11; try simp only [hbe] at HSP21
  have HBE := Lib.hid hbe
  clear hbe
  cases be with
  | true =>
   have HSP22 := HSP21; try simp only [sm, reduceIte] at HSP22
   go_wp2_with fail
   go_roundg g
   case measure => omega
   case rel => exact ⟨_, _, _, xs ++ [(.mk k11 t11 n11 a11 ks11, .agg #[.int .i64 k11, .string t11, .int .i64 n11, .int .i64 a11, .slice A11 ks11.length cap11])], by simp; omega, Lib.hid (by simpa using HS19.retire.mono_ts (mem0 _)), Lib.hid (by simpa [Nd.push] using HSP22.out)⟩
  | false =>
  have HSP22 := HSP21; try simp only [sm] at HSP22
  cases hs2 : stopsB E (endsS E s11) with
  | true =>
   have HSP23 := HSP22; try simp only [hs2, reduceIte] at HSP23
   go_wp2_with fail
   go_at_call 84
   refine (stops_rd hE HS19.rd).mono ?_
   rw [hs2]
   rintro e w24 ⟨rfl, hb24⟩
   clear a20 gg20
   have HS25 := Lib.hid (HS19.below hb24); try simp only [sz] at HS25
   have a26 := J2 (F5 HS25 M0) (F5 HS25 M1)
   have gg26 := HS25.gcells
   clear hb24
   go_wp2_with fail
   go_roundg g
   case measure => omega
   case rel => exact ⟨_, _, _, xs ++ [(.mk k11 t11 n11 a11 ks11, .agg #[.int .i64 k11, .string t11, .int .i64 n11, .int .i64 a11, .slice A11 ks11.length cap11])], by simp; omega, Lib.hid (by simpa using HS25.retire.mono_ts (mem0 _)), Lib.hid (by simpa [Nd.push] using HSP23.out)⟩
  | false =>
  have HSP23 := HSP22; try simp only [hs2, sm, reduceIte] at HSP23
  go_wp2_with fail
  go_at_call 84
  refine (stops_rd hE HS19.rd).mono ?_
  rw [hs2]
  rintro e w24 ⟨rfl, hb24⟩
  clear a20 gg20
  have HS25 := Lib.hid (HS19.below hb24); try simp only [sz] at HS25
  have a26 := J2 (F5 HS25 M0) (F5 HS25 M1)
  have gg26 := HS25.gcells
  clear hb24
  go_wp2_with fail
  go_at_call 44
  refine (fail_any hE HS25.rd).mono ?_
  rintro e wz ⟨rfl, hbz⟩
  exact ⟨rfl, bad_end (HSP23.out).symm (HS25.below hbz).fp⟩

/-- The knot. -/
theorem kok (hE : EnvOk E M) : ∀ m, m ≤ 900000 → KOK E M (kn E m)
 | 0, _ => ⟨fun _ _ _ h => absurd rfl h, fun _ _ _ h => absurd rfl h, fun _ _ _ _ _ h => absurd rfl h, fun _ _ _ h => absurd rfl h, Nat.zero_le _⟩
 | m + 1, hm => by
  have ih := kok hE m (by omega)
  have ix := indexOk hE ih
  exact ⟨fun s W h hne => expr_rd hE ih h hne, fun s W h hne => unary_rd hE ih ix h hne, fun a s W ha h hne => stmts_rd hE ih ix h ha hne, fun s W h hne => branch_rd hE ih h hne, hm⟩

end
end Go.Proofs.YtokhfhibdeneeaaGreatDoor

namespace Go.Proofs.YtokhfhibdeneeaaGreatDoor
open Go.RowKit
section
variable {E : Env} {M : Rm} {w0 W w1 W' : World} {rows : List Rw} {gs : Option Gv} {ts : List (Nd × Value)} {st s s' : Rs} {K : Kn} {g : Gv}

set_option maxRecDepth 100000 in
set_option maxHeartbeats 4000000 in
theorem exprForm_rd (hE : EnvOk E M) (hK : KOK E M K) (h : RdAt E M s W) (hne : exprFormR E K s ≠ .out) :
 Calls Tryz.prog 36 #[.pointer (some ⟨M.bp, 0, none⟩)] W (Post E M VNd W (exprFormR E K s)) := by
 obtain ⟨R, HR⟩ : ∃ R, Hid (exprFormR E K s = R) := ⟨_, rfl⟩
 have hneR : R ≠ .out := by rw [← HR.out]; exact hne
 clear hne
 rw [HR.out]
 have HNE := Lib.hid hneR
 have HSP0 := HR
 unfold exprFormR at HSP0
 have HS1 := Lib.hid ((St.init h).pz)
 try simp only [World.size_alloc] at HS1
 have a1R := F5 HS1 M0
 have hfi0 := fieldTok0
 have hfi1 := fieldTok1
 have hfi2 := fieldTok2
 have hfn0 := fieldNd0
 have hfn1 := fieldNd1
 have hn0 := hE.n
 clear hneR h
 go_enter Tryz.func36, Tryz.ntmps36
 go_wp2_with fail
 go_at_call 37
 refine Post.use HSP0.out HNE.out (fun h0 => expr_rd hE hK HS1.rd h0) (be HS1.fp) ?_
 intro x2 s2 v2 w2 hsp2 hv2 hr2 hf2
 obtain ⟨k2, t2, n2, a2, ks2⟩ := x2
 obtain ⟨A2, cap2, rfl⟩ := VNd.form hv2
 clear a1R
 have HS3 := Lib.hid ((HS1.read hr2 hf2 hv2).pn k2 t2 n2 a2 (.slice A2 ks2.length cap2)); try simp only [sz] at HS3
 have a4 := J2 (F5 HS3 M0) (F5 HS3 M1)
 have HSP2 := Lib.hid hsp2
 clear hsp2 hr2 hf2
 go_wp2_with fail
 go_at_call 38
 refine (ends_rd hE HS3.rd).mono ?_
 rintro e w5 ⟨rfl, hr5, hf5⟩
 clear a4
 have HS6 := Lib.hid (HS3.go hr5 hf5); try simp only [sz] at HS6
 have a7 := J2 (F5 HS6 M0) (F5 HS6 M1)
 clear hr5 hf5
 go_wp2_with fail
 have hs8 := (HS6.swap.set5 (.int .i64 k2) (.string t2) (.int .i64 n2) (.int .i64 a2) (.slice A2 ks2.length cap2))
 refine St.fin (slot := 2) rfl hs8 rfl (hs8.bx.tr _ M0) ?_
 exact HSP2.out

set_option maxRecDepth 100000 in
set_option maxHeartbeats 4000000 in
theorem stmtsForm_rd (hE : EnvOk E M) (hK : KOK E M K) (hix : IndexOk E M K) (h : RdAt E M s W) (hne : stmtsR E K 0 s ≠ .out) :
 Calls Tryz.prog 39 #[.pointer (some ⟨M.bp, 0, none⟩)] W (Post E M VNd W (stmtsR E K 0 s)) := by
 obtain ⟨R, HR⟩ : ∃ R, Hid (stmtsR E K 0 s = R) := ⟨_, rfl⟩
 have hneR : R ≠ .out := by rw [← HR.out]; exact hne
 clear hne
 rw [HR.out]
 have HNE := Lib.hid hneR
 have HSP0 := HR
 have HS1 := Lib.hid ((St.init h).pz)
 try simp only [World.size_alloc] at HS1
 have a1R := F5 HS1 M0
 have hfi0 := fieldTok0
 have hfi1 := fieldTok1
 have hfi2 := fieldTok2
 have hfn0 := fieldNd0
 have hfn1 := fieldNd1
 have hn0 := hE.n
 clear hneR h
 go_enter Tryz.func39, Tryz.ntmps39
 go_wp2_with fail
 go_at_call 40
 refine Post.use (bind_okR HSP0.out) HNE.out (fun h0 => stmts_rd hE hK hix HS1.rd (at0 := 0) ok_lit h0) (be HS1.fp) ?_
 intro x2 s2 v2 w2 hsp2 hv2 hr2 hf2
 obtain ⟨k2, t2, n2, a2, ks2⟩ := x2
 obtain ⟨A2, cap2, rfl⟩ := VNd.form hv2
 clear a1R
 have HS3 := Lib.hid (HS1.read hr2 hf2 hv2); try simp only [sz] at HS3
 have a4R := F5 HS3 M0
 have HSP2 := Lib.hid hsp2
 clear hsp2 hr2 hf2
 go_wp2_with fail
 have hs5 := (HS3.set5 (.int .i64 k2) (.string t2) (.int .i64 n2) (.int .i64 a2) (.slice A2 ks2.length cap2))
 refine St.fin (slot := 2) rfl hs5 rfl (hs5.bx.tr _ M0) ?_
 exact HSP2.out

set_option maxRecDepth 100000 in
set_option maxHeartbeats 4000000 in
theorem function_rd (hE : EnvOk E M) (hK : KOK E M K) (h : RdAt E M s W) {at0 : Int} (ha0 : okI at0) (hne : functionR E K at0 s ≠ .out) :
 Calls Tryz.prog 93 #[.pointer (some ⟨M.bp, 0, none⟩), .int .i64 at0] W (Post E M VNd W (functionR E K at0 s)) := by
 obtain ⟨R, HR⟩ : ∃ R, Hid (functionR E K at0 s = R) := ⟨_, rfl⟩
 have hneR : R ≠ .out := by rw [← HR.out]; exact hne
 clear hne
 rw [HR.out]
 have HNE := Lib.hid hneR
 have HSP0 := HR
 unfold functionR at HSP0
 have HS1 := Lib.hid ((St.init h).pz)
 try simp only [World.size_alloc] at HS1
 have a1R := F5 HS1 M0
 have hfi0 := fieldTok0
 have hfi1 := fieldTok1
 have hfi2 := fieldTok2
 have hfn0 := fieldNd0
 have hfn1 := fieldNd1
 have hn0 := hE.n
 clear hneR h
 go_enter Tryz.func93, Tryz.ntmps93
 cases hp : isT E s [40] with
 | true =>
  have HSP2 := HSP0; try simp only [hp, reduceIte] at HSP2
  go_wp2_with fail
  go_at_call 139
  refine (is_any hE HS1.rd ⟨#[40]⟩ [40] rfl).mono ?_
  rw [hp]
  rintro e w3 ⟨rfl, hb3⟩
  clear a1R
  have HS4 := Lib.hid (HS1.below hb3); try simp only [sz] at HS4
  have a5R := F5 HS4 M0
  clear hb3
  go_wp2_with fail
  go_at_call 90
  refine Post.use HSP2.out HNE.out (fun _ => want_any hE HS4.rd ⟨#[40]⟩ [40] rfl) (be HS4.fp) ?_
  intro x6 s6 v6 w6 hsp6 hv6 hr6 hf6
  obtain rfl : v6 = _ := hv6
  clear a5R
  have HS7 := Lib.hid (HS4.go hr6 hf6); try simp only [sz] at HS7
  have a8R := F5 HS7 M0
  have HSP6 := Lib.hid hsp6
  clear hsp6 hr6 hf6
  go_wp2_with fail
  go_at_call 87
  refine Post.use HSP6.out HNE.out (fun h0 => name_nm hE HS7.rd) (be HS7.fp) ?_
  intro x9 s9 v9 w9 hsp9 hv9 hr9 hf9
  obtain ⟨t9, a9, rfl, rfl, ha9, ht9⟩ := hv9
  clear a8R
  have HS10 := Lib.hid ((HS7.go hr9 hf9).tree (t := .mk 14 t9 0 a9 []) (v := .agg #[.int .i64 14, .string t9, .int .i64 0, .int .i64 a9, .slice none 0 0]) (LiesP.leaf ok_lit ok_lit ha9 ht9)); try simp only [sz] at HS10
  have a11R := F5 HS10 M0
  have HSP9 := Lib.hid hsp9
  clear hsp9 hr9 hf9
  have HS12 := Lib.hid (HS10.pn 12 t9 0 a9 (.slice none 0 0)); try simp only [sz] at HS12
  have a13 := J2 (F5 HS12 M0) (F5 HS12 M1)
  go_wp2_with fail
  go_at_call 42
  refine (at0_rd hE HS12.rd).mono ?_
  rintro e w14 ⟨rfl, hb14⟩
  clear a11R a13
  have HS15 := Lib.hid (HS12.below hb14); try simp only [sz] at HS15
  have a16M := F5 HS15 M0
  have a16R := F5 HS15 M1
  clear hb14
  cases hst : isT E s9 [42] with
  | true =>
   have HSP17 := HSP9; try simp only [hst, reduceIte] at HSP17
   have htk17 : takeS E [42] s9 = adv s9 1 := by rw [takeS, hst]; rfl
   go_wp2_with fail
   go_at_call 86
   refine (take_any hE HS15.rd ⟨#[42]⟩ [42] rfl).mono ?_
   rw [hst]
   rw [htk17]
   rintro e w18 ⟨rfl, hr18, hf18⟩
   clear a16M a16R
   have HS19 := Lib.hid (HS15.go hr18 hf18); try simp only [sz] at HS19
   have a20 := J2 (F5 HS19 M0) (F5 HS19 M1)
   clear hr18 hf18
   have HSP21 := HSP17; try simp only [bind_assocR, sm] at HSP21
   go_wp2_with fail
   go_at_call 87
   refine Post.use HSP21.out HNE.out (fun h0 => name_nm hE HS19.rd) (be HS19.fp) ?_
   intro x22 s22 v22 w22 hsp22 hv22 hr22 hf22
   obtain ⟨t22, a22, rfl, rfl, ha22, ht22⟩ := hv22
   clear a20
   have HS23 := Lib.hid (((HS19.go hr22 hf22).tree (t := .mk 14 t22 0 a22 []) (v := .agg #[.int .i64 14, .string t22, .int .i64 0, .int .i64 a22, .slice none 0 0]) (LiesP.leaf ok_lit ok_lit ha22 ht22)).pn 14 t22 0 a22 (.slice none 0 0)); try simp only [sz] at HS23
   have a24 := J3 (F5 HS23 M0) (F5 HS23 M1) (F5 HS23 M2)
   have HSP22 := Lib.hid hsp22
   clear hsp22 hr22 hf22
   have HS25 := Lib.hid (HS23.push #[.int .i64 15, .string ⟨#[]⟩, .int .i64 0, .int .i64 (E.tok (s9).i).at_, .slice (some ⟨w22.heap.size, 0, none⟩) 1 1] 25); try simp only [sz] at HS25
   have a26 := J4 (F5 HS25 M0) (F5 HS25 M1) (F5 HS25 M2) (F5 HS25 M3)
   have HS28 := Lib.hid (HS25.swap.node [(.mk 14 t22 0 a22 [], .agg #[.int .i64 14, .string t22, .int .i64 0, .int .i64 a22, .slice none 0 0])] rfl (memC M0 (mem0 _)) (k := 15) (sx := ⟨#[]⟩) (n := 0) (a := (E.tok (s9).i).at_) ok_lit ok_lit (hE.at_ _) (by decide) (l := 1) rfl (by decide)); try simp only [sz] at HS28
   have a29 := J3 (F5 HS28 M0) (F5 HS28 M1) (F5 HS28 M2)
   have HSP30 := HSP22; try simp only [Rr.bind_ok, sm, reduceIte] at HSP30
   have HS31 := Lib.hid (HS28.swap.setRow 4 (.slice (some ⟨(w22.heap.size + 1), 0, none⟩) 1 1)); try simp only [sz] at HS31
   have a32 := J3 (F5 HS31 M0) (F5 HS31 M1) (F5 HS31 M2)
   go_wp2_with fail
   go_at_call 90
   refine Post.use HSP30.out HNE.out (fun _ => want_any hE HS31.rd ⟨#[41]⟩ [41] rfl) (be HS31.fp) ?_
   intro x33 s33 v33 w33 hsp33 hv33 hr33 hf33
   obtain rfl : v33 = _ := hv33
   clear a24 a26 a29 a32
   have HS34 := Lib.hid (HS31.go hr33 hf33); try simp only [sz] at HS34
   have a35 := J3 (F5 HS34 M0) (F5 HS34 M1) (F5 HS34 M2)
   have HSP33 := Lib.hid hsp33
   clear hsp33 hr33 hf33
   go_wp2_with fail
   go_at_call 87
   refine Post.use HSP33.out HNE.out (fun h0 => name_nm hE HS34.rd) (be HS34.fp) ?_
   intro x36 s36 v36 w36 hsp36 hv36 hr36 hf36
   obtain ⟨t36, a36, rfl, rfl, ha36, ht36⟩ := hv36
   clear a35
   have HS37 := Lib.hid (((HS34.go hr36 hf36).tree (t := .mk 14 t36 0 a36 []) (v := .agg #[.int .i64 14, .string t36, .int .i64 0, .int .i64 a36, .slice none 0 0]) (LiesP.leaf ok_lit ok_lit ha36 ht36)).pn 14 t36 0 a36 (.slice none 0 0)); try simp only [sz] at HS37
   have a38 := J4 (F5 HS37 M0) (F5 HS37 M1) (F5 HS37 M2) (F5 HS37 M3)
   have HSP36 := Lib.hid hsp36
   clear hsp36 hr36 hf36
   go_wp2_with fail
   clear a38
   have hs39 := HS37.drew
   refine wp_region_G [] (fun Wx => Wx.cell? ⟨w36.heap.size, 1, none⟩ = some (.string t36) ∧ Wx.cell? ⟨w9.heap.size, 0, none⟩ = some (.int .i64 12) ∧ Wx.cell? ⟨w9.heap.size, 1, none⟩ = some (.string t9) ∧ Wx.cell? ⟨w9.heap.size, 2, none⟩ = some (.int .i64 0) ∧ Wx.cell? ⟨w9.heap.size, 3, none⟩ = some (.int .i64 a9) ∧ Wx.cell? ⟨w9.heap.size, 4, none⟩ = some (.slice (some ⟨(w22.heap.size + 1), 0, none⟩) 1 1)) (by rfl) ?_ (fun hHeld => ?_)
   · exact ⟨hs39.a M0 1, hs39.a M1 0, hs39.a M1 1, hs39.a M1 2, hs39.a M1 3, hs39.a M1 4⟩
   revert hs39 hHeld
   generalize World.drew _ = wd39
   intro hs39 hHeld
   refine tk 0 (h := tk 1 (h := tk 2 (h := tk 3 (h := tk 4 (h := tk 6 (h := ?_))))))
   try simp only [nm]
   refine rd1 5 fun KK hKK => ?_
   go_simp
   go_at_call 150
   refine Post.nd HSP36 HNE (fun h0 => params_rd hE hK.fuel hs39.rd h0) (be hs39.fp) ?_
   intro k40 t40 n40 a40 ks40 s40 A40 cap40 w40 HSP40 hv40 hr40 hf40
   have hs41 := (hs39.read hr40 hf40 hv40); try simp only [sz] at hs41
   clear hs39 hHeld
   refine hKK.out _ _ (⟨hs41.a M0 1, hs41.a M1 0, hs41.a M1 1, hs41.a M1 2, hs41.a M1 3, hs41.a M1 4⟩) (fun hHeld => ?_)
   clear hKK KK
   try simp only [nm]
   refine rd1 7 fun KK hKK => ?_
   go_simp
   go_at_call 140
   refine Post.nd HSP40 HNE (fun h0 => block_rd hE hK hs41.rd h0) (be hs41.fp) ?_
   intro k42 t42 n42 a42 ks42 s42 A42 cap42 w42 HSP42 hv42 hr42 hf42
   have hs43 := (hs41.read hr42 hf42 hv42); try simp only [sz] at hs43
   clear hs41 hHeld
   refine hKK.out _ _ (⟨hs43.a M0 1, hs43.a M1 0, hs43.a M1 1, hs43.a M1 2, hs43.a M1 3, hs43.a M1 4⟩) (fun hHeld => ?_)
   clear hKK KK
   try simp only [nm]
   refine rd1 8 fun KK hKK => ?_
   go_simp
   have hs44 := (hs43.push #[.int .i64 12, .string t9, .int .i64 0, .int .i64 a9, .slice (some ⟨(w22.heap.size + 1), 0, none⟩) 1 1, .int .i64 k40, .string t40, .int .i64 n40, .int .i64 a40, .slice A40 ks40.length cap40, .int .i64 k42, .string t42, .int .i64 n42, .int .i64 a42, .slice A42 ks42.length cap42] 25); try simp only [sz] at hs44
   clear hs43
   revert hs44
   generalize World.alloc _ _ = wq45
   intro hs44
   clear hHeld
   refine hKK.out _ _ (⟨hs44.a M1 1, hs44.a M2 0, hs44.a M2 1, hs44.a M2 2, hs44.a M2 3, hs44.a M2 4⟩) (fun hHeld => ?_)
   clear hKK KK
   refine tk 9 (h := ?_)
   try simp only [nm]
   refine rd1 10 fun KK hKK => ?_
   have a46R := F5 hs44 M4
   go_simp
   clear a46R
   have hs47 := (hs44.swap5.set5 (.int .i64 6) (.string t36) (.int .i64 0) (.int .i64 at0) (.slice (some ⟨w42.heap.size, 0, none⟩) 3 3)); try simp only [sz] at hs47
   clear hs44
   revert hs47
   generalize World.setCell _ _ _ = wq48
   intro hs47
   clear hHeld
   refine hKK.out _ _ (⟨hs47.a M2 1, hs47.a M3 0, hs47.a M3 1, hs47.a M3 2, hs47.a M3 3, hs47.a M3 4⟩) (fun hHeld => ?_)
   clear hKK KK
   try simp only [nm]
   refine wpAnyG_done (by kernel_rfl) ?_ _
   have HS49 := Lib.hid hs47; try simp only [sz] at HS49
   clear hs47
   go_wp2_with fail
   have hs52 := ((HS49.swap5.node [(.mk 15 ⟨#[]⟩ 0 (E.tok (s9).i).at_ [.mk 14 t22 0 a22 []], .agg #[.int .i64 15, .string ⟨#[]⟩, .int .i64 0, .int .i64 (E.tok (s9).i).at_, .slice (some ⟨w22.heap.size, 0, none⟩) 1 1])] rfl (memC M3 (mem0 _)) (k := 12) (sx := t9) (n := 0) (a := a9) ok_lit ok_lit ha9 ht9 (l := 1) rfl (by decide)).swap.node [(.mk 12 t9 0 a9 [.mk 15 ⟨#[]⟩ 0 (E.tok (s9).i).at_ [.mk 14 t22 0 a22 []]], .agg #[.int .i64 12, .string t9, .int .i64 0, .int .i64 a9, .slice (some ⟨(w22.heap.size + 1), 0, none⟩) 1 1]), (.mk k40 t40 n40 a40 ks40, .agg #[.int .i64 k40, .string t40, .int .i64 n40, .int .i64 a40, .slice A40 ks40.length cap40]), (.mk k42 t42 n42 a42 ks42, .agg #[.int .i64 k42, .string t42, .int .i64 n42, .int .i64 a42, .slice A42 ks42.length cap42])] rfl (memC M0 (memC M2 (memC M1 (mem0 _)))) (k := 6) (sx := t36) (n := 0) (a := at0) ok_lit ok_lit ha0 ht36 (l := 3) rfl (by decide))
   refine St.fin (slot := 4) rfl hs52 rfl (hs52.bx.tr _ M0) ?_
   exact HSP42.out
  | false =>
  have HSP17 := HSP9; try simp only [hst, sm, reduceIte] at HSP17
  have htk17 : takeS E [42] s9 = s9 := by rw [takeS, hst]; rfl
  go_wp2_with fail
  go_at_call 86
  refine (take_any hE HS15.rd ⟨#[42]⟩ [42] rfl).mono ?_
  rw [hst]
  rw [htk17]
  rintro e w18 ⟨rfl, hr18, hf18⟩
  clear a16M a16R
  have HS19 := Lib.hid (HS15.go hr18 hf18); try simp only [sz] at HS19
  have a20 := J2 (F5 HS19 M0) (F5 HS19 M1)
  clear hr18 hf18
  go_wp2_with fail
  go_at_call 87
  refine Post.use HSP17.out HNE.out (fun h0 => name_nm hE HS19.rd) (be HS19.fp) ?_
  intro x21 s21 v21 w21 hsp21 hv21 hr21 hf21
  obtain ⟨t21, a21, rfl, rfl, ha21, ht21⟩ := hv21
  clear a20
  have HS22 := Lib.hid (((HS19.go hr21 hf21).tree (t := .mk 14 t21 0 a21 []) (v := .agg #[.int .i64 14, .string t21, .int .i64 0, .int .i64 a21, .slice none 0 0]) (LiesP.leaf ok_lit ok_lit ha21 ht21)).pn 14 t21 0 a21 (.slice none 0 0)); try simp only [sz] at HS22
  have a23 := J3 (F5 HS22 M0) (F5 HS22 M1) (F5 HS22 M2)
  have HSP21 := Lib.hid hsp21
  clear hsp21 hr21 hf21
  have HS24 := Lib.hid (HS22.swap.setRow 4 (.slice (some ⟨w21.heap.size, 0, none⟩) 1 1)); try simp only [sz] at HS24
  have a25 := J3 (F5 HS24 M0) (F5 HS24 M1) (F5 HS24 M2)
  go_wp2_with fail
  go_at_call 90
  refine Post.use HSP21.out HNE.out (fun _ => want_any hE HS24.rd ⟨#[41]⟩ [41] rfl) (be HS24.fp) ?_
  intro x26 s26 v26 w26 hsp26 hv26 hr26 hf26
  obtain rfl : v26 = _ := hv26
  clear a23 a25
  have HS27 := Lib.hid (HS24.go hr26 hf26); try simp only [sz] at HS27
  have a28 := J3 (F5 HS27 M0) (F5 HS27 M1) (F5 HS27 M2)
  have HSP26 := Lib.hid hsp26
  clear hsp26 hr26 hf26
  go_wp2_with fail
  go_at_call 87
  refine Post.use HSP26.out HNE.out (fun h0 => name_nm hE HS27.rd) (be HS27.fp) ?_
  intro x29 s29 v29 w29 hsp29 hv29 hr29 hf29
  obtain ⟨t29, a29, rfl, rfl, ha29, ht29⟩ := hv29
  clear a28
  have HS30 := Lib.hid (((HS27.go hr29 hf29).tree (t := .mk 14 t29 0 a29 []) (v := .agg #[.int .i64 14, .string t29, .int .i64 0, .int .i64 a29, .slice none 0 0]) (LiesP.leaf ok_lit ok_lit ha29 ht29)).pn 14 t29 0 a29 (.slice none 0 0)); try simp only [sz] at HS30
  have a31 := J4 (F5 HS30 M0) (F5 HS30 M1) (F5 HS30 M2) (F5 HS30 M3)
  have HSP29 := Lib.hid hsp29
  clear hsp29 hr29 hf29
  go_wp2_with fail
  clear a31
  have hs32 := HS30.drew
  refine wp_region_G [] (fun Wx => Wx.cell? ⟨w29.heap.size, 1, none⟩ = some (.string t29) ∧ Wx.cell? ⟨w9.heap.size, 0, none⟩ = some (.int .i64 12) ∧ Wx.cell? ⟨w9.heap.size, 1, none⟩ = some (.string t9) ∧ Wx.cell? ⟨w9.heap.size, 2, none⟩ = some (.int .i64 0) ∧ Wx.cell? ⟨w9.heap.size, 3, none⟩ = some (.int .i64 a9) ∧ Wx.cell? ⟨w9.heap.size, 4, none⟩ = some (.slice (some ⟨w21.heap.size, 0, none⟩) 1 1)) (by rfl) ?_ (fun hHeld => ?_)
  · exact ⟨hs32.a M0 1, hs32.a M1 0, hs32.a M1 1, hs32.a M1 2, hs32.a M1 3, hs32.a M1 4⟩
  revert hs32 hHeld
  generalize World.drew _ = wd32
  intro hs32 hHeld
  refine tk 0 (h := tk 1 (h := tk 2 (h := tk 3 (h := tk 4 (h := tk 6 (h := ?_))))))
  try simp only [nm]
  refine rd1 5 fun KK hKK => ?_
  go_simp
  go_at_call 150
  refine Post.nd HSP29 HNE (fun h0 => params_rd hE hK.fuel hs32.rd h0) (be hs32.fp) ?_
  intro k33 t33 n33 a33 ks33 s33 A33 cap33 w33 HSP33 hv33 hr33 hf33
  have hs34 := (hs32.read hr33 hf33 hv33); try simp only [sz] at hs34
  clear hs32 hHeld
  refine hKK.out _ _ (⟨hs34.a M0 1, hs34.a M1 0, hs34.a M1 1, hs34.a M1 2, hs34.a M1 3, hs34.a M1 4⟩) (fun hHeld => ?_)
  clear hKK KK
  try simp only [nm]
  refine rd1 7 fun KK hKK => ?_
  go_simp
  go_at_call 140
  refine Post.nd HSP33 HNE (fun h0 => block_rd hE hK hs34.rd h0) (be hs34.fp) ?_
  intro k35 t35 n35 a35 ks35 s35 A35 cap35 w35 HSP35 hv35 hr35 hf35
  have hs36 := (hs34.read hr35 hf35 hv35); try simp only [sz] at hs36
  clear hs34 hHeld
  refine hKK.out _ _ (⟨hs36.a M0 1, hs36.a M1 0, hs36.a M1 1, hs36.a M1 2, hs36.a M1 3, hs36.a M1 4⟩) (fun hHeld => ?_)
  clear hKK KK
  try simp only [nm]
  refine rd1 8 fun KK hKK => ?_
  go_simp
  have hs37 := (hs36.push #[.int .i64 12, .string t9, .int .i64 0, .int .i64 a9, .slice (some ⟨w21.heap.size, 0, none⟩) 1 1, .int .i64 k33, .string t33, .int .i64 n33, .int .i64 a33, .slice A33 ks33.length cap33, .int .i64 k35, .string t35, .int .i64 n35, .int .i64 a35, .slice A35 ks35.length cap35] 25); try simp only [sz] at hs37
  clear hs36
  revert hs37
  generalize World.alloc _ _ = wq38
  intro hs37
  clear hHeld
  refine hKK.out _ _ (⟨hs37.a M1 1, hs37.a M2 0, hs37.a M2 1, hs37.a M2 2, hs37.a M2 3, hs37.a M2 4⟩) (fun hHeld => ?_)
  clear hKK KK
  refine tk 9 (h := ?_)
  try simp only [nm]
  refine rd1 10 fun KK hKK => ?_
  have a39R := F5 hs37 M4
  go_simp
  clear a39R
  have hs40 := (hs37.swap5.set5 (.int .i64 6) (.string t29) (.int .i64 0) (.int .i64 at0) (.slice (some ⟨w35.heap.size, 0, none⟩) 3 3)); try simp only [sz] at hs40
  clear hs37
  revert hs40
  generalize World.setCell _ _ _ = wq41
  intro hs40
  clear hHeld
  refine hKK.out _ _ (⟨hs40.a M2 1, hs40.a M3 0, hs40.a M3 1, hs40.a M3 2, hs40.a M3 3, hs40.a M3 4⟩) (fun hHeld => ?_)
  clear hKK KK
  try simp only [nm]
  refine wpAnyG_done (by kernel_rfl) ?_ _
  have HS42 := Lib.hid hs40; try simp only [sz] at HS42
  clear hs40
  go_wp2_with fail
  have hs45 := ((HS42.swap5.node [(.mk 14 t21 0 a21 [], .agg #[.int .i64 14, .string t21, .int .i64 0, .int .i64 a21, .slice none 0 0])] rfl (memC M3 (mem0 _)) (k := 12) (sx := t9) (n := 0) (a := a9) ok_lit ok_lit ha9 ht9 (l := 1) rfl (by decide)).swap.node [(.mk 12 t9 0 a9 [.mk 14 t21 0 a21 []], .agg #[.int .i64 12, .string t9, .int .i64 0, .int .i64 a9, .slice (some ⟨w21.heap.size, 0, none⟩) 1 1]), (.mk k33 t33 n33 a33 ks33, .agg #[.int .i64 k33, .string t33, .int .i64 n33, .int .i64 a33, .slice A33 ks33.length cap33]), (.mk k35 t35 n35 a35 ks35, .agg #[.int .i64 k35, .string t35, .int .i64 n35, .int .i64 a35, .slice A35 ks35.length cap35])] rfl (memC M0 (memC M2 (memC M1 (mem0 _)))) (k := 6) (sx := t29) (n := 0) (a := at0) ok_lit ok_lit ha0 ht29 (l := 3) rfl (by decide))
  refine St.fin (slot := 4) rfl hs45 rfl (hs45.bx.tr _ M0) ?_
  exact HSP35.out
 | false =>
 have HSP2 := HSP0; try simp only [hp, sm, reduceIte] at HSP2
 go_wp2_with fail
 go_at_call 139
 refine (is_any hE HS1.rd ⟨#[40]⟩ [40] rfl).mono ?_
 rw [hp]
 rintro e w3 ⟨rfl, hb3⟩
 clear a1R
 have HS4 := Lib.hid (HS1.below hb3); try simp only [sz] at HS4
 have a5R := F5 HS4 M0
 clear hb3
 go_wp2_with fail
 go_at_call 87
 refine Post.use HSP2.out HNE.out (fun h0 => name_nm hE HS4.rd) (be HS4.fp) ?_
 intro x6 s6 v6 w6 hsp6 hv6 hr6 hf6
 obtain ⟨t6, a6, rfl, rfl, ha6, ht6⟩ := hv6
 clear a5R
 have HS7 := Lib.hid (((HS4.go hr6 hf6).tree (t := .mk 14 t6 0 a6 []) (v := .agg #[.int .i64 14, .string t6, .int .i64 0, .int .i64 a6, .slice none 0 0]) (LiesP.leaf ok_lit ok_lit ha6 ht6)).pn 14 t6 0 a6 (.slice none 0 0)); try simp only [sz] at HS7
 have a8 := J2 (F5 HS7 M0) (F5 HS7 M1)
 have HSP6 := Lib.hid hsp6
 clear hsp6 hr6 hf6
 go_wp2_with fail
 clear a8
 have hs9 := HS7.drew
 refine wp_region_G [] (fun Wx => Wx.cell? ⟨w6.heap.size, 1, none⟩ = some (.string t6)) (by rfl) ?_ (fun hHeld => ?_)
 · exact hs9.a M0 1
 revert hs9 hHeld
 generalize World.drew _ = wd9
 intro hs9 hHeld
 refine tk 0 (h := tk 1 (h := tk 2 (h := tk 3 (h := tk 5 (h := ?_)))))
 try simp only [nm]
 refine rd1 4 fun KK hKK => ?_
 go_simp
 go_at_call 150
 refine Post.nd HSP6 HNE (fun h0 => params_rd hE hK.fuel hs9.rd h0) (be hs9.fp) ?_
 intro k10 t10 n10 a10 ks10 s10 A10 cap10 w10 HSP10 hv10 hr10 hf10
 have hs11 := (hs9.read hr10 hf10 hv10); try simp only [sz] at hs11
 clear hs9 hHeld
 refine hKK.out _ _ (hs11.a M0 1) (fun hHeld => ?_)
 clear hKK KK
 try simp only [nm]
 refine rd1 6 fun KK hKK => ?_
 go_simp
 go_at_call 140
 refine Post.nd HSP10 HNE (fun h0 => block_rd hE hK hs11.rd h0) (be hs11.fp) ?_
 intro k12 t12 n12 a12 ks12 s12 A12 cap12 w12 HSP12 hv12 hr12 hf12
 have hs13 := (hs11.read hr12 hf12 hv12); try simp only [sz] at hs13
 clear hs11 hHeld
 refine hKK.out _ _ (hs13.a M0 1) (fun hHeld => ?_)
 clear hKK KK
 try simp only [nm]
 refine rd1 7 fun KK hKK => ?_
 go_simp
 have hs14 := (hs13.push #[.int .i64 k10, .string t10, .int .i64 n10, .int .i64 a10, .slice A10 ks10.length cap10, .int .i64 k12, .string t12, .int .i64 n12, .int .i64 a12, .slice A12 ks12.length cap12] 25); try simp only [sz] at hs14
 clear hs13
 revert hs14
 generalize World.alloc _ _ = wq15
 intro hs14
 clear hHeld
 refine hKK.out _ _ (hs14.a M1 1) (fun hHeld => ?_)
 clear hKK KK
 refine tk 8 (h := ?_)
 try simp only [nm]
 refine rd1 9 fun KK hKK => ?_
 have a16R := F5 hs14 M2
 go_simp
 clear a16R
 have hs17 := (hs14.swap3.set5 (.int .i64 5) (.string t6) (.int .i64 0) (.int .i64 at0) (.slice (some ⟨w12.heap.size, 0, none⟩) 2 2)); try simp only [sz] at hs17
 clear hs14
 revert hs17
 generalize World.setCell _ _ _ = wq18
 intro hs17
 clear hHeld
 refine hKK.out _ _ (hs17.a M2 1) (fun hHeld => ?_)
 clear hKK KK
 try simp only [nm]
 refine wpAnyG_done (by kernel_rfl) ?_ _
 have HS19 := Lib.hid hs17; try simp only [sz] at HS19
 clear hs17
 go_wp2_with fail
 have hs21 := (HS19.swap.node [(.mk k10 t10 n10 a10 ks10, .agg #[.int .i64 k10, .string t10, .int .i64 n10, .int .i64 a10, .slice A10 ks10.length cap10]), (.mk k12 t12 n12 a12 ks12, .agg #[.int .i64 k12, .string t12, .int .i64 n12, .int .i64 a12, .slice A12 ks12.length cap12])] rfl (memC M1 (memC M0 (mem0 _))) (k := 5) (sx := t6) (n := 0) (a := at0) ok_lit ok_lit ha0 ht6 (l := 2) rfl (by decide))
 refine St.fin (slot := 4) rfl hs21 rfl (hs21.bx.tr _ M0) ?_
 exact HSP12.out

end
end Go.Proofs.YtokhfhibdeneeaaGreatDoor
