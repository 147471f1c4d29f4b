/- index. index: the method. -/
import Derived.Test.YtokhfhibdeneeaaGreatDoorMPaM
import Derived.Test.YtokhfhibdeneeaaGreatDoorMLiesP
namespace Go.Proofs.YtokhfhibdeneeaaGreatDoor
open Go.RowKit
section
variable {E : Env} {M : Rm} {w0 W w1 W' : World} {rows : List Rw} {gs : Option Gv} {ts : List (Nd × Value)} {st s s' : Rs} {K : Kn} {g : Gv}

set_option maxRecDepth 100000 in
set_option maxHeartbeats 60000000 in
theorem index1_clo (hE : EnvOk E M) (hK : KOK E M K) {rb nb C : Nat} (hC : C ≤ 1000000) (hrb : (rb, #[.pointer (some ⟨M.bp, 0, none⟩)], 75) ∈ rows) :
 Clo E M w0.heap.size (InvG E M w0 rows nb) (fun a => a.kids.length) C 3 232 #[.pointer (some ⟨rb, 0, none⟩), .pointer (some ⟨nb, 0, none⟩)] (indexM E K) := by
 refine ⟨fun W => rfl, fun a s W hr hi hc hne => ?_⟩
 obtain ⟨g, hgn, rfl, hbx, htb⟩ := hi
 obtain ⟨nb', k, sx, n, a, v, xs⟩ := g
 obtain rfl : nb' = nb := hgn
 obtain ⟨R, HR⟩ : ∃ R, Hid ((indexM E K) (Gv.nd ⟨nb', k, sx, n, a, v, xs⟩) s = R) := ⟨_, rfl⟩
 have hneR : R ≠ .out := by rw [← HR.out]; exact hne
 rw [HR.out]
 have HNE := Lib.hid hneR
 have HSP0 : Hid (((if isT E s [58] then .ok (noneN E s) s else K.expr s).bind fun x s => indexT E K (Gv.nd ⟨nb', k, sx, n, a, v, xs⟩) x s : Rr Nd) = R) := HR.out
 have hst : St E M w0 rows (some ⟨nb', k, sx, n, a, v, xs⟩) [] s W := ⟨hr, hbx, htb⟩
 obtain ⟨A, cap, hv, hc1, hc2⟩ := row_form hst.gown
 have hv' : v = .slice A xs.length cap := hv
 subst hv'
 have hxc : xs.length ≤ C := by simpa [Gv.nd, Nd.kids] using hc
 have hxl : xs.length ≤ 1000000 := Nat.le_trans hxc hC
 have hc1' : xs.length ≤ cap := hc1
 have hbd : ((xs.length : Int) < (xs.length : Int) + 1) = True := by simp; omega
 have HB0 := Lib.hid hbx.fp
 obtain ⟨i0, hi0, hz0, hz1, hz2⟩ := info_parts infoNd
 clear hneR hne HR hr hbx hv hc htb hc1 hxc
 have hfi0 := fieldTok0
 have hfi1 := fieldTok1
 have hfi2 := fieldTok2
 have hfn0 := fieldNd0
 have hfn1 := fieldNd1
 have a1B := hst.bx.c1 hrb
 have gg1 := hst.gcells
 have HS0 := Lib.hid hst
 clear hst
 go_enter Tryz.func232, Tryz.ntmps232
 go_wp2_with fail
 go_at_call 145
 refine (none_rd hE HS0.rd).mono ?_
 rintro e w2 ⟨rfl, hb2⟩
 have hu2 : W.heap.size ≤ w2.heap.size := by have h0 := hb2.size; (try simp only [sz] at h0); omega
 clear a1B gg1
 have HS3 := Lib.hid ((HS0.below hb2).push #[.int .i64 16, .string ⟨#[]⟩, .int .i64 0, .int .i64 (cur E s).at_, .slice none 0 0] 25); try simp only [sz] at HS3
 have a4 := J2 (F5 HS3 M0) (F1 HS3 (U1 hrb))
 have gg4 := HS3.gcells
 clear hb2
 obtain ⟨b0, hb0⟩ : ∃ b, isT E s [58] = b := ⟨_, rfl⟩
 go_wp2_with fail
 go_at_call 139
 refine (is_any hE HS3.rd ⟨#[58]⟩ [58] rfl).mono ?_
 rw [hb0]
 rintro e w5 ⟨rfl, hb5⟩
 have hu5 : W.heap.size ≤ w5.heap.size := by have h0 := hb5.size; (try simp only [sz] at h0); omega
 clear a4 gg4
 have HS6 := Lib.hid (HS3.below hb5); try simp only [sz] at HS6
 have a7 := J2 (F5 HS6 M0) (F1 HS6 (U1 hrb))
 have gg7 := HS6.gcells
 clear hb5
 go_upto_if 9 with fail
 go_cut [] (fun wx => ∃ (s1 : Rs) (k1 : Int) (t1 : ByteArray) (n1 a1 : Int) (ks1 : List Nd) (A1 : Option Addr) (cap1 : Nat), Hid (St E M w0 ((w2.heap.size, #[.int .i64 k1, .string t1, .int .i64 n1, .int .i64 a1, .slice A1 ks1.length cap1], 25) :: rows) (some ⟨nb', k, sx, n, a, .slice A xs.length cap, xs⟩) [(Nd.mk k1 t1 n1 a1 ks1, Value.agg #[.int .i64 k1, .string t1, .int .i64 n1, .int .i64 a1, .slice A1 ks1.length cap1])] s1 wx) ∧ Hid (indexT E K (Gv.nd ⟨nb', k, sx, n, a, .slice A xs.length cap, xs⟩) (Nd.mk k1 t1 n1 a1 ks1) s1 = R) ∧ W.heap.size ≤ wx.heap.size)
 case first =>
  cases b0 with
  | true =>
   have HSP8 := HSP0; try simp only [hb0, sm, reduceIte] at HSP8
   go_wp2_with fail
   go_meet
   exact ⟨s, _, _, _, _, [], none, 0, (HS6.tree (t := .mk 16 ⟨#[]⟩ 0 (cur E s).at_ []) (v := .agg #[.int .i64 16, .string ⟨#[]⟩, .int .i64 0, .int .i64 (cur E s).at_, .slice none 0 0]) (LiesP.leaf ok_lit ok_lit (hE.at_ _) (by decide))), HSP8.out, (by (try simp only [sz]); omega)⟩
  | false =>
  have HSP8 := HSP0; try simp only [hb0, sm, reduceIte] at HSP8
  go_wp2_with fail
  go_at_call 37
  refine Post.use HSP8.out HNE.out (fun h0 => hK.expr _ _ HS6.rd h0) (fun i W' hi hf => ⟨rfl, clo_bad hi (foot_of HB0.out (HS6.fp.trans hf) (by have h0 := Foot.size hf; (try simp only [sz] at h0); omega))⟩) ?_
  intro x9 s9 v9 w9 hsp9 hv9 hr9 hf9
  have hu9 : W.heap.size ≤ w9.heap.size := by have h0 := Foot.size hf9; (try simp only [sz] at h0); omega
  obtain ⟨k9, t9, n9, a9, ks9⟩ := x9
  obtain ⟨A9, cap9, rfl⟩ := VNd.form hv9
  clear a7 gg7
  have HS10 := Lib.hid (HS6.read hr9 hf9 hv9); try simp only [sz] at HS10
  have a11 := J2 (F5 HS10 M0) (F1 HS10 (U1 hrb))
  have gg11 := HS10.gcells
  have HSP9 := Lib.hid hsp9
  clear hsp9 hr9 hf9
  go_wp2_with fail
  go_meet
  exact ⟨_, _, _, _, _, _, _, _, (HS10.set5 (.int .i64 k9) (.string t9) (.int .i64 n9) (.int .i64 a9) (.slice A9 ks9.length cap9)), HSP9.out, (by (try simp only [sz]); omega)⟩
 case rest =>
  obtain ⟨s1, k1, t1, n1, a1, ks1, A1, cap1, HC0, HSC, hu1⟩ := hcut
  have a8 := J2 (F5 HC0 M0) (F1 HC0 (U1 hrb))
  have gg8 := HC0.out.gcells
  go_upto_region 3 with fail
  go_cut [] (fun wx => ∃ (b capb : Nat), Hid (St E M w0 rows (some ⟨nb', k, sx, n, a, .slice (some ⟨b, 0, none⟩) (xs.length + 1) capb, xs ++ [(Nd.mk k1 t1 n1 a1 ks1, Value.agg #[.int .i64 k1, .string t1, .int .i64 n1, .int .i64 a1, .slice A1 ks1.length cap1])]⟩) [(Nd.mk k1 t1 n1 a1 ks1, Value.agg #[.int .i64 k1, .string t1, .int .i64 n1, .int .i64 a1, .slice A1 ks1.length cap1])] s1 wx) ∧ W.heap.size ≤ wx.heap.size)
  case first =>
   go_wp2_with fail
   clear a8 gg8
   have hs9 := HC0.out.drew
   refine wp_region_G [5] (fun Wx => Wx.cell? ⟨nb', 4, none⟩ = some (.slice A xs.length cap) ∧ Wx.cell? ⟨w2.heap.size, 0, none⟩ = some (.int .i64 k1) ∧ Wx.cell? ⟨w2.heap.size, 1, none⟩ = some (.string t1) ∧ Wx.cell? ⟨w2.heap.size, 2, none⟩ = some (.int .i64 n1) ∧ Wx.cell? ⟨w2.heap.size, 3, none⟩ = some (.int .i64 a1) ∧ Wx.cell? ⟨w2.heap.size, 4, none⟩ = some (.slice A1 ks1.length cap1)) (by rfl) ?_ (fun hHeld => ?_)
   · exact ⟨hs9.gcells.2.2.2.2.1, hs9.a M0 0, hs9.a M0 1, hs9.a M0 2, hs9.a M0 3, hs9.a M0 4⟩
   have hu9 := hu_drew hs9 (x := W.heap.size) (by (try simp only [sz]); omega)
   revert hs9 hHeld hu9
   generalize World.drew _ = wd9
   intro hs9 hHeld hu9
   refine tk 0 (h := tk 1 (h := tk 2 (h := tk 3 (h := ?_))))
   try simp only [nm]
   refine rd1 4 fun KK hKK => ?_
   go_simp
   have hs10 := (hs9.pz); try simp only [sz] at hs10
   clear hs9
   have hu11 := hu_push hs10 (x := W.heap.size) hu9
   revert hs10 hu11
   generalize World.alloc _ _ = wq11
   intro hs10 hu11
   clear hHeld
   refine hKK.out _ _ (⟨hs10.gcells.2.2.2.2.1, hs10.a M1 0, hs10.a M1 1, hs10.a M1 2, hs10.a M1 3, hs10.a M1 4⟩) (fun hHeld => ?_)
   clear hKK KK
   try simp only [nm]
   refine rl1 5 fun KK hKK => ?_
   refine apl 13 16 hs10 M0 xs.length (h := ?_)
   intro b12 capb12 w12 ho12 hg12 hb12 hbl12
   obtain ⟨he12, ef12, n412, nf12, hne12, hbox12, hlen12⟩ := hs10.newElem rfl ho12 hg12 hb12
   obtain ⟨e12_0, e12_1, e12_2, e12_3, e12_4⟩ := he12
   have hnx12 : (nb' = b12) = False := by simpa using fun e => hne12 e.symm
   have hny12 : (b12 = nb') = False := by simpa using hne12
   have HSF12 := Lib.hid (And.intro hs10 (And.intro ho12 (And.intro hg12 (And.intro hb12 (And.intro hbox12 hlen12)))))
   clear hs10 ho12 hg12 hb12 hHeld
   refine hKK.out _ _ ?_
   clear hKK KK
   refine tq 6 (h := tq 8 (h := ?_))
   try simp only [nm]
   refine wpAny_ready' (rs := [7, 9]) (by kernel_rfl) (by simp) ?_
   refine allReady_cons rfl (fun KK hKK => ?_) (allReady_cons rfl (fun KK hKK => ?_) allReady_nil)
   ·
    go_simp
    refine hKK.out _ _ ?_
    clear hKK KK
    try simp only [nm]
    refine rp1 9 fun KK hKK => ?_
    go_simp
    refine hKK.out _ _ ?_
    clear hKK KK
    try simp only [nm]
    refine wpAny_done (by kernel_rfl) ?_ _
    go_wp2_with fail
    go_meet
    have hA12 := AppSt.fin (lo := w0.heap.size) (((AppSt.init HSF12.out.2.1 HSF12.out.2.2.2.2.1).elem (fun e => hne12 e.symm) (xs.length * 5) (.int .i64 k1) (.string t1) (.int .i64 n1) (.int .i64 a1) (.slice A1 ks1.length cap1)).box_ (fun e => hne12 e.symm) (.slice (some ⟨b12, 0, none⟩) (xs.length + 1) capb12)) (set5_list _ _ _ _ _ _ _ _ _ _ _ HSF12.out.2.2.2.2.2)
    have hs := (HSF12.out.1.appendedN (m := xs.length) (N := 1) (zs := [.int .i64 0, .string ⟨#[]⟩, .int .i64 0, .int .i64 0, .slice none 0 0]) rfl rfl HSF12.out.2.1 HSF12.out.2.2.1 HSF12.out.2.2.2.1 (ys := [(.mk k1 t1 n1 a1 ks1, .agg #[.int .i64 k1, .string t1, .int .i64 n1, .int .i64 a1, .slice A1 ks1.length cap1])]) (memC M0 (mem0 _)) hA12 rfl).retire.retire
    exact ⟨_, _, hs, by rw [hA12.size]; have h0 := HSF12.out.2.2.1.size; (try simp only [sz] at h0); omega⟩
   ·
    go_simp
    refine hKK.out _ _ ?_
    clear hKK KK
    try simp only [nm]
    refine rp1 7 fun KK hKK => ?_
    go_simp
    refine hKK.out _ _ ?_
    clear hKK KK
    try simp only [nm]
    refine wpAny_done (by kernel_rfl) ?_ _
    go_wp2_with fail
    go_meet
    have hA12 := AppSt.fin (lo := w0.heap.size) (((AppSt.init HSF12.out.2.1 HSF12.out.2.2.2.2.1).box_ (fun e => hne12 e.symm) (.slice (some ⟨b12, 0, none⟩) (xs.length + 1) capb12)).elem (fun e => hne12 e.symm) (xs.length * 5) (.int .i64 k1) (.string t1) (.int .i64 n1) (.int .i64 a1) (.slice A1 ks1.length cap1)) (set5_list _ _ _ _ _ _ _ _ _ _ _ HSF12.out.2.2.2.2.2)
    have hs := (HSF12.out.1.appendedN (m := xs.length) (N := 1) (zs := [.int .i64 0, .string ⟨#[]⟩, .int .i64 0, .int .i64 0, .slice none 0 0]) rfl rfl HSF12.out.2.1 HSF12.out.2.2.1 HSF12.out.2.2.2.1 (ys := [(.mk k1 t1 n1 a1 ks1, .agg #[.int .i64 k1, .string t1, .int .i64 n1, .int .i64 a1, .slice A1 ks1.length cap1])]) (memC M0 (mem0 _)) hA12 rfl).retire.retire
    exact ⟨_, _, hs, by rw [hA12.size]; have h0 := HSF12.out.2.2.1.size; (try simp only [sz] at h0); omega⟩
  case rest =>
   clear HC0
   obtain ⟨b, capb, HD0, hu2⟩ := hcut
   have a9B := HD0.out.bx.c1 hrb
   have gg9 := HD0.out.gcells
   have hspu := HSC.out
   unfold indexT at hspu
   have HSU := Lib.hid hspu
   clear hspu
   cases ht : isT E s1 [58] with
   | true =>
    have HSP10 := HSU; try simp only [ht, reduceIte] at HSP10
    have htk10 : takeS E [58] s1 = adv s1 1 := by rw [takeS, ht]; rfl
    go_wp2_with fail
    go_at_call 86
    refine (take_any hE HD0.out.rd ⟨#[58]⟩ [58] rfl).mono ?_
    rw [ht]
    rw [htk10]
    rintro e w11 ⟨rfl, hr11, hf11⟩
    have hu11 : W.heap.size ≤ w11.heap.size := by have h0 := Foot.size hf11; (try simp only [sz] at h0); omega
    clear a9B gg9
    have HS12 := Lib.hid (HD0.out.go hr11 hf11); try simp only [sz] at HS12
    have a13B := HS12.bx.c1 hrb
    have gg13 := HS12.gcells
    clear hr11 hf11
    go_upto_region 6 with fail
    clear a13B gg13
    have HS14 := Lib.hid (HS12.gkind (k' := 47) ok_lit); try simp only at HS14
    have a15B := HS14.bx.c1 hrb
    have gg15 := HS14.gcells
    go_cut [3, 4] (fun s3 s4 wx => ∃ (b3 b4 : Nat), s3 = .pointer (some ⟨b3, 0, none⟩) ∧ s4 = .pointer (some ⟨b4, 0, none⟩) ∧ Hid (St E M w0 ((b3, #[.int .i64 16, .string ⟨#[]⟩, .int .i64 0, .int .i64 (cur E (adv s1 1)).at_, .slice none 0 0], 25) :: (b4, #[.int .i64 16, .string ⟨#[]⟩, .int .i64 0, .int .i64 (cur E (adv s1 1)).at_, .slice none 0 0], 25) :: rows) (some ⟨nb', 47, sx, n, a, .slice (some ⟨b, 0, none⟩) (xs.length + 1) capb, xs ++ [(Nd.mk k1 t1 n1 a1 ks1, Value.agg #[.int .i64 k1, .string t1, .int .i64 n1, .int .i64 a1, .slice A1 ks1.length cap1])]⟩) [(Nd.mk k1 t1 n1 a1 ks1, Value.agg #[.int .i64 k1, .string t1, .int .i64 n1, .int .i64 a1, .slice A1 ks1.length cap1])] (adv s1 1) wx) ∧ W.heap.size ≤ wx.heap.size)
    case first =>
     go_wp2_with fail
     clear a15B gg15
     have hs16 := HS14.drew
     refine wp_region_G [] (fun Wx => Wx.cell? ⟨rb, 0, none⟩ = some (.pointer (some ⟨M.bp, 0, none⟩))) (by rfl) ?_ (fun hHeld => ?_)
     · exact hs16.a hrb 0
     have hu16 := hu_drew hs16 (x := W.heap.size) (by (try simp only [sz]); omega)
     revert hs16 hHeld hu16
     generalize World.drew _ = wd16
     intro hs16 hHeld hu16
     refine tk 0 (h := tk 2 (h := ?_))
     try simp only [nm]
     refine wpAnyG_ready (rs := [1, 4, 5]) (by kernel_rfl) (by simp) ?_
     refine AllReadyG.cons rfl (fun KK hKK => ?_) (AllReadyG.cons rfl (fun KK hKK => ?_) (AllReadyG.cons rfl (fun KK hKK => ?_) AllReadyG.nil))
     ·
      go_simp
      go_at_call 145
      refine (none_rd hE hs16.rd).mono ?_
      rintro e w17 ⟨rfl, hb17⟩
      have hu17 : W.heap.size ≤ w17.heap.size := by have h0 := hb17.size; (try simp only [sz] at h0); omega
      have hs18 := (hs16.below hb17); try simp only [sz] at hs18
      clear hs16 hHeld
      refine hKK.out _ _ (hs18.a hrb 0) (fun hHeld => ?_)
      clear hKK KK
      try simp only [nm]
      refine wpAnyG_ready (rs := [3, 4, 5]) (by kernel_rfl) (by simp) ?_
      refine AllReadyG.cons rfl (fun KK hKK => ?_) (AllReadyG.cons rfl (fun KK hKK => ?_) (AllReadyG.cons rfl (fun KK hKK => ?_) AllReadyG.nil))
      ·
       go_simp
       go_at_call 145
       refine (none_rd hE hs18.rd).mono ?_
       rintro e w19 ⟨rfl, hb19⟩
       have hu19 : W.heap.size ≤ w19.heap.size := by have h0 := hb19.size; (try simp only [sz] at h0); omega
       have hs20 := (hs18.below hb19); try simp only [sz] at hs20
       clear hs18 hHeld
       refine hKK.out _ _ (hs20.a hrb 0) (fun hHeld => ?_)
       clear hKK KK
       try simp only [nm]
       refine wpAnyG_ready (rs := [4, 5]) (by kernel_rfl) (by simp) ?_
       refine AllReadyG.cons rfl (fun KK hKK => ?_) (AllReadyG.cons rfl (fun KK hKK => ?_) AllReadyG.nil)
       ·
        go_simp
        have hs21 := (hs20.pz); try simp only [sz] at hs21
        clear hs20
        have hu22 := hu_push hs21 (x := W.heap.size) hu19
        revert hs21 hu22
        generalize World.alloc _ _ = wq22
        intro hs21 hu22
        clear hHeld
        refine hKK.out _ _ (hs21.a (U1 hrb) 0) (fun hHeld => ?_)
        clear hKK KK
        try simp only [nm]
        refine rd1 5 fun KK hKK => ?_
        go_simp
        have hs23 := (hs21.pz); try simp only [sz] at hs23
        clear hs21
        have hu24 := hu_push hs23 (x := W.heap.size) hu22
        revert hs23 hu24
        generalize World.alloc _ _ = wq24
        intro hs23 hu24
        clear hHeld
        refine hKK.out _ _ (hs23.a (U2 hrb) 0) (fun hHeld => ?_)
        clear hKK KK
        try simp only [nm]
        refine rd1 6 fun KK hKK => ?_
        have a25J := F5 hs23 M1
        go_simp
        clear a25J
        have hs26 := (hs23.swap.set5 (.int .i64 16) (.string ⟨#[]⟩) (.int .i64 0) (.int .i64 (cur E (adv s1 1)).at_) (.slice none 0 0)); try simp only [sz] at hs26
        clear hs23
        have hu27 := hu_set hs26 (x := W.heap.size) (by simpa using hu24)
        revert hs26 hu27
        generalize World.setCell _ _ _ = wq27
        intro hs26 hu27
        clear hHeld
        refine hKK.out _ _ (hs26.a (U2 hrb) 0) (fun hHeld => ?_)
        clear hKK KK
        try simp only [nm]
        refine rd1 7 fun KK hKK => ?_
        have a28K := F5 hs26 M1
        go_simp
        clear a28K
        have hs29 := (hs26.swap.set5 (.int .i64 16) (.string ⟨#[]⟩) (.int .i64 0) (.int .i64 (cur E (adv s1 1)).at_) (.slice none 0 0)); try simp only [sz] at hs29
        clear hs26
        have hu30 := hu_set hs29 (x := W.heap.size) (by simpa using hu27)
        revert hs29 hu30
        generalize World.setCell _ _ _ = wq30
        intro hs29 hu30
        clear hHeld
        refine hKK.out _ _ (hs29.a (U2 hrb) 0) (fun hHeld => ?_)
        clear hKK KK
        try simp only [nm]
        refine wpAnyG_done (by kernel_rfl) ?_ _
        go_wp2_with fail
        go_meet
        exact ⟨_, _, rfl, rfl, hs29.swap, (by (try simp only [sz]); omega)⟩
       ·
        go_simp
        have hs21 := (hs20.pz); try simp only [sz] at hs21
        clear hs20
        have hu22 := hu_push hs21 (x := W.heap.size) hu19
        revert hs21 hu22
        generalize World.alloc _ _ = wq22
        intro hs21 hu22
        clear hHeld
        refine hKK.out _ _ (hs21.a (U1 hrb) 0) (fun hHeld => ?_)
        clear hKK KK
        try simp only [nm]
        refine rd1 4 fun KK hKK => ?_
        go_simp
        have hs23 := (hs21.pz); try simp only [sz] at hs23
        clear hs21
        have hu24 := hu_push hs23 (x := W.heap.size) hu22
        revert hs23 hu24
        generalize World.alloc _ _ = wq24
        intro hs23 hu24
        clear hHeld
        refine hKK.out _ _ (hs23.a (U2 hrb) 0) (fun hHeld => ?_)
        clear hKK KK
        try simp only [nm]
        refine rd1 6 fun KK hKK => ?_
        have a25J := F5 hs23 M0
        go_simp
        clear a25J
        have hs26 := (hs23.set5 (.int .i64 16) (.string ⟨#[]⟩) (.int .i64 0) (.int .i64 (cur E (adv s1 1)).at_) (.slice none 0 0)); try simp only [sz] at hs26
        clear hs23
        have hu27 := hu_set hs26 (x := W.heap.size) (by simpa using hu24)
        revert hs26 hu27
        generalize World.setCell _ _ _ = wq27
        intro hs26 hu27
        clear hHeld
        refine hKK.out _ _ (hs26.a (U2 hrb) 0) (fun hHeld => ?_)
        clear hKK KK
        try simp only [nm]
        refine rd1 7 fun KK hKK => ?_
        have a28K := F5 hs26 M1
        go_simp
        clear a28K
        have hs29 := (hs26.swap.set5 (.int .i64 16) (.string ⟨#[]⟩) (.int .i64 0) (.int .i64 (cur E (adv s1 1)).at_) (.slice none 0 0)); try simp only [sz] at hs29
        clear hs26
        have hu30 := hu_set hs29 (x := W.heap.size) (by simpa using hu27)
        revert hs29 hu30
        generalize World.setCell _ _ _ = wq30
        intro hs29 hu30
        clear hHeld
        refine hKK.out _ _ (hs29.a (U2 hrb) 0) (fun hHeld => ?_)
        clear hKK KK
        try simp only [nm]
        refine wpAnyG_done (by kernel_rfl) ?_ _
        go_wp2_with fail
        go_meet
        exact ⟨_, _, rfl, rfl, hs29.swap, (by (try simp only [sz]); omega)⟩
      ·
       go_simp
       have hs19 := (hs18.pz); try simp only [sz] at hs19
       clear hs18
       have hu20 := hu_push hs19 (x := W.heap.size) hu17
       revert hs19 hu20
       generalize World.alloc _ _ = wq20
       intro hs19 hu20
       clear hHeld
       refine hKK.out _ _ (hs19.a (U1 hrb) 0) (fun hHeld => ?_)
       clear hKK KK
       try simp only [nm]
       refine wpAnyG_ready (rs := [3, 5]) (by kernel_rfl) (by simp) ?_
       refine AllReadyG.cons rfl (fun KK hKK => ?_) (AllReadyG.cons rfl (fun KK hKK => ?_) AllReadyG.nil)
       ·
        go_simp
        go_at_call 145
        refine (none_rd hE hs19.rd).mono ?_
        rintro e w21 ⟨rfl, hb21⟩
        have hu21 : W.heap.size ≤ w21.heap.size := by have h0 := hb21.size; (try simp only [sz] at h0); omega
        have hs22 := (hs19.below hb21); try simp only [sz] at hs22
        clear hs19 hHeld
        refine hKK.out _ _ (hs22.a (U1 hrb) 0) (fun hHeld => ?_)
        clear hKK KK
        try simp only [nm]
        refine rd1 5 fun KK hKK => ?_
        go_simp
        have hs23 := (hs22.pz); try simp only [sz] at hs23
        clear hs22
        have hu24 := hu_push hs23 (x := W.heap.size) hu21
        revert hs23 hu24
        generalize World.alloc _ _ = wq24
        intro hs23 hu24
        clear hHeld
        refine hKK.out _ _ (hs23.a (U2 hrb) 0) (fun hHeld => ?_)
        clear hKK KK
        try simp only [nm]
        refine rd1 6 fun KK hKK => ?_
        have a25J := F5 hs23 M1
        go_simp
        clear a25J
        have hs26 := (hs23.swap.set5 (.int .i64 16) (.string ⟨#[]⟩) (.int .i64 0) (.int .i64 (cur E (adv s1 1)).at_) (.slice none 0 0)); try simp only [sz] at hs26
        clear hs23
        have hu27 := hu_set hs26 (x := W.heap.size) (by simpa using hu24)
        revert hs26 hu27
        generalize World.setCell _ _ _ = wq27
        intro hs26 hu27
        clear hHeld
        refine hKK.out _ _ (hs26.a (U2 hrb) 0) (fun hHeld => ?_)
        clear hKK KK
        try simp only [nm]
        refine rd1 7 fun KK hKK => ?_
        have a28K := F5 hs26 M1
        go_simp
        clear a28K
        have hs29 := (hs26.swap.set5 (.int .i64 16) (.string ⟨#[]⟩) (.int .i64 0) (.int .i64 (cur E (adv s1 1)).at_) (.slice none 0 0)); try simp only [sz] at hs29
        clear hs26
        have hu30 := hu_set hs29 (x := W.heap.size) (by simpa using hu27)
        revert hs29 hu30
        generalize World.setCell _ _ _ = wq30
        intro hs29 hu30
        clear hHeld
        refine hKK.out _ _ (hs29.a (U2 hrb) 0) (fun hHeld => ?_)
        clear hKK KK
        try simp only [nm]
        refine wpAnyG_done (by kernel_rfl) ?_ _
        go_wp2_with fail
        go_meet
        exact ⟨_, _, rfl, rfl, hs29.swap, (by (try simp only [sz]); omega)⟩
       ·
        go_simp
        have hs21 := (hs19.pz); try simp only [sz] at hs21
        clear hs19
        have hu22 := hu_push hs21 (x := W.heap.size) hu20
        revert hs21 hu22
        generalize World.alloc _ _ = wq22
        intro hs21 hu22
        clear hHeld
        refine hKK.out _ _ (hs21.a (U2 hrb) 0) (fun hHeld => ?_)
        clear hKK KK
        try simp only [nm]
        refine rd1 3 fun KK hKK => ?_
        go_simp
        go_at_call 145
        refine (none_rd hE hs21.rd).mono ?_
        rintro e w23 ⟨rfl, hb23⟩
        have hu23 : W.heap.size ≤ w23.heap.size := by have h0 := hb23.size; (try simp only [sz] at h0); omega
        have hs24 := (hs21.below hb23); try simp only [sz] at hs24
        clear hs21 hHeld
        refine hKK.out _ _ (hs24.a (U2 hrb) 0) (fun hHeld => ?_)
        clear hKK KK
        try simp only [nm]
        refine rd1 6 fun KK hKK => ?_
        have a25J := F5 hs24 M1
        go_simp
        clear a25J
        have hs26 := (hs24.swap.set5 (.int .i64 16) (.string ⟨#[]⟩) (.int .i64 0) (.int .i64 (cur E (adv s1 1)).at_) (.slice none 0 0)); try simp only [sz] at hs26
        clear hs24
        have hu27 := hu_set hs26 (x := W.heap.size) (by simpa using hu23)
        revert hs26 hu27
        generalize World.setCell _ _ _ = wq27
        intro hs26 hu27
        clear hHeld
        refine hKK.out _ _ (hs26.a (U2 hrb) 0) (fun hHeld => ?_)
        clear hKK KK
        try simp only [nm]
        refine rd1 7 fun KK hKK => ?_
        have a28K := F5 hs26 M1
        go_simp
        clear a28K
        have hs29 := (hs26.swap.set5 (.int .i64 16) (.string ⟨#[]⟩) (.int .i64 0) (.int .i64 (cur E (adv s1 1)).at_) (.slice none 0 0)); try simp only [sz] at hs29
        clear hs26
        have hu30 := hu_set hs29 (x := W.heap.size) (by simpa using hu27)
        revert hs29 hu30
        generalize World.setCell _ _ _ = wq30
        intro hs29 hu30
        clear hHeld
        refine hKK.out _ _ (hs29.a (U2 hrb) 0) (fun hHeld => ?_)
        clear hKK KK
        try simp only [nm]
        refine wpAnyG_done (by kernel_rfl) ?_ _
        go_wp2_with fail
        go_meet
        exact ⟨_, _, rfl, rfl, hs29.swap, (by (try simp only [sz]); omega)⟩
      ·
       go_simp
       have hs19 := (hs18.pz); try simp only [sz] at hs19
       clear hs18
       have hu20 := hu_push hs19 (x := W.heap.size) hu17
       revert hs19 hu20
       generalize World.alloc _ _ = wq20
       intro hs19 hu20
       clear hHeld
       refine hKK.out _ _ (hs19.a (U1 hrb) 0) (fun hHeld => ?_)
       clear hKK KK
       try simp only [nm]
       refine wpAnyG_ready (rs := [3, 4]) (by kernel_rfl) (by simp) ?_
       refine AllReadyG.cons rfl (fun KK hKK => ?_) (AllReadyG.cons rfl (fun KK hKK => ?_) AllReadyG.nil)
       ·
        go_simp
        go_at_call 145
        refine (none_rd hE hs19.rd).mono ?_
        rintro e w21 ⟨rfl, hb21⟩
        have hu21 : W.heap.size ≤ w21.heap.size := by have h0 := hb21.size; (try simp only [sz] at h0); omega
        have hs22 := (hs19.below hb21); try simp only [sz] at hs22
        clear hs19 hHeld
        refine hKK.out _ _ (hs22.a (U1 hrb) 0) (fun hHeld => ?_)
        clear hKK KK
        try simp only [nm]
        refine rd1 4 fun KK hKK => ?_
        go_simp
        have hs23 := (hs22.pz); try simp only [sz] at hs23
        clear hs22
        have hu24 := hu_push hs23 (x := W.heap.size) hu21
        revert hs23 hu24
        generalize World.alloc _ _ = wq24
        intro hs23 hu24
        clear hHeld
        refine hKK.out _ _ (hs23.a (U2 hrb) 0) (fun hHeld => ?_)
        clear hKK KK
        try simp only [nm]
        refine rd1 6 fun KK hKK => ?_
        have a25J := F5 hs23 M0
        go_simp
        clear a25J
        have hs26 := (hs23.set5 (.int .i64 16) (.string ⟨#[]⟩) (.int .i64 0) (.int .i64 (cur E (adv s1 1)).at_) (.slice none 0 0)); try simp only [sz] at hs26
        clear hs23
        have hu27 := hu_set hs26 (x := W.heap.size) (by simpa using hu24)
        revert hs26 hu27
        generalize World.setCell _ _ _ = wq27
        intro hs26 hu27
        clear hHeld
        refine hKK.out _ _ (hs26.a (U2 hrb) 0) (fun hHeld => ?_)
        clear hKK KK
        try simp only [nm]
        refine rd1 7 fun KK hKK => ?_
        have a28K := F5 hs26 M1
        go_simp
        clear a28K
        have hs29 := (hs26.swap.set5 (.int .i64 16) (.string ⟨#[]⟩) (.int .i64 0) (.int .i64 (cur E (adv s1 1)).at_) (.slice none 0 0)); try simp only [sz] at hs29
        clear hs26
        have hu30 := hu_set hs29 (x := W.heap.size) (by simpa using hu27)
        revert hs29 hu30
        generalize World.setCell _ _ _ = wq30
        intro hs29 hu30
        clear hHeld
        refine hKK.out _ _ (hs29.a (U2 hrb) 0) (fun hHeld => ?_)
        clear hKK KK
        try simp only [nm]
        refine wpAnyG_done (by kernel_rfl) ?_ _
        go_wp2_with fail
        go_meet
        exact ⟨_, _, rfl, rfl, hs29.swap, (by (try simp only [sz]); omega)⟩
       ·
        go_simp
        have hs21 := (hs19.pz); try simp only [sz] at hs21
        clear hs19
        have hu22 := hu_push hs21 (x := W.heap.size) hu20
        revert hs21 hu22
        generalize World.alloc _ _ = wq22
        intro hs21 hu22
        clear hHeld
        refine hKK.out _ _ (hs21.a (U2 hrb) 0) (fun hHeld => ?_)
        clear hKK KK
        try simp only [nm]
        refine rd1 3 fun KK hKK => ?_
        go_simp
        go_at_call 145
        refine (none_rd hE hs21.rd).mono ?_
        rintro e w23 ⟨rfl, hb23⟩
        have hu23 : W.heap.size ≤ w23.heap.size := by have h0 := hb23.size; (try simp only [sz] at h0); omega
        have hs24 := (hs21.below hb23); try simp only [sz] at hs24
        clear hs21 hHeld
        refine hKK.out _ _ (hs24.a (U2 hrb) 0) (fun hHeld => ?_)
        clear hKK KK
        try simp only [nm]
        refine rd1 6 fun KK hKK => ?_
        have a25J := F5 hs24 M0
        go_simp
        clear a25J
        have hs26 := (hs24.set5 (.int .i64 16) (.string ⟨#[]⟩) (.int .i64 0) (.int .i64 (cur E (adv s1 1)).at_) (.slice none 0 0)); try simp only [sz] at hs26
        clear hs24
        have hu27 := hu_set hs26 (x := W.heap.size) (by simpa using hu23)
        revert hs26 hu27
        generalize World.setCell _ _ _ = wq27
        intro hs26 hu27
        clear hHeld
        refine hKK.out _ _ (hs26.a (U2 hrb) 0) (fun hHeld => ?_)
        clear hKK KK
        try simp only [nm]
        refine rd1 7 fun KK hKK => ?_
        have a28K := F5 hs26 M1
        go_simp
        clear a28K
        have hs29 := (hs26.swap.set5 (.int .i64 16) (.string ⟨#[]⟩) (.int .i64 0) (.int .i64 (cur E (adv s1 1)).at_) (.slice none 0 0)); try simp only [sz] at hs29
        clear hs26
        have hu30 := hu_set hs29 (x := W.heap.size) (by simpa using hu27)
        revert hs29 hu30
        generalize World.setCell _ _ _ = wq30
        intro hs29 hu30
        clear hHeld
        refine hKK.out _ _ (hs29.a (U2 hrb) 0) (fun hHeld => ?_)
        clear hKK KK
        try simp only [nm]
        refine wpAnyG_done (by kernel_rfl) ?_ _
        go_wp2_with fail
        go_meet
        exact ⟨_, _, rfl, rfl, hs29.swap, (by (try simp only [sz]); omega)⟩
     ·
      go_simp
      have hs17 := (hs16.pz); try simp only [sz] at hs17
      clear hs16
      have hu18 := hu_push hs17 (x := W.heap.size) hu16
      revert hs17 hu18
      generalize World.alloc _ _ = wq18
      intro hs17 hu18
      clear hHeld
      refine hKK.out _ _ (hs17.a (U1 hrb) 0) (fun hHeld => ?_)
      clear hKK KK
      try simp only [nm]
      refine wpAnyG_ready (rs := [1, 5]) (by kernel_rfl) (by simp) ?_
      refine AllReadyG.cons rfl (fun KK hKK => ?_) (AllReadyG.cons rfl (fun KK hKK => ?_) AllReadyG.nil)
      ·
       go_simp
       go_at_call 145
       refine (none_rd hE hs17.rd).mono ?_
       rintro e w19 ⟨rfl, hb19⟩
       have hu19 : W.heap.size ≤ w19.heap.size := by have h0 := hb19.size; (try simp only [sz] at h0); omega
       have hs20 := (hs17.below hb19); try simp only [sz] at hs20
       clear hs17 hHeld
       refine hKK.out _ _ (hs20.a (U1 hrb) 0) (fun hHeld => ?_)
       clear hKK KK
       try simp only [nm]
       refine wpAnyG_ready (rs := [3, 5]) (by kernel_rfl) (by simp) ?_
       refine AllReadyG.cons rfl (fun KK hKK => ?_) (AllReadyG.cons rfl (fun KK hKK => ?_) AllReadyG.nil)
       ·
        go_simp
        go_at_call 145
        refine (none_rd hE hs20.rd).mono ?_
        rintro e w21 ⟨rfl, hb21⟩
        have hu21 : W.heap.size ≤ w21.heap.size := by have h0 := hb21.size; (try simp only [sz] at h0); omega
        have hs22 := (hs20.below hb21); try simp only [sz] at hs22
        clear hs20 hHeld
        refine hKK.out _ _ (hs22.a (U1 hrb) 0) (fun hHeld => ?_)
        clear hKK KK
        try simp only [nm]
        refine rd1 5 fun KK hKK => ?_
        go_simp
        have hs23 := (hs22.pz); try simp only [sz] at hs23
        clear hs22
        have hu24 := hu_push hs23 (x := W.heap.size) hu21
        revert hs23 hu24
        generalize World.alloc _ _ = wq24
        intro hs23 hu24
        clear hHeld
        refine hKK.out _ _ (hs23.a (U2 hrb) 0) (fun hHeld => ?_)
        clear hKK KK
        try simp only [nm]
        refine rd1 6 fun KK hKK => ?_
        have a25J := F5 hs23 M1
        go_simp
        clear a25J
        have hs26 := (hs23.swap.set5 (.int .i64 16) (.string ⟨#[]⟩) (.int .i64 0) (.int .i64 (cur E (adv s1 1)).at_) (.slice none 0 0)); try simp only [sz] at hs26
        clear hs23
        have hu27 := hu_set hs26 (x := W.heap.size) (by simpa using hu24)
        revert hs26 hu27
        generalize World.setCell _ _ _ = wq27
        intro hs26 hu27
        clear hHeld
        refine hKK.out _ _ (hs26.a (U2 hrb) 0) (fun hHeld => ?_)
        clear hKK KK
        try simp only [nm]
        refine rd1 7 fun KK hKK => ?_
        have a28K := F5 hs26 M1
        go_simp
        clear a28K
        have hs29 := (hs26.swap.set5 (.int .i64 16) (.string ⟨#[]⟩) (.int .i64 0) (.int .i64 (cur E (adv s1 1)).at_) (.slice none 0 0)); try simp only [sz] at hs29
        clear hs26
        have hu30 := hu_set hs29 (x := W.heap.size) (by simpa using hu27)
        revert hs29 hu30
        generalize World.setCell _ _ _ = wq30
        intro hs29 hu30
        clear hHeld
        refine hKK.out _ _ (hs29.a (U2 hrb) 0) (fun hHeld => ?_)
        clear hKK KK
        try simp only [nm]
        refine wpAnyG_done (by kernel_rfl) ?_ _
        go_wp2_with fail
        go_meet
        exact ⟨_, _, rfl, rfl, hs29.swap, (by (try simp only [sz]); omega)⟩
       ·
        go_simp
        have hs21 := (hs20.pz); try simp only [sz] at hs21
        clear hs20
        have hu22 := hu_push hs21 (x := W.heap.size) hu19
        revert hs21 hu22
        generalize World.alloc _ _ = wq22
        intro hs21 hu22
        clear hHeld
        refine hKK.out _ _ (hs21.a (U2 hrb) 0) (fun hHeld => ?_)
        clear hKK KK
        try simp only [nm]
        refine rd1 3 fun KK hKK => ?_
        go_simp
        go_at_call 145
        refine (none_rd hE hs21.rd).mono ?_
        rintro e w23 ⟨rfl, hb23⟩
        have hu23 : W.heap.size ≤ w23.heap.size := by have h0 := hb23.size; (try simp only [sz] at h0); omega
        have hs24 := (hs21.below hb23); try simp only [sz] at hs24
        clear hs21 hHeld
        refine hKK.out _ _ (hs24.a (U2 hrb) 0) (fun hHeld => ?_)
        clear hKK KK
        try simp only [nm]
        refine rd1 6 fun KK hKK => ?_
        have a25J := F5 hs24 M1
        go_simp
        clear a25J
        have hs26 := (hs24.swap.set5 (.int .i64 16) (.string ⟨#[]⟩) (.int .i64 0) (.int .i64 (cur E (adv s1 1)).at_) (.slice none 0 0)); try simp only [sz] at hs26
        clear hs24
        have hu27 := hu_set hs26 (x := W.heap.size) (by simpa using hu23)
        revert hs26 hu27
        generalize World.setCell _ _ _ = wq27
        intro hs26 hu27
        clear hHeld
        refine hKK.out _ _ (hs26.a (U2 hrb) 0) (fun hHeld => ?_)
        clear hKK KK
        try simp only [nm]
        refine rd1 7 fun KK hKK => ?_
        have a28K := F5 hs26 M1
        go_simp
        clear a28K
        have hs29 := (hs26.swap.set5 (.int .i64 16) (.string ⟨#[]⟩) (.int .i64 0) (.int .i64 (cur E (adv s1 1)).at_) (.slice none 0 0)); try simp only [sz] at hs29
        clear hs26
        have hu30 := hu_set hs29 (x := W.heap.size) (by simpa using hu27)
        revert hs29 hu30
        generalize World.setCell _ _ _ = wq30
        intro hs29 hu30
        clear hHeld
        refine hKK.out _ _ (hs29.a (U2 hrb) 0) (fun hHeld => ?_)
        clear hKK KK
        try simp only [nm]
        refine wpAnyG_done (by kernel_rfl) ?_ _
        go_wp2_with fail
        go_meet
        exact ⟨_, _, rfl, rfl, hs29.swap, (by (try simp only [sz]); omega)⟩
      ·
       go_simp
       have hs19 := (hs17.pz); try simp only [sz] at hs19
       clear hs17
       have hu20 := hu_push hs19 (x := W.heap.size) hu18
       revert hs19 hu20
       generalize World.alloc _ _ = wq20
       intro hs19 hu20
       clear hHeld
       refine hKK.out _ _ (hs19.a (U2 hrb) 0) (fun hHeld => ?_)
       clear hKK KK
       try simp only [nm]
       refine rd1 1 fun KK hKK => ?_
       go_simp
       go_at_call 145
       refine (none_rd hE hs19.rd).mono ?_
       rintro e w21 ⟨rfl, hb21⟩
       have hu21 : W.heap.size ≤ w21.heap.size := by have h0 := hb21.size; (try simp only [sz] at h0); omega
       have hs22 := (hs19.below hb21); try simp only [sz] at hs22
       clear hs19 hHeld
       refine hKK.out _ _ (hs22.a (U2 hrb) 0) (fun hHeld => ?_)
       clear hKK KK
       try simp only [nm]
       refine rd1 3 fun KK hKK => ?_
       go_simp
       go_at_call 145
       refine (none_rd hE hs22.rd).mono ?_
       rintro e w23 ⟨rfl, hb23⟩
       have hu23 : W.heap.size ≤ w23.heap.size := by have h0 := hb23.size; (try simp only [sz] at h0); omega
       have hs24 := (hs22.below hb23); try simp only [sz] at hs24
       clear hs22 hHeld
       refine hKK.out _ _ (hs24.a (U2 hrb) 0) (fun hHeld => ?_)
       clear hKK KK
       try simp only [nm]
       refine rd1 6 fun KK hKK => ?_
       have a25J := F5 hs24 M1
       go_simp
       clear a25J
       have hs26 := (hs24.swap.set5 (.int .i64 16) (.string ⟨#[]⟩) (.int .i64 0) (.int .i64 (cur E (adv s1 1)).at_) (.slice none 0 0)); try simp only [sz] at hs26
       clear hs24
       have hu27 := hu_set hs26 (x := W.heap.size) (by simpa using hu23)
       revert hs26 hu27
       generalize World.setCell _ _ _ = wq27
       intro hs26 hu27
       clear hHeld
       refine hKK.out _ _ (hs26.a (U2 hrb) 0) (fun hHeld => ?_)
       clear hKK KK
       try simp only [nm]
       refine rd1 7 fun KK hKK => ?_
       have a28K := F5 hs26 M1
       go_simp
       clear a28K
       have hs29 := (hs26.swap.set5 (.int .i64 16) (.string ⟨#[]⟩) (.int .i64 0) (.int .i64 (cur E (adv s1 1)).at_) (.slice none 0 0)); try simp only [sz] at hs29
       clear hs26
       have hu30 := hu_set hs29 (x := W.heap.size) (by simpa using hu27)
       revert hs29 hu30
       generalize World.setCell _ _ _ = wq30
       intro hs29 hu30
       clear hHeld
       refine hKK.out _ _ (hs29.a (U2 hrb) 0) (fun hHeld => ?_)
       clear hKK KK
       try simp only [nm]
       refine wpAnyG_done (by kernel_rfl) ?_ _
       go_wp2_with fail
       go_meet
       exact ⟨_, _, rfl, rfl, hs29.swap, (by (try simp only [sz]); omega)⟩
     ·
      go_simp
      have hs17 := (hs16.pz); try simp only [sz] at hs17
      clear hs16
      have hu18 := hu_push hs17 (x := W.heap.size) hu16
      revert hs17 hu18
      generalize World.alloc _ _ = wq18
      intro hs17 hu18
      clear hHeld
      refine hKK.out _ _ (hs17.a (U1 hrb) 0) (fun hHeld => ?_)
      clear hKK KK
      try simp only [nm]
      refine wpAnyG_ready (rs := [1, 4]) (by kernel_rfl) (by simp) ?_
      refine AllReadyG.cons rfl (fun KK hKK => ?_) (AllReadyG.cons rfl (fun KK hKK => ?_) AllReadyG.nil)
      ·
       go_simp
       go_at_call 145
       refine (none_rd hE hs17.rd).mono ?_
       rintro e w19 ⟨rfl, hb19⟩
       have hu19 : W.heap.size ≤ w19.heap.size := by have h0 := hb19.size; (try simp only [sz] at h0); omega
       have hs20 := (hs17.below hb19); try simp only [sz] at hs20
       clear hs17 hHeld
       refine hKK.out _ _ (hs20.a (U1 hrb) 0) (fun hHeld => ?_)
       clear hKK KK
       try simp only [nm]
       refine wpAnyG_ready (rs := [3, 4]) (by kernel_rfl) (by simp) ?_
       refine AllReadyG.cons rfl (fun KK hKK => ?_) (AllReadyG.cons rfl (fun KK hKK => ?_) AllReadyG.nil)
       ·
        go_simp
        go_at_call 145
        refine (none_rd hE hs20.rd).mono ?_
        rintro e w21 ⟨rfl, hb21⟩
        have hu21 : W.heap.size ≤ w21.heap.size := by have h0 := hb21.size; (try simp only [sz] at h0); omega
        have hs22 := (hs20.below hb21); try simp only [sz] at hs22
        clear hs20 hHeld
        refine hKK.out _ _ (hs22.a (U1 hrb) 0) (fun hHeld => ?_)
        clear hKK KK
        try simp only [nm]
        refine rd1 4 fun KK hKK => ?_
        go_simp
        have hs23 := (hs22.pz); try simp only [sz] at hs23
        clear hs22
        have hu24 := hu_push hs23 (x := W.heap.size) hu21
        revert hs23 hu24
        generalize World.alloc _ _ = wq24
        intro hs23 hu24
        clear hHeld
        refine hKK.out _ _ (hs23.a (U2 hrb) 0) (fun hHeld => ?_)
        clear hKK KK
        try simp only [nm]
        refine rd1 6 fun KK hKK => ?_
        have a25J := F5 hs23 M0
        go_simp
        clear a25J
        have hs26 := (hs23.set5 (.int .i64 16) (.string ⟨#[]⟩) (.int .i64 0) (.int .i64 (cur E (adv s1 1)).at_) (.slice none 0 0)); try simp only [sz] at hs26
        clear hs23
        have hu27 := hu_set hs26 (x := W.heap.size) (by simpa using hu24)
        revert hs26 hu27
        generalize World.setCell _ _ _ = wq27
        intro hs26 hu27
        clear hHeld
        refine hKK.out _ _ (hs26.a (U2 hrb) 0) (fun hHeld => ?_)
        clear hKK KK
        try simp only [nm]
        refine rd1 7 fun KK hKK => ?_
        have a28K := F5 hs26 M1
        go_simp
        clear a28K
        have hs29 := (hs26.swap.set5 (.int .i64 16) (.string ⟨#[]⟩) (.int .i64 0) (.int .i64 (cur E (adv s1 1)).at_) (.slice none 0 0)); try simp only [sz] at hs29
        clear hs26
        have hu30 := hu_set hs29 (x := W.heap.size) (by simpa using hu27)
        revert hs29 hu30
        generalize World.setCell _ _ _ = wq30
        intro hs29 hu30
        clear hHeld
        refine hKK.out _ _ (hs29.a (U2 hrb) 0) (fun hHeld => ?_)
        clear hKK KK
        try simp only [nm]
        refine wpAnyG_done (by kernel_rfl) ?_ _
        go_wp2_with fail
        go_meet
        exact ⟨_, _, rfl, rfl, hs29.swap, (by (try simp only [sz]); omega)⟩
       ·
        go_simp
        have hs21 := (hs20.pz); try simp only [sz] at hs21
        clear hs20
        have hu22 := hu_push hs21 (x := W.heap.size) hu19
        revert hs21 hu22
        generalize World.alloc _ _ = wq22
        intro hs21 hu22
        clear hHeld
        refine hKK.out _ _ (hs21.a (U2 hrb) 0) (fun hHeld => ?_)
        clear hKK KK
        try simp only [nm]
        refine rd1 3 fun KK hKK => ?_
        go_simp
        go_at_call 145
        refine (none_rd hE hs21.rd).mono ?_
        rintro e w23 ⟨rfl, hb23⟩
        have hu23 : W.heap.size ≤ w23.heap.size := by have h0 := hb23.size; (try simp only [sz] at h0); omega
        have hs24 := (hs21.below hb23); try simp only [sz] at hs24
        clear hs21 hHeld
        refine hKK.out _ _ (hs24.a (U2 hrb) 0) (fun hHeld => ?_)
        clear hKK KK
        try simp only [nm]
        refine rd1 6 fun KK hKK => ?_
        have a25J := F5 hs24 M0
        go_simp
        clear a25J
        have hs26 := (hs24.set5 (.int .i64 16) (.string ⟨#[]⟩) (.int .i64 0) (.int .i64 (cur E (adv s1 1)).at_) (.slice none 0 0)); try simp only [sz] at hs26
        clear hs24
        have hu27 := hu_set hs26 (x := W.heap.size) (by simpa using hu23)
        revert hs26 hu27
        generalize World.setCell _ _ _ = wq27
        intro hs26 hu27
        clear hHeld
        refine hKK.out _ _ (hs26.a (U2 hrb) 0) (fun hHeld => ?_)
        clear hKK KK
        try simp only [nm]
        refine rd1 7 fun KK hKK => ?_
        have a28K := F5 hs26 M1
        go_simp
        clear a28K
        have hs29 := (hs26.swap.set5 (.int .i64 16) (.string ⟨#[]⟩) (.int .i64 0) (.int .i64 (cur E (adv s1 1)).at_) (.slice none 0 0)); try simp only [sz] at hs29
        clear hs26
        have hu30 := hu_set hs29 (x := W.heap.size) (by simpa using hu27)
        revert hs29 hu30
        generalize World.setCell _ _ _ = wq30
        intro hs29 hu30
        clear hHeld
        refine hKK.out _ _ (hs29.a (U2 hrb) 0) (fun hHeld => ?_)
        clear hKK KK
        try simp only [nm]
        refine wpAnyG_done (by kernel_rfl) ?_ _
        go_wp2_with fail
        go_meet
        exact ⟨_, _, rfl, rfl, hs29.swap, (by (try simp only [sz]); omega)⟩
      ·
       go_simp
       have hs19 := (hs17.pz); try simp only [sz] at hs19
       clear hs17
       have hu20 := hu_push hs19 (x := W.heap.size) hu18
       revert hs19 hu20
       generalize World.alloc _ _ = wq20
       intro hs19 hu20
       clear hHeld
       refine hKK.out _ _ (hs19.a (U2 hrb) 0) (fun hHeld => ?_)
       clear hKK KK
       try simp only [nm]
       refine rd1 1 fun KK hKK => ?_
       go_simp
       go_at_call 145
       refine (none_rd hE hs19.rd).mono ?_
       rintro e w21 ⟨rfl, hb21⟩
       have hu21 : W.heap.size ≤ w21.heap.size := by have h0 := hb21.size; (try simp only [sz] at h0); omega
       have hs22 := (hs19.below hb21); try simp only [sz] at hs22
       clear hs19 hHeld
       refine hKK.out _ _ (hs22.a (U2 hrb) 0) (fun hHeld => ?_)
       clear hKK KK
       try simp only [nm]
       refine rd1 3 fun KK hKK => ?_
       go_simp
       go_at_call 145
       refine (none_rd hE hs22.rd).mono ?_
       rintro e w23 ⟨rfl, hb23⟩
       have hu23 : W.heap.size ≤ w23.heap.size := by have h0 := hb23.size; (try simp only [sz] at h0); omega
       have hs24 := (hs22.below hb23); try simp only [sz] at hs24
       clear hs22 hHeld
       refine hKK.out _ _ (hs24.a (U2 hrb) 0) (fun hHeld => ?_)
       clear hKK KK
       try simp only [nm]
       refine rd1 6 fun KK hKK => ?_
       have a25J := F5 hs24 M0
       go_simp
       clear a25J
       have hs26 := (hs24.set5 (.int .i64 16) (.string ⟨#[]⟩) (.int .i64 0) (.int .i64 (cur E (adv s1 1)).at_) (.slice none 0 0)); try simp only [sz] at hs26
       clear hs24
       have hu27 := hu_set hs26 (x := W.heap.size) (by simpa using hu23)
       revert hs26 hu27
       generalize World.setCell _ _ _ = wq27
       intro hs26 hu27
       clear hHeld
       refine hKK.out _ _ (hs26.a (U2 hrb) 0) (fun hHeld => ?_)
       clear hKK KK
       try simp only [nm]
       refine rd1 7 fun KK hKK => ?_
       have a28K := F5 hs26 M1
       go_simp
       clear a28K
       have hs29 := (hs26.swap.set5 (.int .i64 16) (.string ⟨#[]⟩) (.int .i64 0) (.int .i64 (cur E (adv s1 1)).at_) (.slice none 0 0)); try simp only [sz] at hs29
       clear hs26
       have hu30 := hu_set hs29 (x := W.heap.size) (by simpa using hu27)
       revert hs29 hu30
       generalize World.setCell _ _ _ = wq30
       intro hs29 hu30
       clear hHeld
       refine hKK.out _ _ (hs29.a (U2 hrb) 0) (fun hHeld => ?_)
       clear hKK KK
       try simp only [nm]
       refine wpAnyG_done (by kernel_rfl) ?_ _
       go_wp2_with fail
       go_meet
       exact ⟨_, _, rfl, rfl, hs29.swap, (by (try simp only [sz]); omega)⟩
    case rest =>
     obtain ⟨b3, b4, rfl, rfl, HE0, hu3⟩ := hcut
     have a16 := J3 (F5 HE0 M0) (F5 HE0 M1) (F1 HE0 (U2 hrb))
     have gg16 := HE0.out.gcells
     obtain ⟨b1, hb1⟩ : ∃ b, isT E (adv s1 1) [93] = b := ⟨_, rfl⟩
     go_wp2_with fail
     go_at_call 139
     refine (is_any hE HE0.out.rd ⟨#[93]⟩ [93] rfl).mono ?_
     rw [hb1]
     rintro e w17 ⟨rfl, hb17⟩
     have hu17 : W.heap.size ≤ w17.heap.size := by have h0 := hb17.size; (try simp only [sz] at h0); omega
     clear a16 gg16
     have HS18 := Lib.hid (HE0.out.below hb17); try simp only [sz] at HS18
     have a19 := J3 (F5 HS18 M0) (F5 HS18 M1) (F1 HS18 (U2 hrb))
     have gg19 := HS18.gcells
     clear hb17
     go_upto_if 30 with fail
     go_cut [] (fun wx => ∃ (s5 : Rs) (k5 : Int) (t5 : ByteArray) (n5 a5 : Int) (ks5 : List Nd) (A5 : Option Addr) (cap5 : Nat) (k6 : Int) (t6 : ByteArray) (n6 a6 : Int) (ks6 : List Nd) (A6 : Option Addr) (cap6 : Nat), Hid (St E M w0 ((b3, #[.int .i64 k5, .string t5, .int .i64 n5, .int .i64 a5, .slice A5 ks5.length cap5], 25) :: (b4, #[.int .i64 k6, .string t6, .int .i64 n6, .int .i64 a6, .slice A6 ks6.length cap6], 25) :: rows) (some ⟨nb', 47, sx, n, a, .slice (some ⟨b, 0, none⟩) (xs.length + 1) capb, xs ++ [(Nd.mk k1 t1 n1 a1 ks1, Value.agg #[.int .i64 k1, .string t1, .int .i64 n1, .int .i64 a1, .slice A1 ks1.length cap1])]⟩) [(Nd.mk k5 t5 n5 a5 ks5, Value.agg #[.int .i64 k5, .string t5, .int .i64 n5, .int .i64 a5, .slice A5 ks5.length cap5]), (Nd.mk k6 t6 n6 a6 ks6, Value.agg #[.int .i64 k6, .string t6, .int .i64 n6, .int .i64 a6, .slice A6 ks6.length cap6])] s5 wx) ∧ Hid (Rr.ok (((Nd.push (Gv.nd ⟨nb', k, sx, n, a, .slice A xs.length cap, xs⟩) (Nd.mk k1 t1 n1 a1 ks1)).withKind 47).push (Nd.mk k5 t5 n5 a5 ks5) |>.push (Nd.mk k6 t6 n6 a6 ks6)) s5 = R) ∧ W.heap.size ≤ wx.heap.size)
     case first =>
      cases b1 with
      | true =>
       have HSP20 := HSP10; try simp only [hb1, reduceIte] at HSP20
       go_wp2_with fail
       go_meet
       exact ⟨_, _, _, _, _, [], none, 0, _, _, _, _, [], none, 0, ((HS18.tree (t := .mk 16 ⟨#[]⟩ 0 (cur E (adv s1 1)).at_ []) (v := .agg #[.int .i64 16, .string ⟨#[]⟩, .int .i64 0, .int .i64 (cur E (adv s1 1)).at_, .slice none 0 0]) (LiesP.leaf ok_lit ok_lit (hE.at_ _) (by decide))).tree (t := .mk 16 ⟨#[]⟩ 0 (cur E (adv s1 1)).at_ []) (v := .agg #[.int .i64 16, .string ⟨#[]⟩, .int .i64 0, .int .i64 (cur E (adv s1 1)).at_, .slice none 0 0]) (LiesP.leaf ok_lit ok_lit (hE.at_ _) (by decide))).mono_ts (memC M0 (memC M1 (mem0 _))), HSP20.out, (by (try simp only [sz]); omega)⟩
      | false =>
      have HSP20 := HSP10; try simp only [hb1, sm, reduceIte] at HSP20
      go_wp2_with fail
      go_at_call 37
      refine Post.use HSP20.out HNE.out (fun h0 => hK.expr _ _ HS18.rd h0) (fun i W' hi hf => ⟨rfl, clo_bad hi (foot_of HB0.out (HS18.fp.trans hf) (by have h0 := Foot.size hf; (try simp only [sz] at h0); omega))⟩) ?_
      intro x21 s21 v21 w21 hsp21 hv21 hr21 hf21
      have hu21 : W.heap.size ≤ w21.heap.size := by have h0 := Foot.size hf21; (try simp only [sz] at h0); omega
      obtain ⟨k21, t21, n21, a21, ks21⟩ := x21
      obtain ⟨A21, cap21, rfl⟩ := VNd.form hv21
      clear a19 gg19
      have HS22 := Lib.hid (HS18.read hr21 hf21 hv21); try simp only [sz] at HS22
      have a23 := J3 (F5 HS22 M0) (F5 HS22 M1) (F1 HS22 (U2 hrb))
      have gg23 := HS22.gcells
      have HSP21 := Lib.hid hsp21
      clear hsp21 hr21 hf21
      have HS24 := Lib.hid (HS22.set5 (.int .i64 k21) (.string t21) (.int .i64 n21) (.int .i64 a21) (.slice A21 ks21.length cap21)); try simp only [sz] at HS24
      have a25 := J3 (F5 HS24 M0) (F5 HS24 M1) (F1 HS24 (U2 hrb))
      have gg25 := HS24.gcells
      go_wp2_with fail
      go_at_call 145
      refine (none_rd hE HS24.rd).mono ?_
      rintro e w26 ⟨rfl, hb26⟩
      have hu26 : W.heap.size ≤ w26.heap.size := by have h0 := hb26.size; (try simp only [sz] at h0); omega
      clear a23 gg23 a25 gg25
      have HS27 := Lib.hid (HS24.below hb26); try simp only [sz] at HS27
      have a28 := J3 (F5 HS27 M0) (F5 HS27 M1) (F1 HS27 (U2 hrb))
      have gg28 := HS27.gcells
      clear hb26
      have HS29 := Lib.hid (HS27.swap.set5 (.int .i64 16) (.string ⟨#[]⟩) (.int .i64 0) (.int .i64 (cur E s21).at_) (.slice none 0 0)); try simp only [sz] at HS29
      have a30 := J3 (F5 HS29 M0) (F5 HS29 M1) (F1 HS29 (U2 hrb))
      have gg30 := HS29.gcells
      cases ht5 : isT E s21 [58] with
      | true =>
       have HSP31 := HSP21; try simp only [ht5, reduceIte] at HSP31
       have htk31 : takeS E [58] s21 = adv s21 1 := by rw [takeS, ht5]; rfl
       go_wp2_with fail
       go_at_call 86
       refine (take_any hE HS29.rd ⟨#[58]⟩ [58] rfl).mono ?_
       rw [ht5]
       rw [htk31]
       rintro e w32 ⟨rfl, hr32, hf32⟩
       have hu32 : W.heap.size ≤ w32.heap.size := by have h0 := Foot.size hf32; (try simp only [sz] at h0); omega
       clear a28 gg28 a30 gg30
       have HS33 := Lib.hid (HS29.go hr32 hf32); try simp only [sz] at HS33
       have a34 := J3 (F5 HS33 M0) (F5 HS33 M1) (F1 HS33 (U2 hrb))
       have gg34 := HS33.gcells
       clear hr32 hf32
       go_wp2_with fail
       go_at_call 37
       refine Post.use HSP31.out HNE.out (fun h0 => hK.expr _ _ HS33.rd h0) (fun i W' hi hf => ⟨rfl, clo_bad hi (foot_of HB0.out (HS33.fp.trans hf) (by have h0 := Foot.size hf; (try simp only [sz] at h0); omega))⟩) ?_
       intro x35 s35 v35 w35 hsp35 hv35 hr35 hf35
       have hu35 : W.heap.size ≤ w35.heap.size := by have h0 := Foot.size hf35; (try simp only [sz] at h0); omega
       obtain ⟨k35, t35, n35, a35, ks35⟩ := x35
       obtain ⟨A35, cap35, rfl⟩ := VNd.form hv35
       clear a34 gg34
       have HS36 := Lib.hid (HS33.read hr35 hf35 hv35); try simp only [sz] at HS36
       have a37 := J3 (F5 HS36 M0) (F5 HS36 M1) (F1 HS36 (U2 hrb))
       have gg37 := HS36.gcells
       have HSP35 := Lib.hid hsp35
       clear hsp35 hr35 hf35
       go_wp2_with fail
       go_meet
       exact ⟨_, _, _, _, _, _, _, _, _, _, _, _, _, _, _, (HS36.set5 (.int .i64 k35) (.string t35) (.int .i64 n35) (.int .i64 a35) (.slice A35 ks35.length cap35)).swap.mono_ts (memC M1 (memC M0 (mem0 _))), HSP35.out, (by (try simp only [sz]); omega)⟩
      | false =>
      have HSP31 := HSP21; try simp only [ht5, sm, reduceIte] at HSP31
      have htk31 : takeS E [58] s21 = s21 := by rw [takeS, ht5]; rfl
      go_wp2_with fail
      go_at_call 86
      refine (take_any hE HS29.rd ⟨#[58]⟩ [58] rfl).mono ?_
      rw [ht5]
      rw [htk31]
      rintro e w32 ⟨rfl, hr32, hf32⟩
      have hu32 : W.heap.size ≤ w32.heap.size := by have h0 := Foot.size hf32; (try simp only [sz] at h0); omega
      clear a28 gg28 a30 gg30
      have HS33 := Lib.hid (HS29.go hr32 hf32); try simp only [sz] at HS33
      have a34 := J3 (F5 HS33 M0) (F5 HS33 M1) (F1 HS33 (U2 hrb))
      have gg34 := HS33.gcells
      clear hr32 hf32
      go_wp2_with fail
      go_meet
      exact ⟨_, _, _, _, _, _, _, _, _, _, _, _, [], none, 0, (HS33.tree (t := .mk 16 ⟨#[]⟩ 0 (cur E s21).at_ []) (v := .agg #[.int .i64 16, .string ⟨#[]⟩, .int .i64 0, .int .i64 (cur E s21).at_, .slice none 0 0]) (LiesP.leaf ok_lit ok_lit (hE.at_ _) (by decide))).swap.mono_ts (memC M1 (memC M0 (mem0 _))), HSP31.out, (by (try simp only [sz]); omega)⟩
     case rest =>
      clear HE0
      obtain ⟨s5, k5, t5, n5, a5, ks5, A5, cap5, k6, t6, n6, a6, ks6, A6, cap6, HF0, HSF0, hu4⟩ := hcut
      have a20 := J3 (F5 HF0 M0) (F5 HF0 M1) (F1 HF0 (U2 hrb))
      have gg20 := HF0.out.gcells
      have hb2 : (0 ≤ (xs.length : Int) + 1) = True := by simp <;> omega
      have hb3 : ((xs.length : Int) + 1 < (xs.length : Int) + 1 + 2) = True := by simp <;> omega
      have hb4 : (0 ≤ (xs.length : Int) + 1 + 1) = True := by simp <;> omega
      have hb5 : ((xs.length : Int) + 1 + 1 < (xs.length : Int) + 1 + 2) = True := by simp <;> omega
      have hb6 : ((xs.length : Int) + 1 + 1).toNat * 5 = (xs.length + 1) * 5 + 5 := by omega
      have hb7 : IntKind.i64.wrap ((xs.length : Int) + 1 + 1) = (xs.length : Int) + 1 + 1 := IntWalk.i64_in _ (by omega)
      go_wp2_with fail
      clear a20 gg20
      have hs21 := HF0.out.drew
      refine wp_region_G [6] (fun Wx => Wx.cell? ⟨nb', 4, none⟩ = some (.slice (some ⟨b, 0, none⟩) (xs.length + 1) capb) ∧ Wx.cell? ⟨b3, 0, none⟩ = some (.int .i64 k5) ∧ Wx.cell? ⟨b3, 1, none⟩ = some (.string t5) ∧ Wx.cell? ⟨b3, 2, none⟩ = some (.int .i64 n5) ∧ Wx.cell? ⟨b3, 3, none⟩ = some (.int .i64 a5) ∧ Wx.cell? ⟨b3, 4, none⟩ = some (.slice A5 ks5.length cap5) ∧ Wx.cell? ⟨b4, 0, none⟩ = some (.int .i64 k6) ∧ Wx.cell? ⟨b4, 1, none⟩ = some (.string t6) ∧ Wx.cell? ⟨b4, 2, none⟩ = some (.int .i64 n6) ∧ Wx.cell? ⟨b4, 3, none⟩ = some (.int .i64 a6) ∧ Wx.cell? ⟨b4, 4, none⟩ = some (.slice A6 ks6.length cap6)) (by rfl) ?_ (fun hHeld => ?_)
      · exact ⟨hs21.gcells.2.2.2.2.1, hs21.a M0 0, hs21.a M0 1, hs21.a M0 2, hs21.a M0 3, hs21.a M0 4, hs21.a M1 0, hs21.a M1 1, hs21.a M1 2, hs21.a M1 3, hs21.a M1 4⟩
      have hu21 := hu_drew hs21 (x := W.heap.size) (by (try simp only [sz]); omega)
      revert hs21 hHeld hu21
      generalize World.drew _ = wd21
      intro hs21 hHeld hu21
      refine tk 0 (h := tk 1 (h := tk 2 (h := tk 3 (h := tk 4 (h := ?_)))))
      try simp only [nm]
      refine wpAnyG_ready (rs := [5, 9]) (by kernel_rfl) (by simp) ?_
      refine AllReadyG.cons rfl (fun KK hKK => ?_) (AllReadyG.cons rfl (fun KK hKK => ?_) AllReadyG.nil)
      ·
       go_simp
       have hs22 := (hs21.push #[.int .i64 0, .string ⟨#[]⟩, .int .i64 0, .int .i64 0, .slice none 0 0, .int .i64 0, .string ⟨#[]⟩, .int .i64 0, .int .i64 0, .slice none 0 0] 25); try simp only [sz] at hs22
       clear hs21
       have hu23 := hu_push hs22 (x := W.heap.size) hu21
       revert hs22 hu23
       generalize World.alloc _ _ = wq23
       intro hs22 hu23
       clear hHeld
       refine hKK.out _ _ (⟨hs22.gcells.2.2.2.2.1, hs22.a M1 0, hs22.a M1 1, hs22.a M1 2, hs22.a M1 3, hs22.a M1 4, hs22.a M2 0, hs22.a M2 1, hs22.a M2 2, hs22.a M2 3, hs22.a M2 4⟩) (fun hHeld => ?_)
       clear hKK KK
       try simp only [nm]
       refine wpAnyG_ready (rs := [6, 9]) (by kernel_rfl) (by simp) ?_
       refine AllReadyG.last rfl (by decide) (by decide) (fun KK hKK => ?_) (AllReadyG.cons rfl (fun KK hKK => ?_) AllReadyG.nil)
       ·
        refine apl 40 44 hs22 M0 (xs.length + 1) (m := 2) (h := ?_)
        intro b24 capb24 w24 ho24 hg24 hb24 hbl24
        obtain ⟨he24, ef24, n424, nf24, hne24, hbox24, hlen24⟩ := hs22.newElem2 (by simp) ho24 hg24 hb24
        obtain ⟨e24_0, e24_1, e24_2, e24_3, e24_4, e24_5, e24_6, e24_7, e24_8, e24_9⟩ := he24
        have hnx24 : (nb' = b24) = False := by simpa using fun e => hne24 e.symm
        have hny24 : (b24 = nb') = False := by simpa using hne24
        have HSF24 := Lib.hid (And.intro hs22 (And.intro ho24 (And.intro hg24 (And.intro hb24 (And.intro hbox24 hlen24)))))
        clear hs22 ho24 hg24 hb24 hHeld
        refine hKK.out _ _ ?_
        clear hKK KK
        refine tq 7 (h := tq 9 (h := tq 12 (h := ?_)))
        try simp only [nm]
        refine wpAny_ready' (rs := [8, 13]) (by kernel_rfl) (by simp) ?_
        refine allReady_cons rfl (fun KK hKK => ?_) (allReady_cons rfl (fun KK hKK => ?_) allReady_nil)
        ·
         go_simp
         refine hKK.out _ _ ?_
         clear hKK KK
         refine tq 10 (h := ?_)
         try simp only [nm]
         refine wpAny_ready' (rs := [11, 13]) (by kernel_rfl) (by simp) ?_
         refine allReady_cons rfl (fun KK hKK => ?_) (allReady_cons rfl (fun KK hKK => ?_) allReady_nil)
         ·
          go_simp
          refine hKK.out _ _ ?_
          clear hKK KK
          try simp only [nm]
          refine rp1 13 fun KK hKK => ?_
          go_simp
          refine hKK.out _ _ ?_
          clear hKK KK
          try simp only [nm]
          refine wpAny_done (by kernel_rfl) ?_ _
          go_wp2_with fail
          go_end0
          have hA24 := AppSt.fin (lo := w0.heap.size) ((((AppSt.init HSF24.out.2.1 HSF24.out.2.2.2.2.1).elem (fun e => hne24 e.symm) ((xs.length + 1) * 5) (.int .i64 k5) (.string t5) (.int .i64 n5) (.int .i64 a5) (.slice A5 ks5.length cap5)).elem (fun e => hne24 e.symm) ((xs.length + 1) * 5 + 5) (.int .i64 k6) (.string t6) (.int .i64 n6) (.int .i64 a6) (.slice A6 ks6.length cap6)).box_ (fun e => hne24 e.symm) (.slice (some ⟨b24, 0, none⟩) ((xs.length + 1) + 2) capb24)) (set10_list _ _ _ _ _ _ _ _ _ _ _ _ _ _ _ _ _ _ _ _ _ HSF24.out.2.2.2.2.2)
          have hs25 := (HSF24.out.1.appendedN (m := (xs.length + 1)) (N := 2) (zs := [.int .i64 0, .string ⟨#[]⟩, .int .i64 0, .int .i64 0, .slice none 0 0, .int .i64 0, .string ⟨#[]⟩, .int .i64 0, .int .i64 0, .slice none 0 0]) (by simp) rfl HSF24.out.2.1 HSF24.out.2.2.1 HSF24.out.2.2.2.1 (ys := [(.mk k5 t5 n5 a5 ks5, .agg #[.int .i64 k5, .string t5, .int .i64 n5, .int .i64 a5, .slice A5 ks5.length cap5]), (.mk k6 t6 n6 a6 ks6, .agg #[.int .i64 k6, .string t6, .int .i64 n6, .int .i64 a6, .slice A6 ks6.length cap6])]) (memC M0 (memC M1 (mem0 _))) hA24 rfl).retire.retire.retire
          refine clo_end (HSF0.out).symm hs25 rfl (by simp [Gv.nd, Nd.push, Nd.withKind]) HB0.out ?_ (by simp [Gv.nd, Nd.push, Nd.withKind, Nd.kids])
          rw [hA24.size]; have h0 := HSF24.out.2.2.1.size; (try simp only [sz] at h0); omega
         ·
          go_simp
          refine hKK.out _ _ ?_
          clear hKK KK
          try simp only [nm]
          refine rp1 11 fun KK hKK => ?_
          go_simp
          refine hKK.out _ _ ?_
          clear hKK KK
          try simp only [nm]
          refine wpAny_done (by kernel_rfl) ?_ _
          go_wp2_with fail
          go_end0
          have hA24 := AppSt.fin (lo := w0.heap.size) ((((AppSt.init HSF24.out.2.1 HSF24.out.2.2.2.2.1).elem (fun e => hne24 e.symm) ((xs.length + 1) * 5) (.int .i64 k5) (.string t5) (.int .i64 n5) (.int .i64 a5) (.slice A5 ks5.length cap5)).box_ (fun e => hne24 e.symm) (.slice (some ⟨b24, 0, none⟩) ((xs.length + 1) + 2) capb24)).elem (fun e => hne24 e.symm) ((xs.length + 1) * 5 + 5) (.int .i64 k6) (.string t6) (.int .i64 n6) (.int .i64 a6) (.slice A6 ks6.length cap6)) (set10_list _ _ _ _ _ _ _ _ _ _ _ _ _ _ _ _ _ _ _ _ _ HSF24.out.2.2.2.2.2)
          have hs25 := (HSF24.out.1.appendedN (m := (xs.length + 1)) (N := 2) (zs := [.int .i64 0, .string ⟨#[]⟩, .int .i64 0, .int .i64 0, .slice none 0 0, .int .i64 0, .string ⟨#[]⟩, .int .i64 0, .int .i64 0, .slice none 0 0]) (by simp) rfl HSF24.out.2.1 HSF24.out.2.2.1 HSF24.out.2.2.2.1 (ys := [(.mk k5 t5 n5 a5 ks5, .agg #[.int .i64 k5, .string t5, .int .i64 n5, .int .i64 a5, .slice A5 ks5.length cap5]), (.mk k6 t6 n6 a6 ks6, .agg #[.int .i64 k6, .string t6, .int .i64 n6, .int .i64 a6, .slice A6 ks6.length cap6])]) (memC M0 (memC M1 (mem0 _))) hA24 rfl).retire.retire.retire
          refine clo_end (HSF0.out).symm hs25 rfl (by simp [Gv.nd, Nd.push, Nd.withKind]) HB0.out ?_ (by simp [Gv.nd, Nd.push, Nd.withKind, Nd.kids])
          rw [hA24.size]; have h0 := HSF24.out.2.2.1.size; (try simp only [sz] at h0); omega
        ·
         go_simp
         refine hKK.out _ _ ?_
         clear hKK KK
         try simp only [nm]
         refine rp1 8 fun KK hKK => ?_
         go_simp
         refine hKK.out _ _ ?_
         clear hKK KK
         refine tq 10 (h := ?_)
         try simp only [nm]
         refine rp1 11 fun KK hKK => ?_
         go_simp
         refine hKK.out _ _ ?_
         clear hKK KK
         try simp only [nm]
         refine wpAny_done (by kernel_rfl) ?_ _
         go_wp2_with fail
         go_end0
         have hA24 := AppSt.fin (lo := w0.heap.size) ((((AppSt.init HSF24.out.2.1 HSF24.out.2.2.2.2.1).box_ (fun e => hne24 e.symm) (.slice (some ⟨b24, 0, none⟩) ((xs.length + 1) + 2) capb24)).elem (fun e => hne24 e.symm) ((xs.length + 1) * 5) (.int .i64 k5) (.string t5) (.int .i64 n5) (.int .i64 a5) (.slice A5 ks5.length cap5)).elem (fun e => hne24 e.symm) ((xs.length + 1) * 5 + 5) (.int .i64 k6) (.string t6) (.int .i64 n6) (.int .i64 a6) (.slice A6 ks6.length cap6)) (set10_list _ _ _ _ _ _ _ _ _ _ _ _ _ _ _ _ _ _ _ _ _ HSF24.out.2.2.2.2.2)
         have hs25 := (HSF24.out.1.appendedN (m := (xs.length + 1)) (N := 2) (zs := [.int .i64 0, .string ⟨#[]⟩, .int .i64 0, .int .i64 0, .slice none 0 0, .int .i64 0, .string ⟨#[]⟩, .int .i64 0, .int .i64 0, .slice none 0 0]) (by simp) rfl HSF24.out.2.1 HSF24.out.2.2.1 HSF24.out.2.2.2.1 (ys := [(.mk k5 t5 n5 a5 ks5, .agg #[.int .i64 k5, .string t5, .int .i64 n5, .int .i64 a5, .slice A5 ks5.length cap5]), (.mk k6 t6 n6 a6 ks6, .agg #[.int .i64 k6, .string t6, .int .i64 n6, .int .i64 a6, .slice A6 ks6.length cap6])]) (memC M0 (memC M1 (mem0 _))) hA24 rfl).retire.retire.retire
         refine clo_end (HSF0.out).symm hs25 rfl (by simp [Gv.nd, Nd.push, Nd.withKind]) HB0.out ?_ (by simp [Gv.nd, Nd.push, Nd.withKind, Nd.kids])
         rw [hA24.size]; have h0 := HSF24.out.2.2.1.size; (try simp only [sz] at h0); omega
       ·
        go_simp
        clear hHeld
        refine hKK.out _ _ (⟨hs22.gcells.2.2.2.2.1, hs22.a M1 0, hs22.a M1 1, hs22.a M1 2, hs22.a M1 3, hs22.a M1 4, hs22.a M2 0, hs22.a M2 1, hs22.a M2 2, hs22.a M2 3, hs22.a M2 4⟩) (fun hHeld => ?_)
        clear hKK KK
        try simp only [nm]
        refine rl1 6 fun KK hKK => ?_
        refine apl 40 44 hs22 M0 (xs.length + 1) (m := 2) (h := ?_)
        intro b24 capb24 w24 ho24 hg24 hb24 hbl24
        obtain ⟨he24, ef24, n424, nf24, hne24, hbox24, hlen24⟩ := hs22.newElem2 (by simp) ho24 hg24 hb24
        obtain ⟨e24_0, e24_1, e24_2, e24_3, e24_4, e24_5, e24_6, e24_7, e24_8, e24_9⟩ := he24
        have hnx24 : (nb' = b24) = False := by simpa using fun e => hne24 e.symm
        have hny24 : (b24 = nb') = False := by simpa using hne24
        have HSF24 := Lib.hid (And.intro hs22 (And.intro ho24 (And.intro hg24 (And.intro hb24 (And.intro hbox24 hlen24)))))
        clear hs22 ho24 hg24 hb24 hHeld
        refine hKK.out _ _ ?_
        clear hKK KK
        refine tq 7 (h := tq 12 (h := ?_))
        try simp only [nm]
        refine wpAny_ready' (rs := [8, 13]) (by kernel_rfl) (by simp) ?_
        refine allReady_cons rfl (fun KK hKK => ?_) (allReady_cons rfl (fun KK hKK => ?_) allReady_nil)
        ·
         go_simp
         refine hKK.out _ _ ?_
         clear hKK KK
         refine tq 10 (h := ?_)
         try simp only [nm]
         refine wpAny_ready' (rs := [11, 13]) (by kernel_rfl) (by simp) ?_
         refine allReady_cons rfl (fun KK hKK => ?_) (allReady_cons rfl (fun KK hKK => ?_) allReady_nil)
         ·
          go_simp
          refine hKK.out _ _ ?_
          clear hKK KK
          try simp only [nm]
          refine rp1 13 fun KK hKK => ?_
          go_simp
          refine hKK.out _ _ ?_
          clear hKK KK
          try simp only [nm]
          refine wpAny_done (by kernel_rfl) ?_ _
          go_wp2_with fail
          go_end0
          have hA24 := AppSt.fin (lo := w0.heap.size) ((((AppSt.init HSF24.out.2.1 HSF24.out.2.2.2.2.1).elem (fun e => hne24 e.symm) ((xs.length + 1) * 5) (.int .i64 k5) (.string t5) (.int .i64 n5) (.int .i64 a5) (.slice A5 ks5.length cap5)).elem (fun e => hne24 e.symm) ((xs.length + 1) * 5 + 5) (.int .i64 k6) (.string t6) (.int .i64 n6) (.int .i64 a6) (.slice A6 ks6.length cap6)).box_ (fun e => hne24 e.symm) (.slice (some ⟨b24, 0, none⟩) ((xs.length + 1) + 2) capb24)) (set10_list _ _ _ _ _ _ _ _ _ _ _ _ _ _ _ _ _ _ _ _ _ HSF24.out.2.2.2.2.2)
          have hs25 := (HSF24.out.1.appendedN (m := (xs.length + 1)) (N := 2) (zs := [.int .i64 0, .string ⟨#[]⟩, .int .i64 0, .int .i64 0, .slice none 0 0, .int .i64 0, .string ⟨#[]⟩, .int .i64 0, .int .i64 0, .slice none 0 0]) (by simp) rfl HSF24.out.2.1 HSF24.out.2.2.1 HSF24.out.2.2.2.1 (ys := [(.mk k5 t5 n5 a5 ks5, .agg #[.int .i64 k5, .string t5, .int .i64 n5, .int .i64 a5, .slice A5 ks5.length cap5]), (.mk k6 t6 n6 a6 ks6, .agg #[.int .i64 k6, .string t6, .int .i64 n6, .int .i64 a6, .slice A6 ks6.length cap6])]) (memC M0 (memC M1 (mem0 _))) hA24 rfl).retire.retire.retire
          refine clo_end (HSF0.out).symm hs25 rfl (by simp [Gv.nd, Nd.push, Nd.withKind]) HB0.out ?_ (by simp [Gv.nd, Nd.push, Nd.withKind, Nd.kids])
          rw [hA24.size]; have h0 := HSF24.out.2.2.1.size; (try simp only [sz] at h0); omega
         ·
          go_simp
          refine hKK.out _ _ ?_
          clear hKK KK
          try simp only [nm]
          refine rp1 11 fun KK hKK => ?_
          go_simp
          refine hKK.out _ _ ?_
          clear hKK KK
          try simp only [nm]
          refine wpAny_done (by kernel_rfl) ?_ _
          go_wp2_with fail
          go_end0
          have hA24 := AppSt.fin (lo := w0.heap.size) ((((AppSt.init HSF24.out.2.1 HSF24.out.2.2.2.2.1).elem (fun e => hne24 e.symm) ((xs.length + 1) * 5) (.int .i64 k5) (.string t5) (.int .i64 n5) (.int .i64 a5) (.slice A5 ks5.length cap5)).box_ (fun e => hne24 e.symm) (.slice (some ⟨b24, 0, none⟩) ((xs.length + 1) + 2) capb24)).elem (fun e => hne24 e.symm) ((xs.length + 1) * 5 + 5) (.int .i64 k6) (.string t6) (.int .i64 n6) (.int .i64 a6) (.slice A6 ks6.length cap6)) (set10_list _ _ _ _ _ _ _ _ _ _ _ _ _ _ _ _ _ _ _ _ _ HSF24.out.2.2.2.2.2)
          have hs25 := (HSF24.out.1.appendedN (m := (xs.length + 1)) (N := 2) (zs := [.int .i64 0, .string ⟨#[]⟩, .int .i64 0, .int .i64 0, .slice none 0 0, .int .i64 0, .string ⟨#[]⟩, .int .i64 0, .int .i64 0, .slice none 0 0]) (by simp) rfl HSF24.out.2.1 HSF24.out.2.2.1 HSF24.out.2.2.2.1 (ys := [(.mk k5 t5 n5 a5 ks5, .agg #[.int .i64 k5, .string t5, .int .i64 n5, .int .i64 a5, .slice A5 ks5.length cap5]), (.mk k6 t6 n6 a6 ks6, .agg #[.int .i64 k6, .string t6, .int .i64 n6, .int .i64 a6, .slice A6 ks6.length cap6])]) (memC M0 (memC M1 (mem0 _))) hA24 rfl).retire.retire.retire
          refine clo_end (HSF0.out).symm hs25 rfl (by simp [Gv.nd, Nd.push, Nd.withKind]) HB0.out ?_ (by simp [Gv.nd, Nd.push, Nd.withKind, Nd.kids])
          rw [hA24.size]; have h0 := HSF24.out.2.2.1.size; (try simp only [sz] at h0); omega
        ·
         go_simp
         refine hKK.out _ _ ?_
         clear hKK KK
         try simp only [nm]
         refine rp1 8 fun KK hKK => ?_
         go_simp
         refine hKK.out _ _ ?_
         clear hKK KK
         refine tq 10 (h := ?_)
         try simp only [nm]
         refine rp1 11 fun KK hKK => ?_
         go_simp
         refine hKK.out _ _ ?_
         clear hKK KK
         try simp only [nm]
         refine wpAny_done (by kernel_rfl) ?_ _
         go_wp2_with fail
         go_end0
         have hA24 := AppSt.fin (lo := w0.heap.size) ((((AppSt.init HSF24.out.2.1 HSF24.out.2.2.2.2.1).box_ (fun e => hne24 e.symm) (.slice (some ⟨b24, 0, none⟩) ((xs.length + 1) + 2) capb24)).elem (fun e => hne24 e.symm) ((xs.length + 1) * 5) (.int .i64 k5) (.string t5) (.int .i64 n5) (.int .i64 a5) (.slice A5 ks5.length cap5)).elem (fun e => hne24 e.symm) ((xs.length + 1) * 5 + 5) (.int .i64 k6) (.string t6) (.int .i64 n6) (.int .i64 a6) (.slice A6 ks6.length cap6)) (set10_list _ _ _ _ _ _ _ _ _ _ _ _ _ _ _ _ _ _ _ _ _ HSF24.out.2.2.2.2.2)
         have hs25 := (HSF24.out.1.appendedN (m := (xs.length + 1)) (N := 2) (zs := [.int .i64 0, .string ⟨#[]⟩, .int .i64 0, .int .i64 0, .slice none 0 0, .int .i64 0, .string ⟨#[]⟩, .int .i64 0, .int .i64 0, .slice none 0 0]) (by simp) rfl HSF24.out.2.1 HSF24.out.2.2.1 HSF24.out.2.2.2.1 (ys := [(.mk k5 t5 n5 a5 ks5, .agg #[.int .i64 k5, .string t5, .int .i64 n5, .int .i64 a5, .slice A5 ks5.length cap5]), (.mk k6 t6 n6 a6 ks6, .agg #[.int .i64 k6, .string t6, .int .i64 n6, .int .i64 a6, .slice A6 ks6.length cap6])]) (memC M0 (memC M1 (mem0 _))) hA24 rfl).retire.retire.retire
         refine clo_end (HSF0.out).symm hs25 rfl (by simp [Gv.nd, Nd.push, Nd.withKind]) HB0.out ?_ (by simp [Gv.nd, Nd.push, Nd.withKind, Nd.kids])
         rw [hA24.size]; have h0 := HSF24.out.2.2.1.size; (try simp only [sz] at h0); omega
      ·
       go_simp
       clear hHeld
       refine hKK.out _ _ (⟨hs21.gcells.2.2.2.2.1, hs21.a M0 0, hs21.a M0 1, hs21.a M0 2, hs21.a M0 3, hs21.a M0 4, hs21.a M1 0, hs21.a M1 1, hs21.a M1 2, hs21.a M1 3, hs21.a M1 4⟩) (fun hHeld => ?_)
       clear hKK KK
       try simp only [nm]
       refine rd1 5 fun KK hKK => ?_
       go_simp
       have hs22 := (hs21.push #[.int .i64 0, .string ⟨#[]⟩, .int .i64 0, .int .i64 0, .slice none 0 0, .int .i64 0, .string ⟨#[]⟩, .int .i64 0, .int .i64 0, .slice none 0 0] 25); try simp only [sz] at hs22
       clear hs21
       have hu23 := hu_push hs22 (x := W.heap.size) hu21
       revert hs22 hu23
       generalize World.alloc _ _ = wq23
       intro hs22 hu23
       clear hHeld
       refine hKK.out _ _ (⟨hs22.gcells.2.2.2.2.1, hs22.a M1 0, hs22.a M1 1, hs22.a M1 2, hs22.a M1 3, hs22.a M1 4, hs22.a M2 0, hs22.a M2 1, hs22.a M2 2, hs22.a M2 3, hs22.a M2 4⟩) (fun hHeld => ?_)
       clear hKK KK
       try simp only [nm]
       refine rl1 6 fun KK hKK => ?_
       refine apl 40 44 hs22 M0 (xs.length + 1) (m := 2) (h := ?_)
       intro b24 capb24 w24 ho24 hg24 hb24 hbl24
       obtain ⟨he24, ef24, n424, nf24, hne24, hbox24, hlen24⟩ := hs22.newElem2 (by simp) ho24 hg24 hb24
       obtain ⟨e24_0, e24_1, e24_2, e24_3, e24_4, e24_5, e24_6, e24_7, e24_8, e24_9⟩ := he24
       have hnx24 : (nb' = b24) = False := by simpa using fun e => hne24 e.symm
       have hny24 : (b24 = nb') = False := by simpa using hne24
       have HSF24 := Lib.hid (And.intro hs22 (And.intro ho24 (And.intro hg24 (And.intro hb24 (And.intro hbox24 hlen24)))))
       clear hs22 ho24 hg24 hb24 hHeld
       refine hKK.out _ _ ?_
       clear hKK KK
       refine tq 7 (h := tq 12 (h := ?_))
       try simp only [nm]
       refine wpAny_ready' (rs := [8, 13]) (by kernel_rfl) (by simp) ?_
       refine allReady_cons rfl (fun KK hKK => ?_) (allReady_cons rfl (fun KK hKK => ?_) allReady_nil)
       ·
        go_simp
        refine hKK.out _ _ ?_
        clear hKK KK
        refine tq 10 (h := ?_)
        try simp only [nm]
        refine wpAny_ready' (rs := [11, 13]) (by kernel_rfl) (by simp) ?_
        refine allReady_cons rfl (fun KK hKK => ?_) (allReady_cons rfl (fun KK hKK => ?_) allReady_nil)
        ·
         go_simp
         refine hKK.out _ _ ?_
         clear hKK KK
         try simp only [nm]
         refine rp1 13 fun KK hKK => ?_
         go_simp
         refine hKK.out _ _ ?_
         clear hKK KK
         try simp only [nm]
         refine wpAny_done (by kernel_rfl) ?_ _
         go_wp2_with fail
         go_end0
         have hA24 := AppSt.fin (lo := w0.heap.size) ((((AppSt.init HSF24.out.2.1 HSF24.out.2.2.2.2.1).elem (fun e => hne24 e.symm) ((xs.length + 1) * 5) (.int .i64 k5) (.string t5) (.int .i64 n5) (.int .i64 a5) (.slice A5 ks5.length cap5)).elem (fun e => hne24 e.symm) ((xs.length + 1) * 5 + 5) (.int .i64 k6) (.string t6) (.int .i64 n6) (.int .i64 a6) (.slice A6 ks6.length cap6)).box_ (fun e => hne24 e.symm) (.slice (some ⟨b24, 0, none⟩) ((xs.length + 1) + 2) capb24)) (set10_list _ _ _ _ _ _ _ _ _ _ _ _ _ _ _ _ _ _ _ _ _ HSF24.out.2.2.2.2.2)
         have hs25 := (HSF24.out.1.appendedN (m := (xs.length + 1)) (N := 2) (zs := [.int .i64 0, .string ⟨#[]⟩, .int .i64 0, .int .i64 0, .slice none 0 0, .int .i64 0, .string ⟨#[]⟩, .int .i64 0, .int .i64 0, .slice none 0 0]) (by simp) rfl HSF24.out.2.1 HSF24.out.2.2.1 HSF24.out.2.2.2.1 (ys := [(.mk k5 t5 n5 a5 ks5, .agg #[.int .i64 k5, .string t5, .int .i64 n5, .int .i64 a5, .slice A5 ks5.length cap5]), (.mk k6 t6 n6 a6 ks6, .agg #[.int .i64 k6, .string t6, .int .i64 n6, .int .i64 a6, .slice A6 ks6.length cap6])]) (memC M0 (memC M1 (mem0 _))) hA24 rfl).retire.retire.retire
         refine clo_end (HSF0.out).symm hs25 rfl (by simp [Gv.nd, Nd.push, Nd.withKind]) HB0.out ?_ (by simp [Gv.nd, Nd.push, Nd.withKind, Nd.kids])
         rw [hA24.size]; have h0 := HSF24.out.2.2.1.size; (try simp only [sz] at h0); omega
        ·
         go_simp
         refine hKK.out _ _ ?_
         clear hKK KK
         try simp only [nm]
         refine rp1 11 fun KK hKK => ?_
         go_simp
         refine hKK.out _ _ ?_
         clear hKK KK
         try simp only [nm]
         refine wpAny_done (by kernel_rfl) ?_ _
         go_wp2_with fail
         go_end0
         have hA24 := AppSt.fin (lo := w0.heap.size) ((((AppSt.init HSF24.out.2.1 HSF24.out.2.2.2.2.1).elem (fun e => hne24 e.symm) ((xs.length + 1) * 5) (.int .i64 k5) (.string t5) (.int .i64 n5) (.int .i64 a5) (.slice A5 ks5.length cap5)).box_ (fun e => hne24 e.symm) (.slice (some ⟨b24, 0, none⟩) ((xs.length + 1) + 2) capb24)).elem (fun e => hne24 e.symm) ((xs.length + 1) * 5 + 5) (.int .i64 k6) (.string t6) (.int .i64 n6) (.int .i64 a6) (.slice A6 ks6.length cap6)) (set10_list _ _ _ _ _ _ _ _ _ _ _ _ _ _ _ _ _ _ _ _ _ HSF24.out.2.2.2.2.2)
         have hs25 := (HSF24.out.1.appendedN (m := (xs.length + 1)) (N := 2) (zs := [.int .i64 0, .string ⟨#[]⟩, .int .i64 0, .int .i64 0, .slice none 0 0, .int .i64 0, .string ⟨#[]⟩, .int .i64 0, .int .i64 0, .slice none 0 0]) (by simp) rfl HSF24.out.2.1 HSF24.out.2.2.1 HSF24.out.2.2.2.1 (ys := [(.mk k5 t5 n5 a5 ks5, .agg #[.int .i64 k5, .string t5, .int .i64 n5, .int .i64 a5, .slice A5 ks5.length cap5]), (.mk k6 t6 n6 a6 ks6, .agg #[.int .i64 k6, .string t6, .int .i64 n6, .int .i64 a6, .slice A6 ks6.length cap6])]) (memC M0 (memC M1 (mem0 _))) hA24 rfl).retire.retire.retire
         refine clo_end (HSF0.out).symm hs25 rfl (by simp [Gv.nd, Nd.push, Nd.withKind]) HB0.out ?_ (by simp [Gv.nd, Nd.push, Nd.withKind, Nd.kids])
         rw [hA24.size]; have h0 := HSF24.out.2.2.1.size; (try simp only [sz] at h0); omega
       ·
        go_simp
        refine hKK.out _ _ ?_
        clear hKK KK
        try simp only [nm]
        refine rp1 8 fun KK hKK => ?_
        go_simp
        refine hKK.out _ _ ?_
        clear hKK KK
        refine tq 10 (h := ?_)
        try simp only [nm]
        refine rp1 11 fun KK hKK => ?_
        go_simp
        refine hKK.out _ _ ?_
        clear hKK KK
        try simp only [nm]
        refine wpAny_done (by kernel_rfl) ?_ _
        go_wp2_with fail
        go_end0
        have hA24 := AppSt.fin (lo := w0.heap.size) ((((AppSt.init HSF24.out.2.1 HSF24.out.2.2.2.2.1).box_ (fun e => hne24 e.symm) (.slice (some ⟨b24, 0, none⟩) ((xs.length + 1) + 2) capb24)).elem (fun e => hne24 e.symm) ((xs.length + 1) * 5) (.int .i64 k5) (.string t5) (.int .i64 n5) (.int .i64 a5) (.slice A5 ks5.length cap5)).elem (fun e => hne24 e.symm) ((xs.length + 1) * 5 + 5) (.int .i64 k6) (.string t6) (.int .i64 n6) (.int .i64 a6) (.slice A6 ks6.length cap6)) (set10_list _ _ _ _ _ _ _ _ _ _ _ _ _ _ _ _ _ _ _ _ _ HSF24.out.2.2.2.2.2)
        have hs25 := (HSF24.out.1.appendedN (m := (xs.length + 1)) (N := 2) (zs := [.int .i64 0, .string ⟨#[]⟩, .int .i64 0, .int .i64 0, .slice none 0 0, .int .i64 0, .string ⟨#[]⟩, .int .i64 0, .int .i64 0, .slice none 0 0]) (by simp) rfl HSF24.out.2.1 HSF24.out.2.2.1 HSF24.out.2.2.2.1 (ys := [(.mk k5 t5 n5 a5 ks5, .agg #[.int .i64 k5, .string t5, .int .i64 n5, .int .i64 a5, .slice A5 ks5.length cap5]), (.mk k6 t6 n6 a6 ks6, .agg #[.int .i64 k6, .string t6, .int .i64 n6, .int .i64 a6, .slice A6 ks6.length cap6])]) (memC M0 (memC M1 (mem0 _))) hA24 rfl).retire.retire.retire
        refine clo_end (HSF0.out).symm hs25 rfl (by simp [Gv.nd, Nd.push, Nd.withKind]) HB0.out ?_ (by simp [Gv.nd, Nd.push, Nd.withKind, Nd.kids])
        rw [hA24.size]; have h0 := HSF24.out.2.2.1.size; (try simp only [sz] at h0); omega
   | false =>
   have HSP10 := HSU; try simp only [ht, sm, reduceIte] at HSP10
   have htk10 : takeS E [58] s1 = s1 := by rw [takeS, ht]; rfl
   go_wp2_with fail
   go_at_call 86
   refine (take_any hE HD0.out.rd ⟨#[58]⟩ [58] rfl).mono ?_
   rw [ht]
   rw [htk10]
   rintro e w11 ⟨rfl, hr11, hf11⟩
   have hu11 : W.heap.size ≤ w11.heap.size := by have h0 := Foot.size hf11; (try simp only [sz] at h0); omega
   clear a9B gg9
   have HS12 := Lib.hid (HD0.out.go hr11 hf11); try simp only [sz] at HS12
   have a13B := HS12.bx.c1 hrb
   have gg13 := HS12.gcells
   clear hr11 hf11
   go_wp2_with fail
   go_end0
   refine clo_end (HSP10.out).symm HS12.out rfl (by simp [Gv.nd, Nd.push]) HB0.out (by (try simp only [sz]); omega) (by simp [Gv.nd, Nd.push, Nd.kids])

end
end Go.Proofs.YtokhfhibdeneeaaGreatDoor

namespace Go.Proofs.YtokhfhibdeneeaaGreatDoor
open Go.RowKit
section
variable {E : Env} {M : Rm} {w0 W w1 W' : World} {rows : List Rw} {gs : Option Gv} {ts : List (Nd × Value)} {st s s' : Rs} {K : Kn} {g : Gv}

set_option maxRecDepth 100000 in
set_option maxHeartbeats 4000000 in
theorem index_rd (hE : EnvOk E M) (hK : KOK E M K) {n : Nd} {v : Value} (hS : St E M w0 rows none ((n, v) :: ts) s W) (hne : indexR E K n s ≠ .out) :
 Calls Tryz.prog 187 #[.pointer (some ⟨M.bp, 0, none⟩), v] W (PostS E M w0 rows none (indexR E K n s)) := by
 obtain ⟨R, HR⟩ : ∃ R, Hid (indexR E K n s = R) := ⟨_, rfl⟩
 have hneR : R ≠ .out := by rw [← HR.out]; exact hne
 clear hne
 rw [HR.out]
 have HNE := Lib.hid hneR
 have HSP0 : Hid ((openR E [91] [93] (indexM E K) (.mk 46 (bs []) 0 (cur E s).at_ [n]) s : Rr Nd) = R) := HR.out
 obtain ⟨kx, tx, nx, ax, kxs⟩ := n
 obtain ⟨Ax, capx, rfl⟩ := (hS.bx.tr _ M0).form
 have hs1 := (((hS.push #[.pointer (some ⟨M.bp, 0, none⟩)] 75).pn kx tx nx ax (.slice Ax kxs.length capx)).pz)
 try simp only [World.size_alloc] at hs1
 have a1 := J3 (F5 hs1 M0) (F5 hs1 M1) (F1 hs1 M2)
 have HS1 := Lib.hid hs1
 have HS0 := Lib.hid hS
 clear hs1 hS
 have hfi0 := fieldTok0
 have hfi1 := fieldTok1
 have hfi2 := fieldTok2
 have hfn0 := fieldNd0
 have hfn1 := fieldNd1
 have hmf : ∀ (fn : Fn) (first cap : Array Value) (w : World), (Instr.makeFunc fn first cap).run Tryz.prog w = .ok (.func fn first cap) w := fun _ _ _ _ => rfl
 have hn0 := hE.n
 clear hneR HR
 go_enter Tryz.func187, Tryz.ntmps187
 go_upto_region 1 with fail
 go_cut [5] (fun s5 wx => ∃ (b lb : Nat), s5 = .pointer (some ⟨b, 0, none⟩) ∧ Hid (St E M w0 ((lb, #[.int .i64 kx, .string tx, .int .i64 nx, .int .i64 ax, .slice Ax kxs.length capx], 25) :: (b, #[.int .i64 46, .string ⟨#[]⟩, .int .i64 0, .int .i64 (E.tok s.i).at_, .slice (some ⟨lb, 0, none⟩) 1 1], 25) :: ((W.heap.size + 1 + 1), #[.int .i64 0, .string ⟨#[]⟩, .int .i64 0, .int .i64 0, .slice none 0 0], 25) :: ((W.heap.size + 1), #[.int .i64 kx, .string tx, .int .i64 nx, .int .i64 ax, .slice Ax kxs.length capx], 25) :: (W.heap.size, #[.pointer (some ⟨M.bp, 0, none⟩)], 75) :: rows) none ((Nd.mk kx tx nx ax kxs, Value.agg #[.int .i64 kx, .string tx, .int .i64 nx, .int .i64 ax, .slice Ax kxs.length capx]) :: ts) s wx))
 case first =>
  go_wp2_with fail
  clear a1
  have hs2 := HS1.drew
  refine wp_region_G [] (fun Wx => Wx.cell? ⟨W.heap.size, 0, none⟩ = some (.pointer (some ⟨M.bp, 0, none⟩)) ∧ Wx.cell? ⟨(W.heap.size + 1), 0, none⟩ = some (.int .i64 kx) ∧ Wx.cell? ⟨(W.heap.size + 1), 1, none⟩ = some (.string tx) ∧ Wx.cell? ⟨(W.heap.size + 1), 2, none⟩ = some (.int .i64 nx) ∧ Wx.cell? ⟨(W.heap.size + 1), 3, none⟩ = some (.int .i64 ax) ∧ Wx.cell? ⟨(W.heap.size + 1), 4, none⟩ = some (.slice Ax kxs.length capx)) (by rfl) ?_ (fun hHeld => ?_)
  · exact ⟨hs2.a M2 0, hs2.a M1 0, hs2.a M1 1, hs2.a M1 2, hs2.a M1 3, hs2.a M1 4⟩
  revert hs2 hHeld
  generalize World.drew _ = wd2
  intro hs2 hHeld
  refine tk 0 (h := tk 3 (h := ?_))
  try simp only [nm]
  refine wpAnyG_ready (rs := [1, 4, 6]) (by kernel_rfl) (by simp) ?_
  refine AllReadyG.cons rfl (fun KK hKK => ?_) (AllReadyG.cons rfl (fun KK hKK => ?_) (AllReadyG.cons rfl (fun KK hKK => ?_) AllReadyG.nil))
  ·
   go_simp
   go_at_call 42
   refine (at0_rd hE hs2.rd).mono ?_
   rintro e w3 ⟨rfl, hb3⟩
   have hs4 := (hs2.below hb3); try simp only [sz] at hs4
   clear hs2 hHeld
   refine hKK.out _ _ (⟨hs4.a M2 0, hs4.a M1 0, hs4.a M1 1, hs4.a M1 2, hs4.a M1 3, hs4.a M1 4⟩) (fun hHeld => ?_)
   clear hKK KK
   refine tk 2 (h := ?_)
   try simp only [nm]
   refine wpAnyG_ready (rs := [4, 6]) (by kernel_rfl) (by simp) ?_
   refine AllReadyG.cons rfl (fun KK hKK => ?_) (AllReadyG.cons rfl (fun KK hKK => ?_) AllReadyG.nil)
   ·
    go_simp
    have hs5 := (hs4.pn kx tx nx ax (.slice Ax kxs.length capx)); try simp only [sz] at hs5
    clear hs4
    revert hs5
    generalize World.alloc _ _ = wq6
    intro hs5
    clear hHeld
    refine hKK.out _ _ (⟨hs5.a M3 0, hs5.a M2 0, hs5.a M2 1, hs5.a M2 2, hs5.a M2 3, hs5.a M2 4⟩) (fun hHeld => ?_)
    clear hKK KK
    refine tk 5 (h := ?_)
    try simp only [nm]
    refine rd1 6 fun KK hKK => ?_
    go_simp
    have hs7 := (hs5.pz); try simp only [sz] at hs7
    clear hs5
    revert hs7
    generalize World.alloc _ _ = wq8
    intro hs7
    clear hHeld
    refine hKK.out _ _ (⟨hs7.a M4 0, hs7.a M3 0, hs7.a M3 1, hs7.a M3 2, hs7.a M3 3, hs7.a M3 4⟩) (fun hHeld => ?_)
    clear hKK KK
    try simp only [nm]
    refine rd1 7 fun KK hKK => ?_
    have a9N := F5 hs7 M0
    go_simp
    clear a9N
    have hs10 := (hs7.set5 (.int .i64 46) (.string ⟨#[]⟩) (.int .i64 0) (.int .i64 (E.tok s.i).at_) (.slice (some ⟨w3.heap.size, 0, none⟩) 1 1)); try simp only [sz] at hs10
    clear hs7
    revert hs10
    generalize World.setCell _ _ _ = wq11
    intro hs10
    clear hHeld
    refine hKK.out _ _ (⟨hs10.a M4 0, hs10.a M3 0, hs10.a M3 1, hs10.a M3 2, hs10.a M3 3, hs10.a M3 4⟩) (fun hHeld => ?_)
    clear hKK KK
    try simp only [nm]
    refine wpAnyG_done (by kernel_rfl) ?_ _
    go_wp2_with fail
    go_meet
    exact ⟨_, _, rfl, hs10.swap.swap5.swap5.swap5.swap5.swap5⟩
   ·
    go_simp
    have hs5 := (hs4.pz); try simp only [sz] at hs5
    clear hs4
    revert hs5
    generalize World.alloc _ _ = wq6
    intro hs5
    clear hHeld
    refine hKK.out _ _ (⟨hs5.a M3 0, hs5.a M2 0, hs5.a M2 1, hs5.a M2 2, hs5.a M2 3, hs5.a M2 4⟩) (fun hHeld => ?_)
    clear hKK KK
    try simp only [nm]
    refine rd1 4 fun KK hKK => ?_
    go_simp
    have hs7 := (hs5.pn kx tx nx ax (.slice Ax kxs.length capx)); try simp only [sz] at hs7
    clear hs5
    revert hs7
    generalize World.alloc _ _ = wq8
    intro hs7
    clear hHeld
    refine hKK.out _ _ (⟨hs7.a M4 0, hs7.a M3 0, hs7.a M3 1, hs7.a M3 2, hs7.a M3 3, hs7.a M3 4⟩) (fun hHeld => ?_)
    clear hKK KK
    refine tk 5 (h := ?_)
    try simp only [nm]
    refine rd1 7 fun KK hKK => ?_
    have a9N := F5 hs7 M1
    go_simp
    clear a9N
    have hs10 := (hs7.swap.set5 (.int .i64 46) (.string ⟨#[]⟩) (.int .i64 0) (.int .i64 (E.tok s.i).at_) (.slice (some ⟨wq6.heap.size, 0, none⟩) 1 1)); try simp only [sz] at hs10
    clear hs7
    revert hs10
    generalize World.setCell _ _ _ = wq11
    intro hs10
    clear hHeld
    refine hKK.out _ _ (⟨hs10.a M4 0, hs10.a M3 0, hs10.a M3 1, hs10.a M3 2, hs10.a M3 3, hs10.a M3 4⟩) (fun hHeld => ?_)
    clear hKK KK
    try simp only [nm]
    refine wpAnyG_done (by kernel_rfl) ?_ _
    go_wp2_with fail
    go_meet
    exact ⟨_, _, rfl, hs10.swap.swap5.swap5.swap5.swap5.swap5⟩
  ·
   go_simp
   have hs3 := (hs2.pn kx tx nx ax (.slice Ax kxs.length capx)); try simp only [sz] at hs3
   clear hs2
   revert hs3
   generalize World.alloc _ _ = wq4
   intro hs3
   clear hHeld
   refine hKK.out _ _ (⟨hs3.a M3 0, hs3.a M2 0, hs3.a M2 1, hs3.a M2 2, hs3.a M2 3, hs3.a M2 4⟩) (fun hHeld => ?_)
   clear hKK KK
   try simp only [nm]
   refine wpAnyG_ready (rs := [1, 6]) (by kernel_rfl) (by simp) ?_
   refine AllReadyG.cons rfl (fun KK hKK => ?_) (AllReadyG.cons rfl (fun KK hKK => ?_) AllReadyG.nil)
   ·
    go_simp
    go_at_call 42
    refine (at0_rd hE hs3.rd).mono ?_
    rintro e w5 ⟨rfl, hb5⟩
    have hs6 := (hs3.below hb5); try simp only [sz] at hs6
    clear hs3 hHeld
    refine hKK.out _ _ (⟨hs6.a M3 0, hs6.a M2 0, hs6.a M2 1, hs6.a M2 2, hs6.a M2 3, hs6.a M2 4⟩) (fun hHeld => ?_)
    clear hKK KK
    refine tk 2 (h := tk 5 (h := ?_))
    try simp only [nm]
    refine rd1 6 fun KK hKK => ?_
    go_simp
    have hs7 := (hs6.pz); try simp only [sz] at hs7
    clear hs6
    revert hs7
    generalize World.alloc _ _ = wq8
    intro hs7
    clear hHeld
    refine hKK.out _ _ (⟨hs7.a M4 0, hs7.a M3 0, hs7.a M3 1, hs7.a M3 2, hs7.a M3 3, hs7.a M3 4⟩) (fun hHeld => ?_)
    clear hKK KK
    try simp only [nm]
    refine rd1 7 fun KK hKK => ?_
    have a9N := F5 hs7 M0
    go_simp
    clear a9N
    have hs10 := (hs7.set5 (.int .i64 46) (.string ⟨#[]⟩) (.int .i64 0) (.int .i64 (E.tok s.i).at_) (.slice (some ⟨wd2.heap.size, 0, none⟩) 1 1)); try simp only [sz] at hs10
    clear hs7
    revert hs10
    generalize World.setCell _ _ _ = wq11
    intro hs10
    clear hHeld
    refine hKK.out _ _ (⟨hs10.a M4 0, hs10.a M3 0, hs10.a M3 1, hs10.a M3 2, hs10.a M3 3, hs10.a M3 4⟩) (fun hHeld => ?_)
    clear hKK KK
    try simp only [nm]
    refine wpAnyG_done (by kernel_rfl) ?_ _
    go_wp2_with fail
    go_meet
    exact ⟨_, _, rfl, hs10.swap.swap5.swap5.swap5.swap5.swap5⟩
   ·
    go_simp
    have hs5 := (hs3.pz); try simp only [sz] at hs5
    clear hs3
    revert hs5
    generalize World.alloc _ _ = wq6
    intro hs5
    clear hHeld
    refine hKK.out _ _ (⟨hs5.a M4 0, hs5.a M3 0, hs5.a M3 1, hs5.a M3 2, hs5.a M3 3, hs5.a M3 4⟩) (fun hHeld => ?_)
    clear hKK KK
    try simp only [nm]
    refine rd1 1 fun KK hKK => ?_
    go_simp
    go_at_call 42
    refine (at0_rd hE hs5.rd).mono ?_
    rintro e w7 ⟨rfl, hb7⟩
    have hs8 := (hs5.below hb7); try simp only [sz] at hs8
    clear hs5 hHeld
    refine hKK.out _ _ (⟨hs8.a M4 0, hs8.a M3 0, hs8.a M3 1, hs8.a M3 2, hs8.a M3 3, hs8.a M3 4⟩) (fun hHeld => ?_)
    clear hKK KK
    refine tk 2 (h := tk 5 (h := ?_))
    try simp only [nm]
    refine rd1 7 fun KK hKK => ?_
    have a9N := F5 hs8 M0
    go_simp
    clear a9N
    have hs10 := (hs8.set5 (.int .i64 46) (.string ⟨#[]⟩) (.int .i64 0) (.int .i64 (E.tok s.i).at_) (.slice (some ⟨wd2.heap.size, 0, none⟩) 1 1)); try simp only [sz] at hs10
    clear hs8
    revert hs10
    generalize World.setCell _ _ _ = wq11
    intro hs10
    clear hHeld
    refine hKK.out _ _ (⟨hs10.a M4 0, hs10.a M3 0, hs10.a M3 1, hs10.a M3 2, hs10.a M3 3, hs10.a M3 4⟩) (fun hHeld => ?_)
    clear hKK KK
    try simp only [nm]
    refine wpAnyG_done (by kernel_rfl) ?_ _
    go_wp2_with fail
    go_meet
    exact ⟨_, _, rfl, hs10.swap.swap5.swap5.swap5.swap5.swap5⟩
  ·
   go_simp
   have hs3 := (hs2.pz); try simp only [sz] at hs3
   clear hs2
   revert hs3
   generalize World.alloc _ _ = wq4
   intro hs3
   clear hHeld
   refine hKK.out _ _ (⟨hs3.a M3 0, hs3.a M2 0, hs3.a M2 1, hs3.a M2 2, hs3.a M2 3, hs3.a M2 4⟩) (fun hHeld => ?_)
   clear hKK KK
   try simp only [nm]
   refine wpAnyG_ready (rs := [1, 4]) (by kernel_rfl) (by simp) ?_
   refine AllReadyG.cons rfl (fun KK hKK => ?_) (AllReadyG.cons rfl (fun KK hKK => ?_) AllReadyG.nil)
   ·
    go_simp
    go_at_call 42
    refine (at0_rd hE hs3.rd).mono ?_
    rintro e w5 ⟨rfl, hb5⟩
    have hs6 := (hs3.below hb5); try simp only [sz] at hs6
    clear hs3 hHeld
    refine hKK.out _ _ (⟨hs6.a M3 0, hs6.a M2 0, hs6.a M2 1, hs6.a M2 2, hs6.a M2 3, hs6.a M2 4⟩) (fun hHeld => ?_)
    clear hKK KK
    refine tk 2 (h := ?_)
    try simp only [nm]
    refine rd1 4 fun KK hKK => ?_
    go_simp
    have hs7 := (hs6.pn kx tx nx ax (.slice Ax kxs.length capx)); try simp only [sz] at hs7
    clear hs6
    revert hs7
    generalize World.alloc _ _ = wq8
    intro hs7
    clear hHeld
    refine hKK.out _ _ (⟨hs7.a M4 0, hs7.a M3 0, hs7.a M3 1, hs7.a M3 2, hs7.a M3 3, hs7.a M3 4⟩) (fun hHeld => ?_)
    clear hKK KK
    refine tk 5 (h := ?_)
    try simp only [nm]
    refine rd1 7 fun KK hKK => ?_
    have a9N := F5 hs7 M1
    go_simp
    clear a9N
    have hs10 := (hs7.swap.set5 (.int .i64 46) (.string ⟨#[]⟩) (.int .i64 0) (.int .i64 (E.tok s.i).at_) (.slice (some ⟨w5.heap.size, 0, none⟩) 1 1)); try simp only [sz] at hs10
    clear hs7
    revert hs10
    generalize World.setCell _ _ _ = wq11
    intro hs10
    clear hHeld
    refine hKK.out _ _ (⟨hs10.a M4 0, hs10.a M3 0, hs10.a M3 1, hs10.a M3 2, hs10.a M3 3, hs10.a M3 4⟩) (fun hHeld => ?_)
    clear hKK KK
    try simp only [nm]
    refine wpAnyG_done (by kernel_rfl) ?_ _
    go_wp2_with fail
    go_meet
    exact ⟨_, _, rfl, hs10.swap.swap5.swap5.swap5.swap5.swap5⟩
   ·
    go_simp
    have hs5 := (hs3.pn kx tx nx ax (.slice Ax kxs.length capx)); try simp only [sz] at hs5
    clear hs3
    revert hs5
    generalize World.alloc _ _ = wq6
    intro hs5
    clear hHeld
    refine hKK.out _ _ (⟨hs5.a M4 0, hs5.a M3 0, hs5.a M3 1, hs5.a M3 2, hs5.a M3 3, hs5.a M3 4⟩) (fun hHeld => ?_)
    clear hKK KK
    try simp only [nm]
    refine rd1 1 fun KK hKK => ?_
    go_simp
    go_at_call 42
    refine (at0_rd hE hs5.rd).mono ?_
    rintro e w7 ⟨rfl, hb7⟩
    have hs8 := (hs5.below hb7); try simp only [sz] at hs8
    clear hs5 hHeld
    refine hKK.out _ _ (⟨hs8.a M4 0, hs8.a M3 0, hs8.a M3 1, hs8.a M3 2, hs8.a M3 3, hs8.a M3 4⟩) (fun hHeld => ?_)
    clear hKK KK
    refine tk 2 (h := tk 5 (h := ?_))
    try simp only [nm]
    refine rd1 7 fun KK hKK => ?_
    have a9N := F5 hs8 M1
    go_simp
    clear a9N
    have hs10 := (hs8.swap.set5 (.int .i64 46) (.string ⟨#[]⟩) (.int .i64 0) (.int .i64 (E.tok s.i).at_) (.slice (some ⟨wq4.heap.size, 0, none⟩) 1 1)); try simp only [sz] at hs10
    clear hs8
    revert hs10
    generalize World.setCell _ _ _ = wq11
    intro hs10
    clear hHeld
    refine hKK.out _ _ (⟨hs10.a M4 0, hs10.a M3 0, hs10.a M3 1, hs10.a M3 2, hs10.a M3 3, hs10.a M3 4⟩) (fun hHeld => ?_)
    clear hKK KK
    try simp only [nm]
    refine wpAnyG_done (by kernel_rfl) ?_ _
    go_wp2_with fail
    go_meet
    exact ⟨_, _, rfl, hs10.swap.swap5.swap5.swap5.swap5.swap5⟩
 case rest =>
  obtain ⟨b, lb, rfl, HC0⟩ := hcut
  have a2 := J5 (F5 HC0 M0) (F5 HC0 M1) (F5 HC0 M2) (F5 HC0 M3) (F1 HC0 M4)
  go_wp2_with fail
  clear a2
  have hsg := HC0.out.growN (xs := [(Nd.mk kx tx nx ax kxs, Value.agg #[.int .i64 kx, .string tx, .int .i64 nx, .int .i64 ax, .slice Ax kxs.length capx])]) rfl (memC M0 (mem0 _)) rfl (by decide) ok_lit ok_lit (hE.at_ _) (by decide)
  have HSG := Lib.hid hsg
  clear hsg
  go_at_call 181
  refine CloPost.use (bind_okR HSP0.out) HNE.out (fun h0 => open_rd hE (keepsG E M w0 (((W.heap.size + 1 + 1), #[.int .i64 0, .string ⟨#[]⟩, .int .i64 0, .int .i64 0, .slice none 0 0], 25) :: ((W.heap.size + 1), #[.int .i64 kx, .string tx, .int .i64 nx, .int .i64 ax, .slice Ax kxs.length capx], 25) :: (W.heap.size, #[.pointer (some ⟨M.bp, 0, none⟩)], 75) :: rows) b) (index1_clo (C := 999999) hE hK (by decide) M2) _ _ [91] [93] rfl rfl _ s _ HSG.rd ⟨_, rfl, rfl, HSG.bx.sub (fun x hx => by simp at hx), HSG.tb⟩ (show (1 : Nat) ≤ 999999 by decide) h0) (fun i W' hi hf => ⟨rfl, badS hi (Foot.trans HSG.fp hf)⟩) ?_
  intro x1 s1 wz hk1 hr1 hi1 hf1 hc1
  obtain ⟨g0, hg1, hg2, hg3, hg4⟩ := hi1
  obtain ⟨nb', k, sx, n, a, v, xs⟩ := g0
  obtain rfl : nb' = b := hg1
  have hs : St E M w0 _ _ [] s1 wz := ⟨hr1, hg3, hg4⟩
  obtain ⟨A, cap, hv, _, _⟩ := row_form hs.gown
  have hv' : v = .slice A xs.length cap := hv
  subst hv'
  obtain ⟨g0, g1, g2, g3, g4, gf⟩ := hs.gcells
  obtain ⟨qc00, qc01, qc02, qc03, qc04, yc00, yc01, yc02, yc03, yc04⟩ := hs.bx.c5 M0
  have HS2 := Lib.hid hs
  clear hs hr1 hg3
  go_wp2_with fail
  have hs := (HS2.set5 (.int .i64 k) (.string sx) (.int .i64 n) (.int .i64 a) (.slice A xs.length cap)).grown.swap.retire.swap.retire
  refine St.finS (slot := 4) rfl hs rfl ?_
  exact (congrArg (fun t => Rr.ok t s1) hg2).trans hk1

theorem indexOk (hE : EnvOk E M) (hK : KOK E M K) : IndexOk E M K := fun _ _ _ _ _ _ _ hS hne => index_rd hE hK hS hne

end
end Go.Proofs.YtokhfhibdeneeaaGreatDoor
