/- The closures that append what was read to a list. params, block. Closures that set a variable; block. -/
import Derived.Test.YtokhfhibdeneeaaGreatDoorMLiesP
namespace Go.Proofs.YtokhfhibdeneeaaGreatDoor
open Go.RowKit
section
variable {E : Env} {M : Rm} {w0 W W' : World} {rows : List Rw}
/-- The end of such a closure. -/
theorem clo_push {R : Rr Nd} {ts : List (Nd × Value)} {s : Rs} {nb : Nat} {k n a : Int} {sx : ByteArray} {v v' : Value} {xs : List (Nd × Value)} {x : Nd} {xv : Value} (hR : R = .ok (Nd.push (Gv.nd ⟨nb, k, sx, n, a, v, xs⟩) x) s) (h : St E M w0 rows (some ⟨nb, k, sx, n, a, v', xs ++ [(x, xv)]⟩) ts s W')
 (hb : Fp M.bp w0 W) (hu : W.heap.size ≤ W'.heap.size) : CloPost E M w0.heap.size (InvG E M w0 rows nb) (fun a' => a'.kids.length ≤ (Gv.nd ⟨nb, k, sx, n, a, v, xs⟩).kids.length + 1) W R (.returned (.tuple #[])) W' := by
 subst hR
 have e : Nd.push (Gv.nd ⟨nb, k, sx, n, a, v, xs⟩) x = Gv.nd ⟨nb, k, sx, n, a, v', xs ++ [(x, xv)]⟩ := by simp [Gv.nd, Nd.push]
 refine ⟨rfl, h.rd, ⟨_, rfl, e.symm, h.bx.sub (fun x hx => by simp at hx), h.tb⟩, foot_of hb h.fp hu, ?_⟩
 simp [Gv.nd, Nd.push, Nd.kids]

set_option maxRecDepth 100000 in
set_option maxHeartbeats 4000000 in
theorem params2_clo (hE : EnvOk E M) {rb nb C : Nat} (hC : C ≤ 1000000) (hrb : (rb, #[.pointer (some ⟨M.bp, 0, none⟩)], 75) ∈ rows) :
 Clo E M w0.heap.size (InvG E M w0 rows nb) (fun a => a.kids.length) C 1 196 #[.pointer (some ⟨nb, 0, none⟩), .pointer (some ⟨rb, 0, none⟩)] (namePush E) := by
 refine ⟨fun W => rfl, fun a s W hr hi hc hne => ?_⟩
 obtain ⟨g, hgn, rfl, hbx, htb⟩ := hi
 obtain ⟨nb', k, sx, n, a, v, xs⟩ := g
 obtain rfl : nb' = nb := hgn
 obtain ⟨R, HR⟩ : ∃ R, Hid (namePush E (Gv.nd ⟨nb', k, sx, n, a, v, xs⟩) s = R) := ⟨_, rfl⟩
 have hneR : R ≠ .out := by rw [← HR.out]; exact hne
 rw [HR.out]
 have HNE := Lib.hid hneR
 have HSP : Hid ((nameR E s).bind (fun x s => .ok (Nd.push (Gv.nd ⟨nb', k, sx, n, a, v, xs⟩) x) s) = R) := HR.out
 have hst : St E M w0 rows (some ⟨nb', k, sx, n, a, v, xs⟩) [] s W := ⟨hr, hbx, htb⟩
 obtain ⟨A, cap, hv, hc1, hc2⟩ := row_form hst.gown
 have hv' : v = .slice A xs.length cap := hv
 subst hv'
 have hxc : xs.length ≤ C := by simpa [Gv.nd, Nd.kids] using hc
 have hxl : xs.length ≤ 1000000 := Nat.le_trans hxc hC
 have hc1' : xs.length ≤ cap := hc1
 have hbd : ((xs.length : Int) < (xs.length : Int) + 1) = True := by simp; omega
 have HB0 := Lib.hid hbx.fp
 obtain ⟨i0, hi, hz0, hz1, hz2⟩ := info_parts infoNd
 have K : ∀ rows' ts s W', (rb, #[.pointer (some ⟨M.bp, 0, none⟩)], 75) ∈ rows' → St E M w0 rows' (some ⟨nb', k, sx, n, a, .slice A xs.length cap, xs⟩) ts s W' → (fun W => W.cell? ⟨nb', 4, none⟩ = some (.slice A xs.length cap) ∧ W.cell? ⟨rb, 0, none⟩ = some (.pointer (some ⟨M.bp, 0, none⟩))) W' := fun rows' ts s W' hm h => ⟨h.gcells.2.2.2.2.1, h.a hm 0⟩
 have hs0 := hst.drew
 have hu0 : W.heap.size ≤ W.drew.heap.size := Nat.le_refl _
 clear hneR hne HR hr hbx hst hv hc htb hc1 hxc
 go_enter Tryz.func196, Tryz.ntmps196
 go_wp2_with fail
 refine wp_region_G [6] (fun W => W.cell? ⟨nb', 4, none⟩ = some (.slice A xs.length cap) ∧ W.cell? ⟨rb, 0, none⟩ = some (.pointer (some ⟨M.bp, 0, none⟩))) (by rfl) ?_ (fun hHeld => ?_)
 · exact K _ _ _ _ hrb hs0
 refine tk 0 (h := tk 1 (h := tk 2 (h := tk 4 (h := ?_))))
 try simp only [nm]
 refine wpAnyG_ready (rs := [3, 5]) (by kernel_rfl) (by simp) ?_
 refine AllReadyG.cons rfl (fun KK hKK => ?_) (AllReadyG.cons rfl (fun KK hKK => ?_) AllReadyG.nil)
 · go_simp
   go_at_call 87
   refine Post.use HSP.out HNE.out (fun _ => name_any hE hs0.rd) (fun i W' hi hf => ⟨rfl, clo_bad hi (foot_of HB0.out (hs0.fp.trans hf) (Nat.le_trans hu0 (Foot.size hf)))⟩) ?_
   intro x1 s1 v1 w1 hsp hv hr1 hf1
   obtain ⟨k1, t1, n1, a1, ks1⟩ := x1
   obtain ⟨A1, cap1, rfl⟩ := VNd.form hv
   have hs1 := hs0.read hr1 hf1 hv
   have hu1 := Nat.le_trans hu0 (Foot.size hf1)
   refine hKK.out _ _ (K _ _ _ _ hrb hs1) (fun hHeld => ?_)
   clear hKK KK
   try simp only [nm]
   refine rd1 5 fun KK hKK => ?_
   go_simp
   have hs2 := hs1.pz
   have hu2 := size_up hu1 (.cells #[.int .i64 0, .string ⟨#[]⟩, .int .i64 0, .int .i64 0, .slice none 0 0] 25 (0, 0))
   refine hKK.out _ _ (K _ _ _ _ (U1 hrb) hs2) (fun hHeld => ?_)
   clear hKK KK
   try simp only [nm]
   refine rl1 6 fun KK hKK => ?_
   refine step_append_lies _ rfl (.tmp 3) (.tmp 7) 23 rfl w0.heap.size 25 i0 _ 5 64 Tryz.underlying23 hi hz0 hz1 hz2 rfl (by decide) _ _ _ rfl (show World.ownsRow _ w0.heap.size 25 5 (.slice A xs.length cap) xs.length (treeCells xs) from hs2.gown) _ 1 1 [.int .i64 0, .string ⟨#[]⟩, .int .i64 0, .int .i64 0, .slice none 0 0] rfl rfl (newsRow (hs2.bx.rw _ M0).2) zeroOne (by decide) (by unfold maxLen; omega) (by omega) hs2.bx.size _ rfl ?_
   intro b capb w2 ho2 hg2 hb2 hbl2
   obtain ⟨⟨e0, e1, e2, e3, e4⟩, ef, n4, nf, hne, hbox, hlen⟩ := hs2.newElem rfl ho2 hg2 hb2
   have hne1 : (nb' = b) = False := by simpa using fun e => hne e.symm
   have hne2 : (b = nb') = False := by simpa using hne
   have HSF := Lib.hid (And.intro hs2 (And.intro ho2 (And.intro hg2 (And.intro hb2 (And.intro hbox hlen)))))
   refine hKK.out _ _ ?_
   clear hKK KK
   refine tq 7 (h := tq 9 (h := ?_))
   try simp only [nm]
   refine wpAny_ready' (rs := [8, 10]) (by kernel_rfl) (by simp) ?_
   refine allReady_cons rfl (fun KK hKK => ?_) (allReady_cons rfl (fun KK hKK => ?_) allReady_nil)
   · go_simp
     refine hKK.out _ _ ?_
     clear hKK KK
     try simp only [nm]
     refine rp1 10 fun KK hKK => ?_
     go_simp
     refine hKK.out _ _ ?_
     clear hKK KK
     try simp only [nm]
     refine wpAny_done (by kernel_rfl) ?_ _
     go_wp2_with fail
     go_end0
     have hA := AppTo.elemFirst (lo := w0.heap.size) HSF.out.2.1 HSF.out.2.2.2.2.1 (fun e => hne e.symm) HSF.out.2.2.2.2.2 (.int .i64 k1) (.string t1) (.int .i64 n1) (.int .i64 a1) (.slice A1 ks1.length cap1)
     have hfin := HSF.out.1.appended (zs := [.int .i64 0, .string ⟨#[]⟩, .int .i64 0, .int .i64 0, .slice none 0 0]) HSF.out.2.1 HSF.out.2.2.1 HSF.out.2.2.2.1 (ys := [(.mk k1 t1 n1 a1 ks1, .agg #[.int .i64 k1, .string t1, .int .i64 n1, .int .i64 a1, .slice A1 ks1.length cap1])]) (fun y hy => by rw [List.mem_singleton.1 hy]; exact List.mem_cons_self ..) hA rfl
     refine clo_push hsp.symm hfin.retire HB0.out ?_
     rw [hA.size]; exact Nat.le_trans (by assumption) HSF.out.2.2.1.size
   · go_simp
     refine hKK.out _ _ ?_
     clear hKK KK
     try simp only [nm]
     refine rp1 8 fun KK hKK => ?_
     go_simp
     refine hKK.out _ _ ?_
     clear hKK KK
     try simp only [nm]
     refine wpAny_done (by kernel_rfl) ?_ _
     go_wp2_with fail
     go_end0
     have hA := AppTo.boxFirst (lo := w0.heap.size) HSF.out.2.1 HSF.out.2.2.2.2.1 (fun e => hne e.symm) HSF.out.2.2.2.2.2 (.int .i64 k1) (.string t1) (.int .i64 n1) (.int .i64 a1) (.slice A1 ks1.length cap1)
     have hfin := HSF.out.1.appended (zs := [.int .i64 0, .string ⟨#[]⟩, .int .i64 0, .int .i64 0, .slice none 0 0]) HSF.out.2.1 HSF.out.2.2.1 HSF.out.2.2.2.1 (ys := [(.mk k1 t1 n1 a1 ks1, .agg #[.int .i64 k1, .string t1, .int .i64 n1, .int .i64 a1, .slice A1 ks1.length cap1])]) (fun y hy => by rw [List.mem_singleton.1 hy]; exact List.mem_cons_self ..) hA rfl
     refine clo_push hsp.symm hfin.retire HB0.out ?_
     rw [hA.size]; exact Nat.le_trans (by assumption) HSF.out.2.2.1.size
 · go_simp
   have hs1 := hs0.pz
   have hu1 := size_up hu0 (.cells #[.int .i64 0, .string ⟨#[]⟩, .int .i64 0, .int .i64 0, .slice none 0 0] 25 (0, 0))
   refine hKK.out _ _ (K _ _ _ _ (U1 hrb) hs1) (fun hHeld => ?_)
   clear hKK KK
   try simp only [nm]
   refine rd1 3 fun KK hKK => ?_
   go_simp
   go_at_call 87
   refine Post.use HSP.out HNE.out (fun _ => name_any hE hs1.rd) (fun i W' hi hf => ⟨rfl, clo_bad hi (foot_of HB0.out (hs1.fp.trans hf) (Nat.le_trans hu1 (Foot.size hf)))⟩) ?_
   intro x1 s1 v1 w1 hsp hv hr1 hf1
   obtain ⟨k1, t1, n1, a1, ks1⟩ := x1
   obtain ⟨A1, cap1, rfl⟩ := VNd.form hv
   have hs2 := hs1.read hr1 hf1 hv
   have hu2 := Nat.le_trans hu1 (Foot.size hf1)
   refine hKK.out _ _ (K _ _ _ _ (U1 hrb) hs2) (fun hHeld => ?_)
   clear hKK KK
   try simp only [nm]
   refine rl1 6 fun KK hKK => ?_
   refine step_append_lies _ rfl (.tmp 3) (.tmp 7) 23 rfl w0.heap.size 25 i0 _ 5 64 Tryz.underlying23 hi hz0 hz1 hz2 rfl (by decide) _ _ _ rfl (show World.ownsRow _ w0.heap.size 25 5 (.slice A xs.length cap) xs.length (treeCells xs) from hs2.gown) _ 1 1 [.int .i64 0, .string ⟨#[]⟩, .int .i64 0, .int .i64 0, .slice none 0 0] rfl rfl (newsRow (hs2.bx.rw _ M0).2) zeroOne (by decide) (by unfold maxLen; omega) (by omega) hs2.bx.size _ rfl ?_
   intro b capb w2 ho2 hg2 hb2 hbl2
   obtain ⟨⟨e0, e1, e2, e3, e4⟩, ef, n4, nf, hne, hbox, hlen⟩ := hs2.newElem rfl ho2 hg2 hb2
   have hne1 : (nb' = b) = False := by simpa using fun e => hne e.symm
   have hne2 : (b = nb') = False := by simpa using hne
   have HSF := Lib.hid (And.intro hs2 (And.intro ho2 (And.intro hg2 (And.intro hb2 (And.intro hbox hlen)))))
   refine hKK.out _ _ ?_
   clear hKK KK
   refine tq 7 (h := tq 9 (h := ?_))
   try simp only [nm]
   refine wpAny_ready' (rs := [8, 10]) (by kernel_rfl) (by simp) ?_
   refine allReady_cons rfl (fun KK hKK => ?_) (allReady_cons rfl (fun KK hKK => ?_) allReady_nil)
   · go_simp
     refine hKK.out _ _ ?_
     clear hKK KK
     try simp only [nm]
     refine rp1 10 fun KK hKK => ?_
     go_simp
     refine hKK.out _ _ ?_
     clear hKK KK
     try simp only [nm]
     refine wpAny_done (by kernel_rfl) ?_ _
     go_wp2_with fail
     go_end0
     have hA := AppTo.elemFirst (lo := w0.heap.size) HSF.out.2.1 HSF.out.2.2.2.2.1 (fun e => hne e.symm) HSF.out.2.2.2.2.2 (.int .i64 k1) (.string t1) (.int .i64 n1) (.int .i64 a1) (.slice A1 ks1.length cap1)
     have hfin := HSF.out.1.appended (zs := [.int .i64 0, .string ⟨#[]⟩, .int .i64 0, .int .i64 0, .slice none 0 0]) HSF.out.2.1 HSF.out.2.2.1 HSF.out.2.2.2.1 (ys := [(.mk k1 t1 n1 a1 ks1, .agg #[.int .i64 k1, .string t1, .int .i64 n1, .int .i64 a1, .slice A1 ks1.length cap1])]) (fun y hy => by rw [List.mem_singleton.1 hy]; exact List.mem_cons_self ..) hA rfl
     refine clo_push hsp.symm hfin.retire HB0.out ?_
     rw [hA.size]; exact Nat.le_trans (by assumption) HSF.out.2.2.1.size
   · go_simp
     refine hKK.out _ _ ?_
     clear hKK KK
     try simp only [nm]
     refine rp1 8 fun KK hKK => ?_
     go_simp
     refine hKK.out _ _ ?_
     clear hKK KK
     try simp only [nm]
     refine wpAny_done (by kernel_rfl) ?_ _
     go_wp2_with fail
     go_end0
     have hA := AppTo.boxFirst (lo := w0.heap.size) HSF.out.2.1 HSF.out.2.2.2.2.1 (fun e => hne e.symm) HSF.out.2.2.2.2.2 (.int .i64 k1) (.string t1) (.int .i64 n1) (.int .i64 a1) (.slice A1 ks1.length cap1)
     have hfin := HSF.out.1.appended (zs := [.int .i64 0, .string ⟨#[]⟩, .int .i64 0, .int .i64 0, .slice none 0 0]) HSF.out.2.1 HSF.out.2.2.1 HSF.out.2.2.2.1 (ys := [(.mk k1 t1 n1 a1 ks1, .agg #[.int .i64 k1, .string t1, .int .i64 n1, .int .i64 a1, .slice A1 ks1.length cap1])]) (fun y hy => by rw [List.mem_singleton.1 hy]; exact List.mem_cons_self ..) hA rfl
     refine clo_push hsp.symm hfin.retire HB0.out ?_
     rw [hA.size]; exact Nat.le_trans (by assumption) HSF.out.2.2.1.size

/-- The contracts of what calls itself from afar. -/
structure KOK (E : Env) (M : Rm) (K : Kn) : Prop where
 expr : ∀ s W, RdAt E M s W → K.expr s ≠ .out → Calls Tryz.prog 37 #[.pointer (some ⟨M.bp, 0, none⟩)] W (Post E M VNd W (K.expr s))
 unary : ∀ s W, RdAt E M s W → K.unary s ≠ .out → Calls Tryz.prog 137 #[.pointer (some ⟨M.bp, 0, none⟩)] W (Post E M VNd W (K.unary s))
 stmts : ∀ a s W, okI a → RdAt E M s W → K.stmts a s ≠ .out → Calls Tryz.prog 40 #[.pointer (some ⟨M.bp, 0, none⟩), .int .i64 a] W (Post E M VNd W (K.stmts a s))
 branch : ∀ s W, RdAt E M s W → K.branch s ≠ .out → Calls Tryz.prog 144 #[.pointer (some ⟨M.bp, 0, none⟩)] W (Post E M VNd W (K.branch s))
 fuel : K.fuel ≤ 900000
variable {K : Kn}
theorem bind_ok {α : Type} (r : Rr α) : r.bind (fun x s => .ok x s) = r := by cases r <;> rfl
theorem bind_okR {α : Type} {r R : Rr α} (h : r = R) : r.bind (fun x s => .ok x s) = R := (bind_ok r).trans h

set_option maxRecDepth 100000 in
set_option maxHeartbeats 4000000 in
theorem post2_clo (_hE : EnvOk E M) (hK : KOK E M K) {rb nb C : Nat} (hC : C ≤ 1000000) (hrb : (rb, #[.pointer (some ⟨M.bp, 0, none⟩)], 75) ∈ rows) :
 Clo E M w0.heap.size (InvG E M w0 rows nb) (fun a => a.kids.length) C 1 190 #[.pointer (some ⟨nb, 0, none⟩), .pointer (some ⟨rb, 0, none⟩)] (exprPush K) := by
 refine ⟨fun W => rfl, fun a s W hr hi hc hne => ?_⟩
 obtain ⟨g, hgn, rfl, hbx, htb⟩ := hi
 obtain ⟨nb', k, sx, n, a, v, xs⟩ := g
 obtain rfl : nb' = nb := hgn
 obtain ⟨R, HR⟩ : ∃ R, Hid (exprPush K (Gv.nd ⟨nb', k, sx, n, a, v, xs⟩) s = R) := ⟨_, rfl⟩
 have hneR : R ≠ .out := by rw [← HR.out]; exact hne
 rw [HR.out]
 have HNE := Lib.hid hneR
 have HSP : Hid ((K.expr s).bind (fun x s => .ok (Nd.push (Gv.nd ⟨nb', k, sx, n, a, v, xs⟩) x) s) = R) := HR.out
 have hst : St E M w0 rows (some ⟨nb', k, sx, n, a, v, xs⟩) [] s W := ⟨hr, hbx, htb⟩
 obtain ⟨A, cap, hv, hc1, hc2⟩ := row_form hst.gown
 have hv' : v = .slice A xs.length cap := hv
 subst hv'
 have hxc : xs.length ≤ C := by simpa [Gv.nd, Nd.kids] using hc
 have hxl : xs.length ≤ 1000000 := Nat.le_trans hxc hC
 have hc1' : xs.length ≤ cap := hc1
 have hbd : ((xs.length : Int) < (xs.length : Int) + 1) = True := by simp; omega
 have HB0 := Lib.hid hbx.fp
 obtain ⟨i0, hi, hz0, hz1, hz2⟩ := info_parts infoNd
 have K : ∀ rows' ts s W', (rb, #[.pointer (some ⟨M.bp, 0, none⟩)], 75) ∈ rows' → St E M w0 rows' (some ⟨nb', k, sx, n, a, .slice A xs.length cap, xs⟩) ts s W' → (fun W => W.cell? ⟨nb', 4, none⟩ = some (.slice A xs.length cap) ∧ W.cell? ⟨rb, 0, none⟩ = some (.pointer (some ⟨M.bp, 0, none⟩))) W' := fun rows' ts s W' hm h => ⟨h.gcells.2.2.2.2.1, h.a hm 0⟩
 have hs0 := hst.drew
 have hu0 : W.heap.size ≤ W.drew.heap.size := Nat.le_refl _
 clear hneR hne HR hr hbx hst hv hc htb hc1 hxc
 go_enter Tryz.func190, Tryz.ntmps190
 go_wp2_with fail
 refine wp_region_G [6] (fun W => W.cell? ⟨nb', 4, none⟩ = some (.slice A xs.length cap) ∧ W.cell? ⟨rb, 0, none⟩ = some (.pointer (some ⟨M.bp, 0, none⟩))) (by rfl) ?_ (fun hHeld => ?_)
 · exact K _ _ _ _ hrb hs0
 refine tk 0 (h := tk 1 (h := tk 2 (h := tk 4 (h := ?_))))
 try simp only [nm]
 refine wpAnyG_ready (rs := [3, 5]) (by kernel_rfl) (by simp) ?_
 refine AllReadyG.cons rfl (fun KK hKK => ?_) (AllReadyG.cons rfl (fun KK hKK => ?_) AllReadyG.nil)
 · go_simp
   go_at_call 37
   refine Post.use HSP.out HNE.out (fun h => hK.expr _ _ hs0.rd h) (fun i W' hi hf => ⟨rfl, clo_bad hi (foot_of HB0.out (hs0.fp.trans hf) (Nat.le_trans hu0 (Foot.size hf)))⟩) ?_
   intro x1 s1 v1 w1 hsp hv hr1 hf1
   obtain ⟨k1, t1, n1, a1, ks1⟩ := x1
   obtain ⟨A1, cap1, rfl⟩ := VNd.form hv
   have hs1 := hs0.read hr1 hf1 hv
   have hu1 := Nat.le_trans hu0 (Foot.size hf1)
   refine hKK.out _ _ (K _ _ _ _ hrb hs1) (fun hHeld => ?_)
   clear hKK KK
   try simp only [nm]
   refine rd1 5 fun KK hKK => ?_
   go_simp
   have hs2 := hs1.pz
   have hu2 := size_up hu1 (.cells #[.int .i64 0, .string ⟨#[]⟩, .int .i64 0, .int .i64 0, .slice none 0 0] 25 (0, 0))
   refine hKK.out _ _ (K _ _ _ _ (U1 hrb) hs2) (fun hHeld => ?_)
   clear hKK KK
   try simp only [nm]
   refine rl1 6 fun KK hKK => ?_
   refine step_append_lies _ rfl (.tmp 3) (.tmp 7) 23 rfl w0.heap.size 25 i0 _ 5 64 Tryz.underlying23 hi hz0 hz1 hz2 rfl (by decide) _ _ _ rfl (show World.ownsRow _ w0.heap.size 25 5 (.slice A xs.length cap) xs.length (treeCells xs) from hs2.gown) _ 1 1 [.int .i64 0, .string ⟨#[]⟩, .int .i64 0, .int .i64 0, .slice none 0 0] rfl rfl (newsRow (hs2.bx.rw _ M0).2) zeroOne (by decide) (by unfold maxLen; omega) (by omega) hs2.bx.size _ rfl ?_
   intro b capb w2 ho2 hg2 hb2 hbl2
   obtain ⟨⟨e0, e1, e2, e3, e4⟩, ef, n4, nf, hne, hbox, hlen⟩ := hs2.newElem rfl ho2 hg2 hb2
   have hne1 : (nb' = b) = False := by simpa using fun e => hne e.symm
   have hne2 : (b = nb') = False := by simpa using hne
   have HSF := Lib.hid (And.intro hs2 (And.intro ho2 (And.intro hg2 (And.intro hb2 (And.intro hbox hlen)))))
   refine hKK.out _ _ ?_
   clear hKK KK
   refine tq 7 (h := tq 9 (h := ?_))
   try simp only [nm]
   refine wpAny_ready' (rs := [8, 10]) (by kernel_rfl) (by simp) ?_
   refine allReady_cons rfl (fun KK hKK => ?_) (allReady_cons rfl (fun KK hKK => ?_) allReady_nil)
   · go_simp
     refine hKK.out _ _ ?_
     clear hKK KK
     try simp only [nm]
     refine rp1 10 fun KK hKK => ?_
     go_simp
     refine hKK.out _ _ ?_
     clear hKK KK
     try simp only [nm]
     refine wpAny_done (by kernel_rfl) ?_ _
     go_wp2_with fail
     go_end0
     have hA := AppTo.elemFirst (lo := w0.heap.size) HSF.out.2.1 HSF.out.2.2.2.2.1 (fun e => hne e.symm) HSF.out.2.2.2.2.2 (.int .i64 k1) (.string t1) (.int .i64 n1) (.int .i64 a1) (.slice A1 ks1.length cap1)
     have hfin := HSF.out.1.appended (zs := [.int .i64 0, .string ⟨#[]⟩, .int .i64 0, .int .i64 0, .slice none 0 0]) HSF.out.2.1 HSF.out.2.2.1 HSF.out.2.2.2.1 (ys := [(.mk k1 t1 n1 a1 ks1, .agg #[.int .i64 k1, .string t1, .int .i64 n1, .int .i64 a1, .slice A1 ks1.length cap1])]) (fun y hy => by rw [List.mem_singleton.1 hy]; exact List.mem_cons_self ..) hA rfl
     refine clo_push hsp.symm hfin.retire HB0.out ?_
     rw [hA.size]; exact Nat.le_trans (by assumption) HSF.out.2.2.1.size
   · go_simp
     refine hKK.out _ _ ?_
     clear hKK KK
     try simp only [nm]
     refine rp1 8 fun KK hKK => ?_
     go_simp
     refine hKK.out _ _ ?_
     clear hKK KK
     try simp only [nm]
     refine wpAny_done (by kernel_rfl) ?_ _
     go_wp2_with fail
     go_end0
     have hA := AppTo.boxFirst (lo := w0.heap.size) HSF.out.2.1 HSF.out.2.2.2.2.1 (fun e => hne e.symm) HSF.out.2.2.2.2.2 (.int .i64 k1) (.string t1) (.int .i64 n1) (.int .i64 a1) (.slice A1 ks1.length cap1)
     have hfin := HSF.out.1.appended (zs := [.int .i64 0, .string ⟨#[]⟩, .int .i64 0, .int .i64 0, .slice none 0 0]) HSF.out.2.1 HSF.out.2.2.1 HSF.out.2.2.2.1 (ys := [(.mk k1 t1 n1 a1 ks1, .agg #[.int .i64 k1, .string t1, .int .i64 n1, .int .i64 a1, .slice A1 ks1.length cap1])]) (fun y hy => by rw [List.mem_singleton.1 hy]; exact List.mem_cons_self ..) hA rfl
     refine clo_push hsp.symm hfin.retire HB0.out ?_
     rw [hA.size]; exact Nat.le_trans (by assumption) HSF.out.2.2.1.size
 · go_simp
   have hs1 := hs0.pz
   have hu1 := size_up hu0 (.cells #[.int .i64 0, .string ⟨#[]⟩, .int .i64 0, .int .i64 0, .slice none 0 0] 25 (0, 0))
   refine hKK.out _ _ (K _ _ _ _ (U1 hrb) hs1) (fun hHeld => ?_)
   clear hKK KK
   try simp only [nm]
   refine rd1 3 fun KK hKK => ?_
   go_simp
   go_at_call 37
   refine Post.use HSP.out HNE.out (fun h => hK.expr _ _ hs1.rd h) (fun i W' hi hf => ⟨rfl, clo_bad hi (foot_of HB0.out (hs1.fp.trans hf) (Nat.le_trans hu1 (Foot.size hf)))⟩) ?_
   intro x1 s1 v1 w1 hsp hv hr1 hf1
   obtain ⟨k1, t1, n1, a1, ks1⟩ := x1
   obtain ⟨A1, cap1, rfl⟩ := VNd.form hv
   have hs2 := hs1.read hr1 hf1 hv
   have hu2 := Nat.le_trans hu1 (Foot.size hf1)
   refine hKK.out _ _ (K _ _ _ _ (U1 hrb) hs2) (fun hHeld => ?_)
   clear hKK KK
   try simp only [nm]
   refine rl1 6 fun KK hKK => ?_
   refine step_append_lies _ rfl (.tmp 3) (.tmp 7) 23 rfl w0.heap.size 25 i0 _ 5 64 Tryz.underlying23 hi hz0 hz1 hz2 rfl (by decide) _ _ _ rfl (show World.ownsRow _ w0.heap.size 25 5 (.slice A xs.length cap) xs.length (treeCells xs) from hs2.gown) _ 1 1 [.int .i64 0, .string ⟨#[]⟩, .int .i64 0, .int .i64 0, .slice none 0 0] rfl rfl (newsRow (hs2.bx.rw _ M0).2) zeroOne (by decide) (by unfold maxLen; omega) (by omega) hs2.bx.size _ rfl ?_
   intro b capb w2 ho2 hg2 hb2 hbl2
   obtain ⟨⟨e0, e1, e2, e3, e4⟩, ef, n4, nf, hne, hbox, hlen⟩ := hs2.newElem rfl ho2 hg2 hb2
   have hne1 : (nb' = b) = False := by simpa using fun e => hne e.symm
   have hne2 : (b = nb') = False := by simpa using hne
   have HSF := Lib.hid (And.intro hs2 (And.intro ho2 (And.intro hg2 (And.intro hb2 (And.intro hbox hlen)))))
   refine hKK.out _ _ ?_
   clear hKK KK
   refine tq 7 (h := tq 9 (h := ?_))
   try simp only [nm]
   refine wpAny_ready' (rs := [8, 10]) (by kernel_rfl) (by simp) ?_
   refine allReady_cons rfl (fun KK hKK => ?_) (allReady_cons rfl (fun KK hKK => ?_) allReady_nil)
   · go_simp
     refine hKK.out _ _ ?_
     clear hKK KK
     try simp only [nm]
     refine rp1 10 fun KK hKK => ?_
     go_simp
     refine hKK.out _ _ ?_
     clear hKK KK
     try simp only [nm]
     refine wpAny_done (by kernel_rfl) ?_ _
     go_wp2_with fail
     go_end0
     have hA := AppTo.elemFirst (lo := w0.heap.size) HSF.out.2.1 HSF.out.2.2.2.2.1 (fun e => hne e.symm) HSF.out.2.2.2.2.2 (.int .i64 k1) (.string t1) (.int .i64 n1) (.int .i64 a1) (.slice A1 ks1.length cap1)
     have hfin := HSF.out.1.appended (zs := [.int .i64 0, .string ⟨#[]⟩, .int .i64 0, .int .i64 0, .slice none 0 0]) HSF.out.2.1 HSF.out.2.2.1 HSF.out.2.2.2.1 (ys := [(.mk k1 t1 n1 a1 ks1, .agg #[.int .i64 k1, .string t1, .int .i64 n1, .int .i64 a1, .slice A1 ks1.length cap1])]) (fun y hy => by rw [List.mem_singleton.1 hy]; exact List.mem_cons_self ..) hA rfl
     refine clo_push hsp.symm hfin.retire HB0.out ?_
     rw [hA.size]; exact Nat.le_trans (by assumption) HSF.out.2.2.1.size
   · go_simp
     refine hKK.out _ _ ?_
     clear hKK KK
     try simp only [nm]
     refine rp1 8 fun KK hKK => ?_
     go_simp
     refine hKK.out _ _ ?_
     clear hKK KK
     try simp only [nm]
     refine wpAny_done (by kernel_rfl) ?_ _
     go_wp2_with fail
     go_end0
     have hA := AppTo.boxFirst (lo := w0.heap.size) HSF.out.2.1 HSF.out.2.2.2.2.1 (fun e => hne e.symm) HSF.out.2.2.2.2.2 (.int .i64 k1) (.string t1) (.int .i64 n1) (.int .i64 a1) (.slice A1 ks1.length cap1)
     have hfin := HSF.out.1.appended (zs := [.int .i64 0, .string ⟨#[]⟩, .int .i64 0, .int .i64 0, .slice none 0 0]) HSF.out.2.1 HSF.out.2.2.1 HSF.out.2.2.2.1 (ys := [(.mk k1 t1 n1 a1 ks1, .agg #[.int .i64 k1, .string t1, .int .i64 n1, .int .i64 a1, .slice A1 ks1.length cap1])]) (fun y hy => by rw [List.mem_singleton.1 hy]; exact List.mem_cons_self ..) hA rfl
     refine clo_push hsp.symm hfin.retire HB0.out ?_
     rw [hA.size]; exact Nat.le_trans (by assumption) HSF.out.2.2.1.size

set_option maxRecDepth 100000 in
set_option maxHeartbeats 4000000 in
theorem bracketed2_clo (_hE : EnvOk E M) (hK : KOK E M K) {rb nb C : Nat} (hC : C ≤ 1000000) (hrb : (rb, #[.pointer (some ⟨M.bp, 0, none⟩)], 75) ∈ rows) :
 Clo E M w0.heap.size (InvG E M w0 rows nb) (fun a => a.kids.length) C 1 269 #[.pointer (some ⟨nb, 0, none⟩), .pointer (some ⟨rb, 0, none⟩)] (exprPush K) := by
 refine ⟨fun W => rfl, fun a s W hr hi hc hne => ?_⟩
 obtain ⟨g, hgn, rfl, hbx, htb⟩ := hi
 obtain ⟨nb', k, sx, n, a, v, xs⟩ := g
 obtain rfl : nb' = nb := hgn
 obtain ⟨R, HR⟩ : ∃ R, Hid (exprPush K (Gv.nd ⟨nb', k, sx, n, a, v, xs⟩) s = R) := ⟨_, rfl⟩
 have hneR : R ≠ .out := by rw [← HR.out]; exact hne
 rw [HR.out]
 have HNE := Lib.hid hneR
 have HSP : Hid ((K.expr s).bind (fun x s => .ok (Nd.push (Gv.nd ⟨nb', k, sx, n, a, v, xs⟩) x) s) = R) := HR.out
 have hst : St E M w0 rows (some ⟨nb', k, sx, n, a, v, xs⟩) [] s W := ⟨hr, hbx, htb⟩
 obtain ⟨A, cap, hv, hc1, hc2⟩ := row_form hst.gown
 have hv' : v = .slice A xs.length cap := hv
 subst hv'
 have hxc : xs.length ≤ C := by simpa [Gv.nd, Nd.kids] using hc
 have hxl : xs.length ≤ 1000000 := Nat.le_trans hxc hC
 have hc1' : xs.length ≤ cap := hc1
 have hbd : ((xs.length : Int) < (xs.length : Int) + 1) = True := by simp; omega
 have HB0 := Lib.hid hbx.fp
 obtain ⟨i0, hi, hz0, hz1, hz2⟩ := info_parts infoNd
 have K : ∀ rows' ts s W', (rb, #[.pointer (some ⟨M.bp, 0, none⟩)], 75) ∈ rows' → St E M w0 rows' (some ⟨nb', k, sx, n, a, .slice A xs.length cap, xs⟩) ts s W' → (fun W => W.cell? ⟨nb', 4, none⟩ = some (.slice A xs.length cap) ∧ W.cell? ⟨rb, 0, none⟩ = some (.pointer (some ⟨M.bp, 0, none⟩))) W' := fun rows' ts s W' hm h => ⟨h.gcells.2.2.2.2.1, h.a hm 0⟩
 have hs0 := hst.drew
 have hu0 : W.heap.size ≤ W.drew.heap.size := Nat.le_refl _
 clear hneR hne HR hr hbx hst hv hc htb hc1 hxc
 go_enter Tryz.func269, Tryz.ntmps269
 go_wp2_with fail
 refine wp_region_G [6] (fun W => W.cell? ⟨nb', 4, none⟩ = some (.slice A xs.length cap) ∧ W.cell? ⟨rb, 0, none⟩ = some (.pointer (some ⟨M.bp, 0, none⟩))) (by rfl) ?_ (fun hHeld => ?_)
 · exact K _ _ _ _ hrb hs0
 refine tk 0 (h := tk 1 (h := tk 2 (h := tk 4 (h := ?_))))
 try simp only [nm]
 refine wpAnyG_ready (rs := [3, 5]) (by kernel_rfl) (by simp) ?_
 refine AllReadyG.cons rfl (fun KK hKK => ?_) (AllReadyG.cons rfl (fun KK hKK => ?_) AllReadyG.nil)
 · go_simp
   go_at_call 37
   refine Post.use HSP.out HNE.out (fun h => hK.expr _ _ hs0.rd h) (fun i W' hi hf => ⟨rfl, clo_bad hi (foot_of HB0.out (hs0.fp.trans hf) (Nat.le_trans hu0 (Foot.size hf)))⟩) ?_
   intro x1 s1 v1 w1 hsp hv hr1 hf1
   obtain ⟨k1, t1, n1, a1, ks1⟩ := x1
   obtain ⟨A1, cap1, rfl⟩ := VNd.form hv
   have hs1 := hs0.read hr1 hf1 hv
   have hu1 := Nat.le_trans hu0 (Foot.size hf1)
   refine hKK.out _ _ (K _ _ _ _ hrb hs1) (fun hHeld => ?_)
   clear hKK KK
   try simp only [nm]
   refine rd1 5 fun KK hKK => ?_
   go_simp
   have hs2 := hs1.pz
   have hu2 := size_up hu1 (.cells #[.int .i64 0, .string ⟨#[]⟩, .int .i64 0, .int .i64 0, .slice none 0 0] 25 (0, 0))
   refine hKK.out _ _ (K _ _ _ _ (U1 hrb) hs2) (fun hHeld => ?_)
   clear hKK KK
   try simp only [nm]
   refine rl1 6 fun KK hKK => ?_
   refine step_append_lies _ rfl (.tmp 3) (.tmp 7) 23 rfl w0.heap.size 25 i0 _ 5 64 Tryz.underlying23 hi hz0 hz1 hz2 rfl (by decide) _ _ _ rfl (show World.ownsRow _ w0.heap.size 25 5 (.slice A xs.length cap) xs.length (treeCells xs) from hs2.gown) _ 1 1 [.int .i64 0, .string ⟨#[]⟩, .int .i64 0, .int .i64 0, .slice none 0 0] rfl rfl (newsRow (hs2.bx.rw _ M0).2) zeroOne (by decide) (by unfold maxLen; omega) (by omega) hs2.bx.size _ rfl ?_
   intro b capb w2 ho2 hg2 hb2 hbl2
   obtain ⟨⟨e0, e1, e2, e3, e4⟩, ef, n4, nf, hne, hbox, hlen⟩ := hs2.newElem rfl ho2 hg2 hb2
   have hne1 : (nb' = b) = False := by simpa using fun e => hne e.symm
   have hne2 : (b = nb') = False := by simpa using hne
   have HSF := Lib.hid (And.intro hs2 (And.intro ho2 (And.intro hg2 (And.intro hb2 (And.intro hbox hlen)))))
   refine hKK.out _ _ ?_
   clear hKK KK
   refine tq 7 (h := tq 9 (h := ?_))
   try simp only [nm]
   refine wpAny_ready' (rs := [8, 10]) (by kernel_rfl) (by simp) ?_
   refine allReady_cons rfl (fun KK hKK => ?_) (allReady_cons rfl (fun KK hKK => ?_) allReady_nil)
   · go_simp
     refine hKK.out _ _ ?_
     clear hKK KK
     try simp only [nm]
     refine rp1 10 fun KK hKK => ?_
     go_simp
     refine hKK.out _ _ ?_
     clear hKK KK
     try simp only [nm]
     refine wpAny_done (by kernel_rfl) ?_ _
     go_wp2_with fail
     go_end0
     have hA := AppTo.elemFirst (lo := w0.heap.size) HSF.out.2.1 HSF.out.2.2.2.2.1 (fun e => hne e.symm) HSF.out.2.2.2.2.2 (.int .i64 k1) (.string t1) (.int .i64 n1) (.int .i64 a1) (.slice A1 ks1.length cap1)
     have hfin := HSF.out.1.appended (zs := [.int .i64 0, .string ⟨#[]⟩, .int .i64 0, .int .i64 0, .slice none 0 0]) HSF.out.2.1 HSF.out.2.2.1 HSF.out.2.2.2.1 (ys := [(.mk k1 t1 n1 a1 ks1, .agg #[.int .i64 k1, .string t1, .int .i64 n1, .int .i64 a1, .slice A1 ks1.length cap1])]) (fun y hy => by rw [List.mem_singleton.1 hy]; exact List.mem_cons_self ..) hA rfl
     refine clo_push hsp.symm hfin.retire HB0.out ?_
     rw [hA.size]; exact Nat.le_trans (by assumption) HSF.out.2.2.1.size
   · go_simp
     refine hKK.out _ _ ?_
     clear hKK KK
     try simp only [nm]
     refine rp1 8 fun KK hKK => ?_
     go_simp
     refine hKK.out _ _ ?_
     clear hKK KK
     try simp only [nm]
     refine wpAny_done (by kernel_rfl) ?_ _
     go_wp2_with fail
     go_end0
     have hA := AppTo.boxFirst (lo := w0.heap.size) HSF.out.2.1 HSF.out.2.2.2.2.1 (fun e => hne e.symm) HSF.out.2.2.2.2.2 (.int .i64 k1) (.string t1) (.int .i64 n1) (.int .i64 a1) (.slice A1 ks1.length cap1)
     have hfin := HSF.out.1.appended (zs := [.int .i64 0, .string ⟨#[]⟩, .int .i64 0, .int .i64 0, .slice none 0 0]) HSF.out.2.1 HSF.out.2.2.1 HSF.out.2.2.2.1 (ys := [(.mk k1 t1 n1 a1 ks1, .agg #[.int .i64 k1, .string t1, .int .i64 n1, .int .i64 a1, .slice A1 ks1.length cap1])]) (fun y hy => by rw [List.mem_singleton.1 hy]; exact List.mem_cons_self ..) hA rfl
     refine clo_push hsp.symm hfin.retire HB0.out ?_
     rw [hA.size]; exact Nat.le_trans (by assumption) HSF.out.2.2.1.size
 · go_simp
   have hs1 := hs0.pz
   have hu1 := size_up hu0 (.cells #[.int .i64 0, .string ⟨#[]⟩, .int .i64 0, .int .i64 0, .slice none 0 0] 25 (0, 0))
   refine hKK.out _ _ (K _ _ _ _ (U1 hrb) hs1) (fun hHeld => ?_)
   clear hKK KK
   try simp only [nm]
   refine rd1 3 fun KK hKK => ?_
   go_simp
   go_at_call 37
   refine Post.use HSP.out HNE.out (fun h => hK.expr _ _ hs1.rd h) (fun i W' hi hf => ⟨rfl, clo_bad hi (foot_of HB0.out (hs1.fp.trans hf) (Nat.le_trans hu1 (Foot.size hf)))⟩) ?_
   intro x1 s1 v1 w1 hsp hv hr1 hf1
   obtain ⟨k1, t1, n1, a1, ks1⟩ := x1
   obtain ⟨A1, cap1, rfl⟩ := VNd.form hv
   have hs2 := hs1.read hr1 hf1 hv
   have hu2 := Nat.le_trans hu1 (Foot.size hf1)
   refine hKK.out _ _ (K _ _ _ _ (U1 hrb) hs2) (fun hHeld => ?_)
   clear hKK KK
   try simp only [nm]
   refine rl1 6 fun KK hKK => ?_
   refine step_append_lies _ rfl (.tmp 3) (.tmp 7) 23 rfl w0.heap.size 25 i0 _ 5 64 Tryz.underlying23 hi hz0 hz1 hz2 rfl (by decide) _ _ _ rfl (show World.ownsRow _ w0.heap.size 25 5 (.slice A xs.length cap) xs.length (treeCells xs) from hs2.gown) _ 1 1 [.int .i64 0, .string ⟨#[]⟩, .int .i64 0, .int .i64 0, .slice none 0 0] rfl rfl (newsRow (hs2.bx.rw _ M0).2) zeroOne (by decide) (by unfold maxLen; omega) (by omega) hs2.bx.size _ rfl ?_
   intro b capb w2 ho2 hg2 hb2 hbl2
   obtain ⟨⟨e0, e1, e2, e3, e4⟩, ef, n4, nf, hne, hbox, hlen⟩ := hs2.newElem rfl ho2 hg2 hb2
   have hne1 : (nb' = b) = False := by simpa using fun e => hne e.symm
   have hne2 : (b = nb') = False := by simpa using hne
   have HSF := Lib.hid (And.intro hs2 (And.intro ho2 (And.intro hg2 (And.intro hb2 (And.intro hbox hlen)))))
   refine hKK.out _ _ ?_
   clear hKK KK
   refine tq 7 (h := tq 9 (h := ?_))
   try simp only [nm]
   refine wpAny_ready' (rs := [8, 10]) (by kernel_rfl) (by simp) ?_
   refine allReady_cons rfl (fun KK hKK => ?_) (allReady_cons rfl (fun KK hKK => ?_) allReady_nil)
   · go_simp
     refine hKK.out _ _ ?_
     clear hKK KK
     try simp only [nm]
     refine rp1 10 fun KK hKK => ?_
     go_simp
     refine hKK.out _ _ ?_
     clear hKK KK
     try simp only [nm]
     refine wpAny_done (by kernel_rfl) ?_ _
     go_wp2_with fail
     go_end0
     have hA := AppTo.elemFirst (lo := w0.heap.size) HSF.out.2.1 HSF.out.2.2.2.2.1 (fun e => hne e.symm) HSF.out.2.2.2.2.2 (.int .i64 k1) (.string t1) (.int .i64 n1) (.int .i64 a1) (.slice A1 ks1.length cap1)
     have hfin := HSF.out.1.appended (zs := [.int .i64 0, .string ⟨#[]⟩, .int .i64 0, .int .i64 0, .slice none 0 0]) HSF.out.2.1 HSF.out.2.2.1 HSF.out.2.2.2.1 (ys := [(.mk k1 t1 n1 a1 ks1, .agg #[.int .i64 k1, .string t1, .int .i64 n1, .int .i64 a1, .slice A1 ks1.length cap1])]) (fun y hy => by rw [List.mem_singleton.1 hy]; exact List.mem_cons_self ..) hA rfl
     refine clo_push hsp.symm hfin.retire HB0.out ?_
     rw [hA.size]; exact Nat.le_trans (by assumption) HSF.out.2.2.1.size
   · go_simp
     refine hKK.out _ _ ?_
     clear hKK KK
     try simp only [nm]
     refine rp1 8 fun KK hKK => ?_
     go_simp
     refine hKK.out _ _ ?_
     clear hKK KK
     try simp only [nm]
     refine wpAny_done (by kernel_rfl) ?_ _
     go_wp2_with fail
     go_end0
     have hA := AppTo.boxFirst (lo := w0.heap.size) HSF.out.2.1 HSF.out.2.2.2.2.1 (fun e => hne e.symm) HSF.out.2.2.2.2.2 (.int .i64 k1) (.string t1) (.int .i64 n1) (.int .i64 a1) (.slice A1 ks1.length cap1)
     have hfin := HSF.out.1.appended (zs := [.int .i64 0, .string ⟨#[]⟩, .int .i64 0, .int .i64 0, .slice none 0 0]) HSF.out.2.1 HSF.out.2.2.1 HSF.out.2.2.2.1 (ys := [(.mk k1 t1 n1 a1 ks1, .agg #[.int .i64 k1, .string t1, .int .i64 n1, .int .i64 a1, .slice A1 ks1.length cap1])]) (fun y hy => by rw [List.mem_singleton.1 hy]; exact List.mem_cons_self ..) hA rfl
     refine clo_push hsp.symm hfin.retire HB0.out ?_
     rw [hA.size]; exact Nat.le_trans (by assumption) HSF.out.2.2.1.size

set_option maxRecDepth 100000 in
set_option maxHeartbeats 2000000 in
theorem params1_clo (hE : EnvOk E M) (hKf : K.fuel ≤ 900000) {rb nb : Nat} (hrb : (rb, #[.pointer (some ⟨M.bp, 0, none⟩)], 75) ∈ rows) :
 Clo E M w0.heap.size (InvG E M w0 rows nb) (fun a => a.kids.length) 10 K.fuel 195 #[.pointer (some ⟨rb, 0, none⟩), .pointer (some ⟨nb, 0, none⟩)] (rowR E [41] (namePush E) K.fuel) := by
 refine ⟨fun W => rfl, fun a s W hr hi hc hne => ?_⟩
 have hc' : a.kids.length ≤ 10 := hc
 have hf : K.fuel ≤ 900000 := hKf
 have hcall := row_rd hE (keepsG E M w0 rows nb) (params2_clo (C := 999999) hE (by decide) hrb) ⟨#[41]⟩ [41] rfl K.fuel a s W hr hi (show a.kids.length + K.fuel ≤ 999999 + 1 by omega) hne
 obtain ⟨g, _, _, hbx, _⟩ := hi
 have q0 : W.cell? ⟨rb, 0, none⟩ = some (.pointer (some ⟨M.bp, 0, none⟩)) := hbx.at_ hrb 0 rfl
 have hmf : ∀ (fn : Fn) (first cap : Array Value) (w : World), (Instr.makeFunc fn first cap).run Tryz.prog w = .ok (.func fn first cap) w := fun _ _ _ _ => rfl
 obtain ⟨R, HR⟩ : ∃ R, Hid (rowR E [41] (namePush E) K.fuel a s = R) := ⟨_, rfl⟩
 rw [HR.out] at hcall hne ⊢
 have HC := Lib.hid hcall
 have HNE := Lib.hid hne
 clear hcall hne hbx hc hc' hf HR
 go_enter Tryz.func195, Tryz.ntmps195
 go_wp2_with (go_at_call 189; refine CloPost.use (bind_ok R) HNE.out (fun _ => HC.out) (fun i W' hi hf => ⟨rfl, clo_bad hi hf⟩) ?_; intro x1 s1 w1 hk1 hr1 hi1 hf1 hc1)
 go_end0
 rw [← hk1]
 exact ⟨rfl, hr1, hi1, hf1, hc1⟩

set_option maxRecDepth 100000 in
set_option maxHeartbeats 2000000 in
theorem post1_clo (hE : EnvOk E M) (hK : KOK E M K) {rb nb : Nat} (hrb : (rb, #[.pointer (some ⟨M.bp, 0, none⟩)], 75) ∈ rows) :
 Clo E M w0.heap.size (InvG E M w0 rows nb) (fun a => a.kids.length) 10 K.fuel 188 #[.pointer (some ⟨rb, 0, none⟩), .pointer (some ⟨nb, 0, none⟩)] (rowR E [41] (exprPush K) K.fuel) := by
 refine ⟨fun W => rfl, fun a s W hr hi hc hne => ?_⟩
 have hc' : a.kids.length ≤ 10 := hc
 have hf : K.fuel ≤ 900000 := hK.fuel
 have hcall := row_rd hE (keepsG E M w0 rows nb) (post2_clo (C := 999999) hE hK (by decide) hrb) ⟨#[41]⟩ [41] rfl K.fuel a s W hr hi (show a.kids.length + K.fuel ≤ 999999 + 1 by omega) hne
 obtain ⟨g, _, _, hbx, _⟩ := hi
 have q0 : W.cell? ⟨rb, 0, none⟩ = some (.pointer (some ⟨M.bp, 0, none⟩)) := hbx.at_ hrb 0 rfl
 have hmf : ∀ (fn : Fn) (first cap : Array Value) (w : World), (Instr.makeFunc fn first cap).run Tryz.prog w = .ok (.func fn first cap) w := fun _ _ _ _ => rfl
 obtain ⟨R, HR⟩ : ∃ R, Hid (rowR E [41] (exprPush K) K.fuel a s = R) := ⟨_, rfl⟩
 rw [HR.out] at hcall hne ⊢
 have HC := Lib.hid hcall
 have HNE := Lib.hid hne
 clear hcall hne hbx hc hc' hf HR
 go_enter Tryz.func188, Tryz.ntmps188
 go_wp2_with (go_at_call 189; refine CloPost.use (bind_ok R) HNE.out (fun _ => HC.out) (fun i W' hi hf => ⟨rfl, clo_bad hi hf⟩) ?_; intro x1 s1 w1 hk1 hr1 hi1 hf1 hc1)
 go_end0
 rw [← hk1]
 exact ⟨rfl, hr1, hi1, hf1, hc1⟩

set_option maxRecDepth 100000 in
set_option maxHeartbeats 2000000 in
theorem bracketed2r_clo (hE : EnvOk E M) (hK : KOK E M K) {rb nb : Nat} (hrb : (rb, #[.pointer (some ⟨M.bp, 0, none⟩)], 75) ∈ rows) :
 Clo E M w0.heap.size (InvG E M w0 rows nb) (fun a => a.kids.length) 10 K.fuel 268 #[.pointer (some ⟨rb, 0, none⟩), .pointer (some ⟨nb, 0, none⟩)] (rowR E [93] (exprPush K) K.fuel) := by
 refine ⟨fun W => rfl, fun a s W hr hi hc hne => ?_⟩
 have hc' : a.kids.length ≤ 10 := hc
 have hf : K.fuel ≤ 900000 := hK.fuel
 have hcall := row_rd hE (keepsG E M w0 rows nb) (bracketed2_clo (C := 999999) hE hK (by decide) hrb) ⟨#[93]⟩ [93] rfl K.fuel a s W hr hi (show a.kids.length + K.fuel ≤ 999999 + 1 by omega) hne
 obtain ⟨g, _, _, hbx, _⟩ := hi
 have q0 : W.cell? ⟨rb, 0, none⟩ = some (.pointer (some ⟨M.bp, 0, none⟩)) := hbx.at_ hrb 0 rfl
 have hmf : ∀ (fn : Fn) (first cap : Array Value) (w : World), (Instr.makeFunc fn first cap).run Tryz.prog w = .ok (.func fn first cap) w := fun _ _ _ _ => rfl
 obtain ⟨R, HR⟩ : ∃ R, Hid (rowR E [93] (exprPush K) K.fuel a s = R) := ⟨_, rfl⟩
 rw [HR.out] at hcall hne ⊢
 have HC := Lib.hid hcall
 have HNE := Lib.hid hne
 clear hcall hne hbx hc hc' hf HR
 go_enter Tryz.func268, Tryz.ntmps268
 go_wp2_with (go_at_call 189; refine CloPost.use (bind_ok R) HNE.out (fun _ => HC.out) (fun i W' hi hf => ⟨rfl, clo_bad hi hf⟩) ?_; intro x1 s1 w1 hk1 hr1 hi1 hf1 hc1)
 go_end0
 rw [← hk1]
 exact ⟨rfl, hr1, hi1, hf1, hc1⟩

end
end Go.Proofs.YtokhfhibdeneeaaGreatDoor

namespace Go.Proofs.YtokhfhibdeneeaaGreatDoor
open Go.RowKit
section
variable {E : Env} {M : Rm} {w0 W W' : World} {rows : List Rw} {gs : Option Gv} {ts : List (Nd × Value)} {s s' : Rs} {K : Kn}

set_option maxRecDepth 100000 in
set_option maxHeartbeats 4000000 in
theorem params_rd (hE : EnvOk E M) (hKf : K.fuel ≤ 900000) (h : RdAt E M s W) (hne : paramsR E K s ≠ .out) :
    Calls Tryz.prog 150 #[.pointer (some ⟨M.bp, 0, none⟩)] W (Post E M VNd W (paramsR E K s)) := by
  obtain ⟨R, HR⟩ : ∃ R, Hid (paramsR E K s = R) := ⟨_, rfl⟩
  have hneR : R ≠ .out := by rw [← HR.out]; exact hne
  rw [HR.out]
  have HNE := Lib.hid hneR
  have HSP : Hid (openR E [40] [41] (rowR E [41] (namePush E) K.fuel) (.mk 13 (bs []) 0 (E.tok s.i).at_ []) s = R) := HR.out
  have hs := ((St.init h).push #[.pointer (some ⟨M.bp, 0, none⟩)] 75).push #[.int .i64 0, .string ⟨#[]⟩, .int .i64 0, .int .i64 0, .slice none 0 0] 25
  rw [World.size_alloc] at hs
  have HS := Lib.hid hs
  obtain ⟨qa10, ya10⟩ := hs.bx.c1 (List.mem_cons_of_mem _ (List.mem_cons_self ..))
  have hfi := fieldTok2
  have hmf : ∀ (fn : Fn) (first cap : Array Value) (w : World), (Instr.makeFunc fn first cap).run Tryz.prog w = .ok (.func fn first cap) w := fun _ _ _ _ => rfl
  clear hneR hne HR h hs
  go_enter Tryz.func150, Tryz.ntmps150
  go_wp2_with (first
    | (go_at_call 42; refine (at0_rd hE HS.out.rd).mono ?_; rintro e w1 ⟨rfl, hb⟩; have hs := (HS.out.below hb).push #[.int .i64 13, .string ⟨#[]⟩, .int .i64 0, .int .i64 (E.tok s.i).at_, .slice none 0 0] 25; obtain ⟨qb20, yb20⟩ := hs.bx.c1 (List.mem_cons_of_mem _ (List.mem_cons_of_mem _ (List.mem_cons_self ..))); have HS1 := Lib.hid (hs.grow0 ⟨by decide, by decide⟩ ⟨by decide, by decide⟩ (hE.at_ _) (by decide)); clear hs hb))
  go_at_call 181
  refine CloPost.use (bind_okR HSP.out) HNE.out (fun h0 => open_rd hE (keepsG E M W [(W.heap.size + 1, #[.int .i64 0, .string ⟨#[]⟩, .int .i64 0, .int .i64 0, .slice none 0 0], 25), (W.heap.size, #[.pointer (some ⟨M.bp, 0, none⟩)], 75)] w1.heap.size) (params1_clo hE hKf (List.mem_cons_of_mem _ (List.mem_cons_self ..))) _ _ [40] [41] rfl rfl _ s _ HS1.out.rd ⟨_, rfl, rfl, HS1.out.bx, HS1.out.tb⟩ (Nat.zero_le _) h0) (fun i W' hi hf => ⟨rfl, bad_end hi (HS1.out.fp.trans' hf)⟩) ?_
  intro x1 s1 w2 hk1 hr1 hi1 hf1 hc1
  obtain ⟨g, hg1, hg2, hg3, hg4⟩ := hi1
  obtain ⟨nb', k, sx, n, a, v, xs⟩ := g
  obtain rfl : nb' = w1.heap.size := hg1
  have hs : St E M W _ _ [] s1 w2 := ⟨hr1, hg3, hg4⟩
  obtain ⟨A, cap, hv, _, _⟩ := row_form hs.gown
  have hv' : v = .slice A xs.length cap := hv
  subst hv'
  obtain ⟨g0, g1, g2, g3, g4, gf⟩ := hs.gcells
  obtain ⟨qc00, qc01, qc02, qc03, qc04, yc00, yc01, yc02, yc03, yc04⟩ := hs.bx.c5 (List.mem_cons_self ..)
  have HS2 := Lib.hid hs
  clear hs hr1 hg3
  go_wp2_with fail
  have hs := (HS2.out.set5 (.int .i64 k) (.string sx) (.int .i64 n) (.int .i64 a) (.slice A xs.length cap)).grown
  refine St.fin (slot := 2) rfl hs rfl (hs.bx.tr _ (List.mem_cons_self ..)) ?_
  exact (congrArg (fun t => Rr.ok t s1) hg2).trans hk1

end
end Go.Proofs.YtokhfhibdeneeaaGreatDoor

namespace Go.Proofs.YtokhfhibdeneeaaGreatDoor
open Go.RowKit
/-- A variable that holds a tree, for the closures that set it. -/
def InvV (E : Env) (M : Rm) (w0 : World) (rows : List Rw) (nb : Nat) (t : Nd) (W : World) : Prop := ∃ (k n a : Int) (sx : ByteArray) (A : Option Addr) (l cap : Nat),
  Bx M w0 ((nb, #[.int .i64 k, .string sx, .int .i64 n, .int .i64 a, .slice A l cap], 25) :: rows) none [(t, .agg #[.int .i64 k, .string sx, .int .i64 n, .int .i64 a, .slice A l cap])] W ∧ (E.n = 0 ∨ M.tb < w0.heap.size)
theorem keepsV (E : Env) (M : Rm) (w0 : World) (rows : List Rw) (nb : Nat) : Keeps M w0.heap.size (InvV E M w0 rows nb) :=
  ⟨fun _ _ _ hf ⟨k, n, a, sx, A, l, cap, h, h2⟩ => ⟨k, n, a, sx, A, l, cap, h.go hf, h2⟩, fun _ _ ⟨_, _, _, _, _, _, _, h, _⟩ => h.size⟩
section
variable {E : Env} {M : Rm} {w0 W W' : World} {rows : List Rw} {gs : Option Gv} {ts : List (Nd × Value)} {s s' : Rs} {K : Kn}

set_option maxRecDepth 100000 in
set_option maxHeartbeats 4000000 in
theorem block1_clo (_hE : EnvOk E M) (hK : KOK E M K) {at0 : Int} (ha : okI at0) {ab : Nat} {rb nb : Nat} (hrb : (rb, #[.pointer (some ⟨M.bp, 0, none⟩)], 75) ∈ rows) (hab : (ab, #[.int .i64 at0], 3) ∈ rows) :
    Clo E M w0.heap.size (InvV E M w0 rows nb) (fun _ => 0) 0 0 182 #[.pointer (some ⟨rb, 0, none⟩), .pointer (some ⟨ab, 0, none⟩), .pointer (some ⟨nb, 0, none⟩)] (fun _ s => K.stmts at0 s) := by
  refine ⟨fun W => rfl, fun t s W hr hi _ hne => ?_⟩
  obtain ⟨k, n, a, sx, A, l, cap, hbx, htb⟩ := hi
  obtain ⟨R, HR⟩ : ∃ R, Hid (K.stmts at0 s = R) := ⟨_, rfl⟩
  have hneR : R ≠ .out := by rw [← HR.out]; exact hne
  have HNE := Lib.hid hneR
  have hs : St E M w0 ((nb, #[.int .i64 k, .string sx, .int .i64 n, .int .i64 a, .slice A l cap], 25) :: rows) none [(t, .agg #[.int .i64 k, .string sx, .int .i64 n, .int .i64 a, .slice A l cap])] s W := ⟨hr, hbx, htb⟩
  have hg : CloPost E M w0.heap.size (InvV E M w0 rows nb) (fun _ => 0 ≤ 0 + 0) W (K.stmts at0 s) = CloPost E M w0.heap.size (InvV E M w0 rows nb) (fun _ => 0 ≤ 0 + 0) W R := by rw [HR.out]
  rw [hg]
  obtain ⟨q0, y0⟩ := hs.bx.c1 (List.mem_cons_of_mem _ hrb)
  obtain ⟨q1, y1⟩ := hs.bx.c1 (List.mem_cons_of_mem _ hab)
  have HS := Lib.hid hs
  clear hneR hne hg hr hbx htb hs
  go_enter Tryz.func182, Tryz.ntmps182
  go_wp2_with (go_at_call 40; refine Post.use (bind_okR HR.out) HNE.out (fun h => hK.stmts _ _ _ ha HS.out.rd h) (fun i W' hi hf => ⟨rfl, clo_bad hi (Fp.foot hf HS.out.bx.size)⟩) ?_; intro x1 s1 v1 w1 hsp hv hr1 hf1; obtain ⟨k1, t1, n1, a1, ks1⟩ := x1; obtain ⟨A1, cap1, rfl⟩ := VNd.form hv; have hs := HS.out.read hr1 hf1 hv; obtain ⟨qc00, qc01, qc02, qc03, qc04, yc00, yc01, yc02, yc03, yc04⟩ := hs.bx.c5 (List.mem_cons_self ..); have HS1 := Lib.hid (And.intro hs hf1); clear hs hr1 hf1 hv)
  go_end0
  have hs := HS1.out.1.set5 (.int .i64 k1) (.string t1) (.int .i64 n1) (.int .i64 a1) (.slice A1 ks1.length cap1)
  rw [← hsp]
  have hsz := Foot.size HS1.out.2
  exact ⟨rfl, hs.rd, ⟨k1, n1, a1, t1, A1, ks1.length, cap1, hs.bx.sub (fun x hx => by rw [List.mem_singleton.1 hx]; exact List.mem_cons_self ..), hs.tb⟩, foot_of HS.out.fp hs.fp (by simp; omega), Nat.le_refl _⟩

set_option maxRecDepth 100000 in
set_option maxHeartbeats 4000000 in
theorem bracketed1_clo (_hE : EnvOk E M) (hK : KOK E M K) {rb nb : Nat} (hrb : (rb, #[.pointer (some ⟨M.bp, 0, none⟩)], 75) ∈ rows) :
    Clo E M w0.heap.size (InvV E M w0 rows nb) (fun _ => 0) 0 0 267 #[.pointer (some ⟨rb, 0, none⟩), .pointer (some ⟨nb, 0, none⟩)] (fun _ s => K.expr s) := by
  refine ⟨fun W => rfl, fun t s W hr hi _ hne => ?_⟩
  obtain ⟨k, n, a, sx, A, l, cap, hbx, htb⟩ := hi
  obtain ⟨R, HR⟩ : ∃ R, Hid (K.expr s = R) := ⟨_, rfl⟩
  have hneR : R ≠ .out := by rw [← HR.out]; exact hne
  have HNE := Lib.hid hneR
  have hs : St E M w0 ((nb, #[.int .i64 k, .string sx, .int .i64 n, .int .i64 a, .slice A l cap], 25) :: rows) none [(t, .agg #[.int .i64 k, .string sx, .int .i64 n, .int .i64 a, .slice A l cap])] s W := ⟨hr, hbx, htb⟩
  have hg : CloPost E M w0.heap.size (InvV E M w0 rows nb) (fun _ => 0 ≤ 0 + 0) W (K.expr s) = CloPost E M w0.heap.size (InvV E M w0 rows nb) (fun _ => 0 ≤ 0 + 0) W R := by rw [HR.out]
  rw [hg]
  obtain ⟨q0, y0⟩ := hs.bx.c1 (List.mem_cons_of_mem _ hrb)
  have HS := Lib.hid hs
  clear hneR hne hg hr hbx htb hs
  go_enter Tryz.func267, Tryz.ntmps267
  go_wp2_with (go_at_call 37; refine Post.use (bind_okR HR.out) HNE.out (fun h => hK.expr _ _ HS.out.rd h) (fun i W' hi hf => ⟨rfl, clo_bad hi (Fp.foot hf HS.out.bx.size)⟩) ?_; intro x1 s1 v1 w1 hsp hv hr1 hf1; obtain ⟨k1, t1, n1, a1, ks1⟩ := x1; obtain ⟨A1, cap1, rfl⟩ := VNd.form hv; have hs := HS.out.read hr1 hf1 hv; obtain ⟨qc00, qc01, qc02, qc03, qc04, yc00, yc01, yc02, yc03, yc04⟩ := hs.bx.c5 (List.mem_cons_self ..); have HS1 := Lib.hid (And.intro hs hf1); clear hs hr1 hf1 hv)
  go_end0
  have hs := HS1.out.1.set5 (.int .i64 k1) (.string t1) (.int .i64 n1) (.int .i64 a1) (.slice A1 ks1.length cap1)
  rw [← hsp]
  have hsz := Foot.size HS1.out.2
  exact ⟨rfl, hs.rd, ⟨k1, n1, a1, t1, A1, ks1.length, cap1, hs.bx.sub (fun x hx => by rw [List.mem_singleton.1 hx]; exact List.mem_cons_self ..), hs.tb⟩, foot_of HS.out.fp hs.fp (by simp; omega), Nat.le_refl _⟩

set_option maxRecDepth 100000 in
set_option maxHeartbeats 4000000 in
theorem block_rd (hE : EnvOk E M) (hK : KOK E M K) (h : RdAt E M s W) (hne : blockR E K s ≠ .out) :
    Calls Tryz.prog 140 #[.pointer (some ⟨M.bp, 0, none⟩)] W (Post E M VNd W (blockR E K s)) := by
  obtain ⟨R, HR⟩ : ∃ R, Hid (blockR E K s = R) := ⟨_, rfl⟩
  have hneR : R ≠ .out := by rw [← HR.out]; exact hne
  rw [HR.out]
  have HNE := Lib.hid hneR
  have HSP : Hid (openR E [123] [125] (fun _ s' => K.stmts (E.tok s.i).at_ s') nd0 s = R) := HR.out
  have hs := (((St.init h).push #[.pointer (some ⟨M.bp, 0, none⟩)] 75).push #[.int .i64 0, .string ⟨#[]⟩, .int .i64 0, .int .i64 0, .slice none 0 0] 25).push #[.int .i64 0, .string ⟨#[]⟩, .int .i64 0, .int .i64 0, .slice none 0 0] 25
  simp only [World.size_alloc] at hs
  have HS := Lib.hid hs
  obtain ⟨qa20, ya20⟩ := hs.bx.c1 (List.mem_cons_of_mem _ (List.mem_cons_of_mem _ (List.mem_cons_self ..)))
  have hfi := fieldTok2
  have hmf : ∀ (fn : Fn) (first cap : Array Value) (w : World), (Instr.makeFunc fn first cap).run Tryz.prog w = .ok (.func fn first cap) w := fun _ _ _ _ => rfl
  clear hneR hne HR h hs
  go_enter Tryz.func140, Tryz.ntmps140
  go_wp2_with (go_at_call 42; refine (at0_rd hE HS.out.rd).mono ?_; rintro e w1 ⟨rfl, hb⟩; have hs := (HS.out.below hb).push #[.int .i64 (E.tok s.i).at_] 3; obtain ⟨qb30, yb30⟩ := hs.bx.c1 (List.mem_cons_of_mem _ (List.mem_cons_of_mem _ (List.mem_cons_of_mem _ (List.mem_cons_self ..)))); have HS1 := Lib.hid hs; clear hs hb)
  have hs := HS1.out.swap.tree (t := nd0) (v := .agg #[.int .i64 0, .string ⟨#[]⟩, .int .i64 0, .int .i64 0, .slice none 0 0]) (LiesP.leaf ⟨by decide, by decide⟩ ⟨by decide, by decide⟩ ⟨by decide, by decide⟩ (by decide))
  go_at_call 181
  refine CloPost.use (bind_okR HSP.out) HNE.out (fun h0 => open_rd hE (keepsV E M W [(w1.heap.size, #[.int .i64 (E.tok s.i).at_], 3), (W.heap.size + 1, #[.int .i64 0, .string ⟨#[]⟩, .int .i64 0, .int .i64 0, .slice none 0 0], 25), (W.heap.size, #[.pointer (some ⟨M.bp, 0, none⟩)], 75)] (W.heap.size + 1 + 1)) (block1_clo hE hK (ab := w1.heap.size) (hE.at_ _) (List.mem_cons_of_mem _ (List.mem_cons_of_mem _ (List.mem_cons_self ..))) (List.mem_cons_self ..)) _ _ [123] [125] rfl rfl _ s _ hs.rd ⟨_, _, _, _, _, _, _, hs.bx, hs.tb⟩ (Nat.zero_le _) h0) (fun i W' hi hf => ⟨rfl, bad_end hi (hs.fp.trans' hf)⟩) ?_
  intro x1 s1 w2 hk1 hr1 hi1 hf1 _
  obtain ⟨k, n, a, sx, A, l, cap, hbx, htb⟩ := hi1
  have hs2 : St E M W _ _ _ s1 w2 := ⟨hr1, hbx, htb⟩
  obtain ⟨qc00, qc01, qc02, qc03, qc04, yc00, yc01, yc02, yc03, yc04⟩ := hs2.bx.c5 (List.mem_cons_self ..); obtain ⟨qc20, qc21, qc22, qc23, qc24, yc20, yc21, yc22, yc23, yc24⟩ := hs2.bx.c5 (List.mem_cons_of_mem _ (List.mem_cons_of_mem _ (List.mem_cons_self ..)))
  have HS2 := Lib.hid hs2
  clear hs hs2 hr1 hbx
  go_wp2_with fail
  have hs := HS2.out.swap3.set5 (.int .i64 k) (.string sx) (.int .i64 n) (.int .i64 a) (.slice A l cap)
  refine St.fin (slot := 2) rfl hs rfl (hs.bx.tr _ (List.mem_cons_self ..)) hk1

end
end Go.Proofs.YtokhfhibdeneeaaGreatDoor
