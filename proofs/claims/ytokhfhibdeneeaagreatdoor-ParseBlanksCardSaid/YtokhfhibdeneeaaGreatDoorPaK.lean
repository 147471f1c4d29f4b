/- Helpers; item, leave, field, kind, typ1. -/
import Derived.Test.YtokhfhibdeneeaaGreatDoorMPaH
import Derived.Test.YtokhfhibdeneeaaGreatDoorMLiesP
namespace Go.Proofs.YtokhfhibdeneeaaGreatDoor
open Go.RowKit
theorem fieldTok1 (a b c : Value) (w : World) : Sem.run Tryz.prog (Instr.field 46 (.agg #[a, b, c]) 1) w = .ok b w := by kernel_rfl
theorem name_ne {E : Env} (s : Rs) : nameR E s ≠ .out := by unfold nameR; split <;> (intro e; cases e)
theorem item_ne {E : Env} (s : Rs) : itemR E s ≠ .out := by
 unfold itemR
 split
 · intro e; cases e
 · exact name_ne s
theorem leave_ne {E : Env} (k a : Int) (s : Rs) : leaveR E k a s ≠ .out := by unfold leaveR; split <;> (intro e; cases e)
theorem bind_ne {α β : Type} {r : Rr α} {k : α → Rs → Rr β} (h : r ≠ .out) (hk : ∀ x s, k x s ≠ .out) : r.bind k ≠ .out := by
 cases r with
 | ok x s => exact hk x s
 | bad i => intro e; cases e
 | out => exact absurd rfl h
theorem field_ne {E : Env} (s : Rs) : fieldR E s ≠ .out := by
 have h : ∀ (k a : Int) (s' : Rs), (nameR E s').bind (fun x s' => .ok (.mk k x.text 0 a []) s') ≠ (.out : Rr Nd) := fun k a s' => bind_ne (name_ne s') fun _ _ e => by cases e
 unfold fieldR
 split
 · split
   · exact h _ _ _
   · exact h _ _ _
 · exact h _ _ _
theorem kind_ne {E : Env} : ∀ (ws : List (List UInt8)) (s : Rs), kindR E ws s ≠ .out
 | [], s => name_ne s
 | w :: ws, s => by
  unfold kindR
  split
  · intro e; cases e
  · exact kind_ne ws s
theorem typ1_ne {E : Env} (ws : List (List UInt8)) (s : Rs) : typ1R E ws s ≠ .out := by
 unfold typ1R
 split
 · exact bind_ne (name_ne _) fun _ _ e => by cases e
 · exact kind_ne ws s
theorem kind_ltB {E : Env} (hE : E.Ok) {j : Nat} {k : Int} (h : ((E.tok j).kind == k) = true) (hk : k ≠ 0) : j < E.n := kind_lt hE fun e => by
 rw [e] at h
 simp at h
 exact hk h.symm
theorem memC {α : Type} {ts xs : List α} {x : α} (h : x ∈ ts) (hs : ∀ y ∈ xs, y ∈ ts) : ∀ y ∈ x :: xs, y ∈ ts := fun y hy => by
 rcases List.mem_cons.1 hy with rfl | hy
 · exact h
 · exact hs y hy
theorem mem0 {α : Type} (ts : List α) : ∀ y ∈ ([] : List α), y ∈ ts := fun y hy => by cases hy
section
variable {E : Env} {M : Rm} {w0 W W' : World} {rows : List Rw} {gs : Option Gv} {ts : List (Nd × Value)} {s s' : Rs} {K : Kn}
theorem St.perm (h : St E M w0 rows gs ts s W) {rows' : List Rw} (hp : rows'.Perm rows) : St E M w0 rows' gs ts s W := by
 have hm : ∀ b, Mine w0 W rows gs b → Mine w0 W rows' gs b := fun b hb => ⟨hb.1, hb.2.1, fun r hr => hb.2.2.1 r (hp.mem_iff.1 hr), hb.2.2.2⟩
 refine ⟨h.rd, ⟨h.bx.fp, h.bx.bp, fun r hr => h.bx.rw r (hp.mem_iff.1 hr), (hp.pairwise_iff (fun h e => h e.symm)).2 h.bx.nd, fun g hg => ?_, fun x hx => (h.bx.tr x hx).keep (fun _ _ => rfl) hm⟩, h.tb⟩
 obtain ⟨h1, h2, h3, h4⟩ := h.bx.gw g hg
 exact ⟨h1, fun r hr => h2 r (hp.mem_iff.1 hr), h3, h4.box, h4.own, fun x hx => (h4.tr x hx).keep (fun _ _ => rfl) hm, h4.ok⟩
theorem St.swap4 {a b c d : Rw} (h : St E M w0 (a :: b :: c :: d :: rows) gs ts s W) : St E M w0 (d :: a :: b :: c :: rows) gs ts s W := h.perm (List.perm_middle (l₁ := [a, b, c])).symm
theorem St.swap5 {a b c d e : Rw} (h : St E M w0 (a :: b :: c :: d :: e :: rows) gs ts s W) : St E M w0 (e :: a :: b :: c :: d :: rows) gs ts s W := h.perm (List.perm_middle (l₁ := [a, b, c, d])).symm
theorem St.swap6 {a b c d e f : Rw} (h : St E M w0 (a :: b :: c :: d :: e :: f :: rows) gs ts s W) : St E M w0 (f :: a :: b :: c :: d :: e :: rows) gs ts s W := h.perm (List.perm_middle (l₁ := [a, b, c, d, e])).symm
/-- A list of words in memory. -/
def WordsAt (M : Rm) (W : World) (ws : List (List UInt8)) (v : Value) : Prop := ∃ b cap, v = .slice (some ⟨b, 0, none⟩) ws.length cap ∧ ws.length ≤ 1000 ∧ ws.length ≤ cap ∧ cap ≤ 9223372036854775807 ∧ b < W.heap.size ∧ b ≠ M.bp ∧ ∀ (j : Nat) x, ws[j]? = some x → W.cell? ⟨b, j, none⟩ = some (.string (bs x))
theorem WordsAt.keep {ws : List (List UInt8)} {v : Value} (h : WordsAt M W ws v) (hf : Fp M.bp W W') : WordsAt M W' ws v := by
 obtain ⟨b, cap, h1, h2, h3, h4, h5, h6, h7⟩ := h
 exact ⟨b, cap, h1, h2, h3, h4, Nat.lt_of_lt_of_le h5 (Foot.size hf), h6, fun j x hj => (World.cell?_of_block (w := W) (hf.block h5 h6)).trans (h7 j x hj)⟩
theorem WordsAt.cellAt {ws : List (List UInt8)} {b l cap : Nat} (h : WordsAt M W ws (.slice (some ⟨b, 0, none⟩) l cap)) {j : Nat} {x : List UInt8} (hx : ws[j]? = some x) : W.cell? ⟨b, j, none⟩ = some (.string (bs x)) := by
 obtain ⟨b', cap', h1, _, _, _, _, _, h7⟩ := h
 injection h1 with h1
 injection h1 with h1
 injection h1 with h1
 subst h1
 exact h7 j x hx
theorem word_size (hE : EnvOk E M) {x : List UInt8} (h : isT E s x = true) : (bs x).size ≤ 140737488351232 := by
 have ht : (E.tok s.i).text = x := by
  simp only [isT, isW, Bool.and_eq_true, beq_iff_eq] at h
  exact h.2
 have := hE.text s.i
 rw [ht] at this
 exact bs_size (by omega)
/-- Words that stand in a block of a walk's own. -/
theorem St.words (h : St E M w0 rows gs ts s W) {b : Nat} {cs : Array Value} {t : TypeId} (hm : (b, cs, t) ∈ rows) (ws : List (List UInt8)) (hcs : (ws.map fun x => Value.string (bs x)).toArray = cs) {l cap : Nat} (hl : l = ws.length) (h1 : ws.length ≤ 1000) (h2 : ws.length ≤ cap) (h3 : cap ≤ 9223372036854775807) : WordsAt M W ws (.slice (some ⟨b, 0, none⟩) l cap) := by
 subst hl hcs
 have hr := h.bx.rw _ hm
 refine ⟨b, cap, rfl, h1, h2, h3, (Array.getElem?_eq_some_iff.1 hr.2).1, by have h8 := hr.1; have h9 := h.bx.bp; simp only at h8; omega, fun j x hj => h.bx.at_ hm j ?_⟩
 show (ws.map fun x => Value.string (bs x)).toArray[j]? = _
 simp [hj]

set_option maxRecDepth 100000 in
set_option maxHeartbeats 4000000 in
theorem item_rd (hE : EnvOk E M) (h : RdAt E M s W) :
 Calls Tryz.prog 184 #[.pointer (some ⟨M.bp, 0, none⟩)] W (Post E M VNd W (itemR E s)) := by
 obtain ⟨R, HR⟩ : ∃ R, Hid (itemR E s = R) := ⟨_, rfl⟩
 have hneR : R ≠ .out := by rw [← HR.out]; exact item_ne s
 rw [HR.out]
 have HNE := Lib.hid hneR
 have HSP0 : Hid ((if (cur E s).kind == 2 && (cur E s).text == [95] then .ok (.mk 16 (bs []) 0 (cur E s).at_ []) (adv s 1) else nameR E s : Rr Nd) = R) := HR.out
 have HS1 := Lib.hid ((St.init h).pz)
 try simp only [World.size_alloc] at HS1
 have a2R := F5 HS1 M0
 have hn0 := hE.n
 have hle0 := h.le
 clear hneR HR h
 go_enter Tryz.func184, Tryz.ntmps184
 go_wp2_with fail
 go_at_call 42
 refine (at0_rd hE HS1.rd).mono ?_
 rintro e w3 ⟨rfl, hb3⟩
 clear a2R
 have HS4 := Lib.hid ((HS1.below hb3).push #[.int .i64 (E.tok (s).i).kind, .string (E.tok (s).i).str, .int .i64 (E.tok (s).i).at_] 46); try simp only [sz] at HS4
 have a5 := J2 (F3 HS4 M0) (F5 HS4 M1)
 clear hb3
 cases hk : (cur E s).kind == 2 with
 | true =>
  have hsp6 := HSP0.out
  simp only [hk, sm] at hsp6
  have HSP6 := Lib.hid hsp6
  clear hsp6
  have hk1 : ((E.tok s.i).kind == 2) = true := hk
  cases hb : (cur E s).text == [95] with
  | true =>
   have hsp7 := HSP6.out
   simp only [hb, reduceIte] at hsp7
   have HSP7 := Lib.hid hsp7
   clear hsp7
   have hb2 : ((E.tok s.i).str.toList == [95]) = true := str_eq _ _ hb
   have hlt : s.i < E.n := kind_ltB hE.ok hk1 (by decide)
   have c8_1 := HS4.rd.c1
   have f8_1 := HS4.rd.fz 1
   have HS9 := Lib.hid (HS4.adv1 hE (by first | omega | (simp only [adv]; omega))); try simp only [sz] at HS9
   have a10 := J2 (F3 HS9 M0) (F5 HS9 M1)
   go_wp2_with fail
   have hs11 := (HS9.swap.set5 (.int .i64 16) (.string ⟨#[]⟩) (.int .i64 0) (.int .i64 (E.tok s.i).at_) (.slice none 0 0))
   refine St.fin (slot := 2) rfl hs11 rfl (LiesP.leaf ok_lit ok_lit (hE.at_ _) (by decide)) ?_
   exact HSP7.out
  | false =>
  have hsp7 := HSP6.out
  simp only [hb, sm, reduceIte] at hsp7
  have HSP7 := Lib.hid hsp7
  clear hsp7
  have hb2 : ((E.tok s.i).str.toList == [95]) = false := str_eq _ _ hb
  go_wp2_with fail
  go_at_call 87
  refine Post.use (bind_okR HSP7.out) HNE.out (fun h0 => name_any hE HS4.rd) (be HS4.fp) ?_
  intro x8 s8 v8 w8 hsp8 hv8 hr8 hf8
  obtain ⟨k8, t8, n8, a8, ks8⟩ := x8
  obtain ⟨A8, cap8, rfl⟩ := VNd.form hv8
  clear a5
  have HS9 := Lib.hid (HS4.read hr8 hf8 hv8); try simp only [sz] at HS9
  have a10 := J2 (F3 HS9 M0) (F5 HS9 M1)
  have HSP8 := Lib.hid hsp8
  clear hsp8 hr8 hf8
  go_wp2_with fail
  have hs11 := (HS9.swap.set5 (.int .i64 k8) (.string t8) (.int .i64 n8) (.int .i64 a8) (.slice A8 ks8.length cap8))
  refine St.fin (slot := 2) rfl hs11 rfl (hs11.bx.tr _ M0) ?_
  exact HSP8.out
 | false =>
 have hsp6 := HSP0.out
 simp only [hk, sm, reduceIte] at hsp6
 have HSP6 := Lib.hid hsp6
 clear hsp6
 have hk1 : ((E.tok s.i).kind == 2) = false := hk
 go_wp2_with fail
 go_at_call 87
 refine Post.use (bind_okR HSP6.out) HNE.out (fun h0 => name_any hE HS4.rd) (be HS4.fp) ?_
 intro x7 s7 v7 w7 hsp7 hv7 hr7 hf7
 obtain ⟨k7, t7, n7, a7, ks7⟩ := x7
 obtain ⟨A7, cap7, rfl⟩ := VNd.form hv7
 clear a5
 have HS8 := Lib.hid (HS4.read hr7 hf7 hv7); try simp only [sz] at HS8
 have a9 := J2 (F3 HS8 M0) (F5 HS8 M1)
 have HSP7 := Lib.hid hsp7
 clear hsp7 hr7 hf7
 go_wp2_with fail
 have hs10 := (HS8.swap.set5 (.int .i64 k7) (.string t7) (.int .i64 n7) (.int .i64 a7) (.slice A7 ks7.length cap7))
 refine St.fin (slot := 2) rfl hs10 rfl (hs10.bx.tr _ M0) ?_
 exact HSP7.out

set_option maxRecDepth 100000 in
set_option maxHeartbeats 4000000 in
theorem leave_rd (hE : EnvOk E M) (h : RdAt E M s W) {k a : Int} (hk0 : okI k) (ha0 : okI a) :
 Calls Tryz.prog 147 #[.pointer (some ⟨M.bp, 0, none⟩), .int .i64 k, .int .i64 a] W (Post E M VNd W (leaveR E k a s)) := by
 obtain ⟨R, HR⟩ : ∃ R, Hid (leaveR E k a s = R) := ⟨_, rfl⟩
 have hneR : R ≠ .out := by rw [← HR.out]; exact leave_ne k a s
 rw [HR.out]
 have HNE := Lib.hid hneR
 have HSP0 : Hid ((if namedB (cur E s) then .ok (.mk k (cur E s).str 0 a []) (adv s 1) else .ok (.mk k (bs []) 0 a []) s : Rr Nd) = R) := HR.out
 have HS1 := Lib.hid (((St.init h).pz).push #[.int .i64 k, .string ⟨#[]⟩, .int .i64 0, .int .i64 a, .slice none 0 0] 25)
 try simp only [World.size_alloc] at HS1
 have a2 := J2 (F5 HS1 M0) (F5 HS1 M1)
 have hfi0 := fieldTok0
 have hfi1 := fieldTok1
 have hfi2 := fieldTok2
 have hfn0 := fieldNd0
 have hfn1 := fieldNd1
 have hn0 := hE.n
 have hle0 := h.le
 clear hneR HR h
 go_enter Tryz.func147, Tryz.ntmps147
 go_wp2_with fail
 go_at_call 42
 refine (at0_rd hE HS1.rd).mono ?_
 rintro e w3 ⟨rfl, hb3⟩
 clear a2
 have HS4 := Lib.hid (HS1.below hb3); try simp only [sz] at HS4
 have a5 := J2 (F5 HS4 M0) (F5 HS4 M1)
 clear hb3
 cases hb : namedB (cur E s) with
 | true =>
  have hsp6 := HSP0.out
  simp only [hb, reduceIte] at hsp6
  have HSP6 := Lib.hid hsp6
  clear hsp6
  go_wp2_with fail
  go_at_call 141
  refine (named_tok (E := E) s.i _).mono ?_
  rw [show namedB (E.tok s.i) = true from hb]
  rintro e w7 ⟨rfl, hb7⟩
  clear a5
  have HS8 := Lib.hid (HS4.below hb7); try simp only [sz] at HS8
  have a9 := J2 (F5 HS8 M0) (F5 HS8 M1)
  clear hb7
  have hnm : (nameR E s).bind (fun x s' => .ok (.mk k x.text 0 a []) s') = R := by unfold nameR; rw [if_pos hb]; exact HSP6.out
  go_wp2_with fail
  go_at_call 87
  refine Post.use hnm HNE.out (fun h0 => name_nm hE HS8.rd) (be HS8.fp) ?_
  intro x10 s10 v10 w10 hsp10 hv10 hr10 hf10
  obtain ⟨t10, a10, rfl, rfl, ha10, ht10⟩ := hv10
  clear a9
  have HS11 := Lib.hid ((HS8.go hr10 hf10).tree (t := .mk 14 t10 0 a10 []) (v := .agg #[.int .i64 14, .string t10, .int .i64 0, .int .i64 a10, .slice none 0 0]) (LiesP.leaf ok_lit ok_lit ha10 ht10)); try simp only [sz] at HS11
  have a12 := J2 (F5 HS11 M0) (F5 HS11 M1)
  have HSP10 := Lib.hid hsp10
  clear hsp10 hr10 hf10
  go_wp2_with fail
  have hs13 := ((HS11.setRow 1 (.string t10)).swap.set5 (.int .i64 k) (.string t10) (.int .i64 0) (.int .i64 a) (.slice none 0 0))
  refine St.fin (slot := 6) rfl hs13 rfl (LiesP.leaf hk0 ok_lit ha0 ht10) ?_
  exact HSP10.out
 | false =>
 have hsp6 := HSP0.out
 simp only [hb, sm, reduceIte] at hsp6
 have HSP6 := Lib.hid hsp6
 clear hsp6
 go_wp2_with fail
 go_at_call 141
 refine (named_tok (E := E) s.i _).mono ?_
 rw [show namedB (E.tok s.i) = false from hb]
 rintro e w7 ⟨rfl, hb7⟩
 clear a5
 have HS8 := Lib.hid (HS4.below hb7); try simp only [sz] at HS8
 have a9 := J2 (F5 HS8 M0) (F5 HS8 M1)
 clear hb7
 go_wp2_with fail
 have hs10 := (HS8.swap.set5 (.int .i64 k) (.string ⟨#[]⟩) (.int .i64 0) (.int .i64 a) (.slice none 0 0))
 refine St.fin (slot := 6) rfl hs10 rfl (LiesP.leaf hk0 ok_lit ha0 (by decide)) ?_
 exact HSP6.out

set_option maxRecDepth 100000 in
set_option maxHeartbeats 4000000 in
theorem field_rd (hE : EnvOk E M) (h : RdAt E M s W) :
 Calls Tryz.prog 89 #[.pointer (some ⟨M.bp, 0, none⟩)] W (Post E M VNd W (fieldR E s)) := by
 obtain ⟨R, HR⟩ : ∃ R, Hid (fieldR E s = R) := ⟨_, rfl⟩
 have hneR : R ≠ .out := by rw [← HR.out]; exact field_ne s
 rw [HR.out]
 have HNE := Lib.hid hneR
 have HSP0 : Hid ((if isT E s [46] then if isT E (adv s 1) [42] then (nameR E (adv s 2)).bind fun x s' => .ok (.mk 10 x.text 0 (cur E s).at_ []) s' else (nameR E (adv s 1)).bind fun x s' => .ok (.mk 9 x.text 0 (cur E s).at_ []) s' else (nameR E s).bind fun x s' => .ok (.mk 8 x.text 0 (cur E s).at_ []) s' : Rr Nd) = R) := HR.out
 have HS1 := Lib.hid ((St.init h).pz)
 try simp only [World.size_alloc] at HS1
 have a2R := F5 HS1 M0
 have hfi0 := fieldTok0
 have hfi1 := fieldTok1
 have hfi2 := fieldTok2
 have hfn0 := fieldNd0
 have hfn1 := fieldNd1
 have hn0 := hE.n
 have hle0 := h.le
 clear hneR HR h
 go_enter Tryz.func89, Tryz.ntmps89
 go_wp2_with fail
 go_at_call 42
 refine (at0_rd hE HS1.rd).mono ?_
 rintro e w3 ⟨rfl, hb3⟩
 clear a2R
 have HS4 := Lib.hid ((HS1.below hb3).push #[.int .i64 8, .string ⟨#[]⟩, .int .i64 0, .int .i64 (E.tok s.i).at_, .slice none 0 0] 25); try simp only [sz] at HS4
 have a5 := J2 (F5 HS4 M0) (F5 HS4 M1)
 clear hb3
 cases hd : isT E s [46] with
 | true =>
  have hsp6 := HSP0.out
  simp only [hd, reduceIte] at hsp6
  have HSP6 := Lib.hid hsp6
  clear hsp6
  have htk6 : takeS E [46] s = adv s 1 := by rw [takeS, hd]; rfl
  go_wp2_with fail
  go_at_call 86
  refine (take_any hE HS4.rd ⟨#[46]⟩ [46] rfl).mono ?_
  rw [hd]
  rw [htk6]
  rintro e w7 ⟨rfl, hr7, hf7⟩
  clear a5
  have HS8 := Lib.hid (HS4.go hr7 hf7); try simp only [sz] at HS8
  have a9 := J2 (F5 HS8 M0) (F5 HS8 M1)
  clear hr7 hf7
  go_wp2_with fail
  clear a9
  have HS10 := Lib.hid (HS8.setRow 0 (.int .i64 9)); try simp only [sz] at HS10
  have a11 := J2 (F5 HS10 M0) (F5 HS10 M1)
  cases hst : isT E (adv s 1) [42] with
  | true =>
   have hsp12 := HSP6.out
   simp only [hst, reduceIte] at hsp12
   have HSP12 := Lib.hid hsp12
   clear hsp12
   have hst2 : isT E (adv s 1) [42] = true := hst
   have htk12 : takeS E [42] (adv s 1) = adv (adv s 1) 1 := by rw [takeS, hst2]; rfl
   go_wp2_with fail
   go_at_call 86
   refine (take_any hE HS10.rd ⟨#[42]⟩ [42] rfl).mono ?_
   rw [hst2]
   rw [htk12]
   rintro e w13 ⟨rfl, hr13, hf13⟩
   clear a11
   have HS14 := Lib.hid (HS10.go hr13 hf13); try simp only [sz] at HS14
   have a15 := J2 (F5 HS14 M0) (F5 HS14 M1)
   clear hr13 hf13
   go_wp2_with fail
   clear a15
   have HS16 := Lib.hid (HS14.setRow 0 (.int .i64 10)); try simp only [sz] at HS16
   have a17 := J2 (F5 HS16 M0) (F5 HS16 M1)
   go_wp2_with fail
   go_at_call 87
   refine Post.use HSP12.out HNE.out (fun h0 => name_nm hE HS16.rd) (be HS16.fp) ?_
   intro x18 s18 v18 w18 hsp18 hv18 hr18 hf18
   obtain ⟨t18, a18, rfl, rfl, ha18, ht18⟩ := hv18
   clear a17
   have HS19 := Lib.hid ((HS16.go hr18 hf18).tree (t := .mk 14 t18 0 a18 []) (v := .agg #[.int .i64 14, .string t18, .int .i64 0, .int .i64 a18, .slice none 0 0]) (LiesP.leaf ok_lit ok_lit ha18 ht18)); try simp only [sz] at HS19
   have a20 := J2 (F5 HS19 M0) (F5 HS19 M1)
   have HSP18 := Lib.hid hsp18
   clear hsp18 hr18 hf18
   have HS21 := Lib.hid (HS19.setRow 1 (.string t18)); try simp only [sz] at HS21
   have a22 := J2 (F5 HS21 M0) (F5 HS21 M1)
   go_wp2_with fail
   have hs23 := (HS21.swap.set5 (.int .i64 10) (.string t18) (.int .i64 0) (.int .i64 (E.tok s.i).at_) (.slice none 0 0))
   refine St.fin (slot := 2) rfl hs23 rfl (LiesP.leaf ok_lit ok_lit (hE.at_ _) ht18) ?_
   exact HSP18.out
  | false =>
  have hsp12 := HSP6.out
  simp only [hst, sm, reduceIte] at hsp12
  have HSP12 := Lib.hid hsp12
  clear hsp12
  have hst2 : isT E (adv s 1) [42] = false := hst
  have htk12 : takeS E [42] (adv s 1) = (adv s 1) := by rw [takeS, hst2]; rfl
  go_wp2_with fail
  go_at_call 86
  refine (take_any hE HS10.rd ⟨#[42]⟩ [42] rfl).mono ?_
  rw [hst2]
  rw [htk12]
  rintro e w13 ⟨rfl, hr13, hf13⟩
  clear a11
  have HS14 := Lib.hid (HS10.go hr13 hf13); try simp only [sz] at HS14
  have a15 := J2 (F5 HS14 M0) (F5 HS14 M1)
  clear hr13 hf13
  go_wp2_with fail
  go_at_call 87
  refine Post.use HSP12.out HNE.out (fun h0 => name_nm hE HS14.rd) (be HS14.fp) ?_
  intro x16 s16 v16 w16 hsp16 hv16 hr16 hf16
  obtain ⟨t16, a16, rfl, rfl, ha16, ht16⟩ := hv16
  clear a15
  have HS17 := Lib.hid ((HS14.go hr16 hf16).tree (t := .mk 14 t16 0 a16 []) (v := .agg #[.int .i64 14, .string t16, .int .i64 0, .int .i64 a16, .slice none 0 0]) (LiesP.leaf ok_lit ok_lit ha16 ht16)); try simp only [sz] at HS17
  have a18 := J2 (F5 HS17 M0) (F5 HS17 M1)
  have HSP16 := Lib.hid hsp16
  clear hsp16 hr16 hf16
  have HS19 := Lib.hid (HS17.setRow 1 (.string t16)); try simp only [sz] at HS19
  have a20 := J2 (F5 HS19 M0) (F5 HS19 M1)
  go_wp2_with fail
  have hs21 := (HS19.swap.set5 (.int .i64 9) (.string t16) (.int .i64 0) (.int .i64 (E.tok s.i).at_) (.slice none 0 0))
  refine St.fin (slot := 2) rfl hs21 rfl (LiesP.leaf ok_lit ok_lit (hE.at_ _) ht16) ?_
  exact HSP16.out
 | false =>
 have hsp6 := HSP0.out
 simp only [hd, sm, reduceIte] at hsp6
 have HSP6 := Lib.hid hsp6
 clear hsp6
 have htk6 : takeS E [46] s = s := by rw [takeS, hd]; rfl
 go_wp2_with fail
 go_at_call 86
 refine (take_any hE HS4.rd ⟨#[46]⟩ [46] rfl).mono ?_
 rw [hd]
 rw [htk6]
 rintro e w7 ⟨rfl, hr7, hf7⟩
 clear a5
 have HS8 := Lib.hid (HS4.go hr7 hf7); try simp only [sz] at HS8
 have a9 := J2 (F5 HS8 M0) (F5 HS8 M1)
 clear hr7 hf7
 go_wp2_with fail
 go_at_call 87
 refine Post.use HSP6.out HNE.out (fun h0 => name_nm hE HS8.rd) (be HS8.fp) ?_
 intro x10 s10 v10 w10 hsp10 hv10 hr10 hf10
 obtain ⟨t10, a10, rfl, rfl, ha10, ht10⟩ := hv10
 clear a9
 have HS11 := Lib.hid ((HS8.go hr10 hf10).tree (t := .mk 14 t10 0 a10 []) (v := .agg #[.int .i64 14, .string t10, .int .i64 0, .int .i64 a10, .slice none 0 0]) (LiesP.leaf ok_lit ok_lit ha10 ht10)); try simp only [sz] at HS11
 have a12 := J2 (F5 HS11 M0) (F5 HS11 M1)
 have HSP10 := Lib.hid hsp10
 clear hsp10 hr10 hf10
 have HS13 := Lib.hid (HS11.setRow 1 (.string t10)); try simp only [sz] at HS13
 have a14 := J2 (F5 HS13 M0) (F5 HS13 M1)
 go_wp2_with fail
 have hs15 := (HS13.swap.set5 (.int .i64 8) (.string t10) (.int .i64 0) (.int .i64 (E.tok s.i).at_) (.slice none 0 0))
 refine St.fin (slot := 2) rfl hs15 rfl (LiesP.leaf ok_lit ok_lit (hE.at_ _) ht10) ?_
 exact HSP10.out

set_option maxRecDepth 100000 in
set_option maxHeartbeats 4000000 in
theorem kind_rd (hE : EnvOk E M) (h : RdAt E M s W) {ws : List (List UInt8)} {v : Value} (hw : WordsAt M W ws v) :
 Calls Tryz.prog 91 #[.pointer (some ⟨M.bp, 0, none⟩), v] W (Post E M VNd W (kindR E ws s)) := by
 obtain ⟨R, HR⟩ : ∃ R, Hid (kindR E ws s = R) := ⟨_, rfl⟩
 have hneR : R ≠ .out := by rw [← HR.out]; exact kind_ne ws s
 rw [HR.out]
 have HNE := Lib.hid hneR
 have HW0 := Lib.hid hw
 obtain ⟨b, cap, rfl, hl1, hl2, hl3, hbs, hbne, hwc⟩ := hw
 have HWC := Lib.hid hwc
 have HLE := Lib.hid (And.intro hl1 (And.intro hl2 hl3))
 have hs1 := ((St.init h).pz)
 obtain ⟨q0, q1, q2, q3, q4, y0, y1, y2, y3, y4⟩ := hs1.bx.c5 M0
 have HS1 := Lib.hid hs1
 have hfi2 := fieldTok2
 have hn0 := hE.n
 have hle0 := h.le
 clear hs1 hneR h hwc
 go_enter Tryz.func91, Tryz.ntmps91
 go_wp2_with fail
 go_at_call 42
 refine (at0_rd hE HS1.rd).mono ?_
 rintro e w1 ⟨rfl, hb1⟩
 clear q0 q1 q2 q3 q4 y0 y1 y2 y3 y4
 have HS2 := Lib.hid ((HS1.below hb1).push #[.int .i64 (E.tok s.i).kind, .string (E.tok s.i).str, .int .i64 (E.tok s.i).at_] 46)
 clear hb1
 go_wp2_with fail
 go_loopw [12] (fun i wr => ∃ j : Nat, i = .int .i64 j ∧ j ≤ ws.length ∧ Hid (St E M W [(w1.heap.size, #[.int .i64 (E.tok s.i).kind, .string (E.tok s.i).str, .int .i64 (E.tok s.i).at_], 46), (W.heap.size, #[.int .i64 0, .string ⟨#[]⟩, .int .i64 0, .int .i64 0, .slice none 0 0], 25)] none [] s wr) ∧ Hid (kindR E (ws.drop j) s = R)) (fun i _ => ws.length - (intOf i).toNat)
 case atStart => exact ⟨0, rfl, Nat.zero_le _, HS2.out, HR.out⟩
 case round =>
  obtain ⟨j, rfl, hj, HSj, HRj⟩ := hrel
  by_cases hlt : j < ws.length
  · obtain ⟨x, hx⟩ : ∃ x, ws[j]? = some x := ⟨_, List.getElem?_eq_getElem hlt⟩
    have hc := (HW0.out.keep HSj.fp).cellAt hx
    have hlen : ws.length ≤ 1000 := HLE.out.1
    have hcap : ws.length ≤ cap := HLE.out.2.1
    have hcap2 : cap ≤ 9223372036854775807 := HLE.out.2.2
    have hsp := HRj.out
    rw [drop_cons hx, kindR] at hsp
    cases ht : isT E s x with
    | true =>
     rw [ht] at hsp
     simp only [if_true] at hsp
     have htk : takeS E x s = adv s 1 := by rw [takeS, ht]; rfl
     go_wp2_with fail
     go_at_call 86
     refine (take_any hE HSj.rd (bs x) x rfl).mono ?_
     rw [ht, htk]
     rintro e w3 ⟨rfl, hr3, hf3⟩
     have hs3 := HSj.go hr3 hf3
     obtain ⟨q0, q1, q2, y0, y1, y2⟩ := hs3.bx.c3 M0
     obtain ⟨z0, z1, z2, z3, z4, x0, x1, x2, x3, x4⟩ := hs3.bx.c5 M1
     have HS3 := Lib.hid hs3
     clear hs3 hr3
     go_wp2_with fail
     have hs4 := HS3.swap.set5 (.int .i64 14) (.string (bs x)) (.int .i64 0) (.int .i64 (E.tok s.i).at_) (.slice none 0 0)
     refine St.fin (slot := 4) rfl hs4 rfl (LiesP.leaf ok_lit ok_lit (hE.at_ _) (word_size hE ht)) ?_
     exact hsp
    | false =>
    rw [ht] at hsp
    simp only [Bool.false_eq_true, if_false] at hsp
    have htk : takeS E x s = s := by rw [takeS, ht]; rfl
    go_wp2_with fail
    go_at_call 86
    refine (take_any hE HSj.rd (bs x) x rfl).mono ?_
    rw [ht, htk]
    rintro e w3 ⟨rfl, hr3, hf3⟩
    have HS3 := Lib.hid (HSj.go hr3 hf3)
    clear hr3 hf3
    go_wp2_with fail
    go_roundw
    case rel => exact ⟨j + 1, by simp, by omega, HS3.out, hsp⟩
    case measure => simp [intOf]; omega
  · obtain rfl : j = ws.length := by omega
    have hsp := HRj.out
    rw [List.drop_length, kindR] at hsp
    go_wp2_with fail
    go_at_call 87
    refine Post.use (bind_okR hsp) HNE.out (fun h0 => name_any hE HSj.rd) (be HSj.fp) ?_
    intro x7 s7 v7 w7 hsp7 hv7 hr7 hf7
    obtain ⟨k7, t7, n7, a7, ks7⟩ := x7
    obtain ⟨A7, cap7, rfl⟩ := VNd.form hv7
    have hs8 := HSj.read hr7 hf7 hv7
    obtain ⟨z0, z1, z2, z3, z4, x0, x1, x2, x3, x4⟩ := hs8.bx.c5 M1
    have HS8 := Lib.hid hs8
    clear hs8 hr7 hf7
    go_wp2_with fail
    have hs9 := HS8.swap.set5 (.int .i64 k7) (.string t7) (.int .i64 n7) (.int .i64 a7) (.slice A7 ks7.length cap7)
    refine St.fin (slot := 4) rfl hs9 rfl (hs9.bx.tr _ M0) ?_
    exact hsp7

set_option maxRecDepth 100000 in
set_option maxHeartbeats 4000000 in
theorem typ1_rd (hE : EnvOk E M) (h : RdAt E M s W) {ws : List (List UInt8)} {v : Value} (hw : WordsAt M W ws v) :
 Calls Tryz.prog 191 #[.pointer (some ⟨M.bp, 0, none⟩), v] W (Post E M VNd W (typ1R E ws s)) := by
 obtain ⟨R, HR⟩ : ∃ R, Hid (typ1R E ws s = R) := ⟨_, rfl⟩
 have hneR : R ≠ .out := by rw [← HR.out]; exact typ1_ne ws s
 rw [HR.out]
 have HNE := Lib.hid hneR
 have HSP0 : Hid ((if isT E s [42] then (nameR E (adv s 1)).bind fun x s' => .ok (.mk 15 (bs []) 0 (cur E s).at_ [x]) s' else kindR E ws s : Rr Nd) = R) := HR.out
 have HS1 := Lib.hid ((St.init h).pz)
 try simp only [World.size_alloc] at HS1
 have a2R := F5 HS1 M0
 have hfi0 := fieldTok0
 have hfi1 := fieldTok1
 have hfi2 := fieldTok2
 have hfn0 := fieldNd0
 have hfn1 := fieldNd1
 have HW0 := Lib.hid hw
 clear hw
 have hn0 := hE.n
 have hle0 := h.le
 clear hneR HR h
 obtain ⟨b, cap, rfl, -, -, -, -, -, -⟩ := HW0.out
 go_enter Tryz.func191, Tryz.ntmps191
 go_wp2_with fail
 go_at_call 42
 refine (at0_rd hE HS1.rd).mono ?_
 rintro e w3 ⟨rfl, hb3⟩
 clear a2R
 have HS4 := Lib.hid ((HS1.below hb3).push #[.int .i64 (E.tok (s).i).kind, .string (E.tok (s).i).str, .int .i64 (E.tok (s).i).at_] 46); try simp only [sz] at HS4
 have a5 := J2 (F3 HS4 M0) (F5 HS4 M1)
 clear hb3
 cases hb : isT E s [42] with
 | true =>
  have hsp6 := HSP0.out
  simp only [hb, reduceIte] at hsp6
  have HSP6 := Lib.hid hsp6
  clear hsp6
  have htk6 : takeS E [42] s = adv s 1 := by rw [takeS, hb]; rfl
  go_wp2_with fail
  go_at_call 86
  refine (take_any hE HS4.rd ⟨#[42]⟩ [42] rfl).mono ?_
  rw [hb]
  rw [htk6]
  rintro e w7 ⟨rfl, hr7, hf7⟩
  clear a5
  have HS8 := Lib.hid (HS4.go hr7 hf7); try simp only [sz] at HS8
  have a9 := J2 (F3 HS8 M0) (F5 HS8 M1)
  clear hr7 hf7
  go_wp2_with fail
  clear a9
  have hs10 := HS8.drew
  refine wp_region_G [] (fun W => W.cell? ⟨w3.heap.size, 2, none⟩ = some (.int .i64 (E.tok (s).i).at_)) (by rfl) ?_ (fun hHeld => ?_)
  · exact hs10.a M0 2
  revert hs10 hHeld
  generalize World.drew _ = wd10
  intro hs10 hHeld
  refine tk 0 (h := tk 1 (h := tk 2 (h := ?_)))
  try simp only [nm]
  refine rd1 3 fun KK hKK => ?_
  go_simp
  go_at_call 87
  refine Post.nd HSP6 HNE (fun h0 => name_any hE hs10.rd) (be hs10.fp) ?_
  intro k11 t11 n11 a11 ks11 s11 A11 cap11 w11 HSP11 hv11 hr11 hf11
  have hs12 := (hs10.read hr11 hf11 hv11); try simp only [sz] at hs12
  refine hKK.out _ _ (hs12.a M0 2) (fun hHeld => ?_)
  clear hKK KK
  try simp only [nm]
  refine rd1 4 fun KK hKK => ?_
  go_simp
  have hs13 := (hs12.pn k11 t11 n11 a11 (.slice A11 ks11.length cap11)); try simp only [sz] at hs13
  revert hs13
  generalize World.alloc _ _ = wq14
  intro hs13
  refine hKK.out _ _ (hs13.a M1 2) (fun hHeld => ?_)
  clear hKK KK
  refine tk 5 (h := ?_)
  try simp only [nm]
  refine rd1 6 fun KK hKK => ?_
  have a15R := F5 hs13 M2
  go_simp
  clear a15R
  have hs16 := (hs13.swap3.set5 (.int .i64 15) (.string ⟨#[]⟩) (.int .i64 0) (.int .i64 (E.tok s.i).at_) (.slice (some ⟨w11.heap.size, 0, none⟩) 1 1)); try simp only [sz] at hs16
  refine hKK.out _ _ (hs16.a M2 2) (fun hHeld => ?_)
  clear hKK KK
  try simp only [nm]
  refine wpAnyG_done (by kernel_rfl) ?_ _
  have HS18 := Lib.hid (hs16.swap.node [(.mk k11 t11 n11 a11 ks11, .agg #[.int .i64 k11, .string t11, .int .i64 n11, .int .i64 a11, .slice A11 ks11.length cap11])] rfl (memC M0 (mem0 _)) (k := 15) (sx := ⟨#[]⟩) (n := 0) (a := (E.tok s.i).at_) ok_lit ok_lit (hE.at_ _) (by decide) (l := 1) rfl (by decide)); try simp only [sz] at HS18
  clear hs10 hs12 hs13 hs16
  go_wp2_with fail
  go_wp2_with fail
  have hs19 := HS18.out
  refine St.fin (slot := 4) rfl hs19 rfl (hs19.bx.tr _ M0) ?_
  exact HSP11.out
 | false =>
 have hsp6 := HSP0.out
 simp only [hb, sm, reduceIte] at hsp6
 have HSP6 := Lib.hid hsp6
 clear hsp6
 have htk6 : takeS E [42] s = s := by rw [takeS, hb]; rfl
 go_wp2_with fail
 go_at_call 86
 refine (take_any hE HS4.rd ⟨#[42]⟩ [42] rfl).mono ?_
 rw [hb]
 rw [htk6]
 rintro e w7 ⟨rfl, hr7, hf7⟩
 clear a5
 have HS8 := Lib.hid (HS4.go hr7 hf7); try simp only [sz] at HS8
 have a9 := J2 (F3 HS8 M0) (F5 HS8 M1)
 clear hr7 hf7
 go_wp2_with fail
 go_at_call 91
 refine Post.use (bind_okR HSP6.out) HNE.out (fun h0 => kind_rd hE HS8.rd (HW0.out.keep HS8.fp)) (be HS8.fp) ?_
 intro x10 s10 v10 w10 hsp10 hv10 hr10 hf10
 obtain ⟨k10, t10, n10, a10, ks10⟩ := x10
 obtain ⟨A10, cap10, rfl⟩ := VNd.form hv10
 clear a9
 have HS11 := Lib.hid (HS8.read hr10 hf10 hv10); try simp only [sz] at HS11
 have a12 := J2 (F3 HS11 M0) (F5 HS11 M1)
 have HSP10 := Lib.hid hsp10
 clear hsp10 hr10 hf10
 go_wp2_with fail
 have hs13 := (HS11.swap.set5 (.int .i64 k10) (.string t10) (.int .i64 n10) (.int .i64 a10) (.slice A10 ks10.length cap10))
 refine St.fin (slot := 4) rfl hs13 rfl (hs13.bx.tr _ M0) ?_
 exact HSP10.out

end
end Go.Proofs.YtokhfhibdeneeaaGreatDoor
