/- items: a list that grows in a slot. tree.ints, tree.floats, at every text. -/
import Derived.Deep.LoopGhost
import Derived.Deep.AppendLies
import Derived.Test.YtokhfhibdeneeaaGreatDoorMLiesP
import Derived.Test.YtokhfhibdeneeaaGreatDoorPaW
import Derived.Test.YtokhfhibdeneeaaGreatDoorMScanD
import Derived.Test.YtokhfhibdeneeaaGreatDoorMLook
namespace Go.Proofs.YtokhfhibdeneeaaGreatDoor
open Go.RowKit
section
variable {E : Env} {M : Rm} {w0 W w1 W' : World} {rows rows0 : List Rw} {gs : Option Gv} {ts xs : List (Nd × Value)} {lv : Value} {st s s' : Rs} {K : Kn} {g : Gv}
/-- A list that grows in a slot: nil, or a row of its own. -/
def LsP (rows : List Rw) (lv : Value) (xs : List (Nd × Value)) : Prop :=
 (xs = [] ∧ lv = .slice none 0 0 ∧ rows = []) ∨
 (∃ lb cap cur, lv = .slice (some ⟨lb, 0, none⟩) xs.length cap ∧ rows = [(lb, cur, 25)] ∧ cur.size = cap * 5 ∧ cur.toList.take (xs.length * 5) = treeCells xs ∧ xs.length ≤ cap ∧ cap ≤ maxLen ∧ 0 < xs.length)
theorem LsP.own (hp : LsP rows lv xs) (h : St E M w0 rows0 none ts st W) (hs : ∀ r ∈ rows, r ∈ rows0) (hl : (treeCells xs).length = xs.length * 5) : W.ownsRow w0.heap.size 25 5 lv xs.length (treeCells xs) := by
 rcases hp with ⟨rfl, rfl, _⟩ | ⟨lb, cap, cur, rfl, rfl, h1, h2, h3, h4, _⟩
 · exact World.ownsRow_nil _ _ _ _
 · have hr := h.bx.rw _ (hs _ M0)
   exact ⟨hl, .inr ⟨lb, cap, cur, rfl, hr.1, hr.2, h3, h4, h1, h2⟩⟩
theorem LsP.append (h : St E M w0 rows none ts st W) (hp : LsP rows lv xs) {b cap : Nat} {y : Nd × Value} (hg : W.grownBy w1 lv.ownBlock)
 (ho : w1.ownsRow w0.heap.size 25 5 (.slice (some ⟨b, 0, none⟩) (xs.length + 1) cap) (xs.length + 1) (treeCells xs ++ cellsOf y.2)) (hb : lv.ownBlock = some b ∨ b = W.heap.size) :
 ∃ rows', St E M w0 rows' none ts st w1 ∧ LsP rows' (.slice (some ⟨b, 0, none⟩) (xs.length + 1) cap) (xs ++ [y]) := by
 have hc : treeCells (xs ++ [y]) = treeCells xs ++ cellsOf y.2 := by simp [treeCells]
 rcases hp with ⟨rfl, rfl, rfl⟩ | ⟨lb, cap0, cur, rfl, rfl, h1, h2, h3, h4, h5⟩
 · have hb' : b = W.heap.size := hb.elim (fun e => by cases e) id
   obtain ⟨cur', hs, e1, e2, e3, e4⟩ := h.firstRow hg ho hb'
   exact ⟨_, hs, .inr ⟨b, cap, cur', by simp, rfl, e1, by rw [hc]; simpa using e2, by simpa using e3, e4, by simp⟩⟩
 · have hb' : b = lb ∨ b = W.heap.size := hb.imp (fun e => (Option.some.inj e).symm) id
   obtain ⟨cur', hs, e1, e2, e3, e4⟩ := h.appendRow hg ho hb'
   exact ⟨_, hs, .inr ⟨b, cap, cur', by simp, rfl, e1, by rw [hc]; simpa using e2, by simpa using e3, e4, by simp⟩⟩
/-- A list of trees in memory of its own. -/
def VLs (w w' : World) (l : List Nd) (v : Value) : Prop := VNd w w' (.mk 0 (bs []) 0 0 l) (.agg #[.int .i64 0, .string ⟨#[]⟩, .int .i64 0, .int .i64 0, v])
theorem St.ls (h : St E M w0 rows none ts st W) (hp : LsP rows lv xs) (hx : ∀ x ∈ xs, x ∈ ts) : Post E M VLs w0 (.ok (xs.map fun x : Nd × Value => x.1) st) (.returned lv) W := by
 have key : ∀ {t : Nd} {v : Value} {rows : List Rw}, St E M w0 rows none ts st W → LiesP W (Mine w0 W rows none) t v → VNd w0 W t v := fun h hl => hl.toA fun b hb => ⟨hb.1, hb.2.1⟩
 rcases hp with ⟨rfl, rfl, rfl⟩ | ⟨lb, cap, cur, rfl, rfl, h1, h2, h3, h4, h5⟩
 · exact ⟨⟨_, rfl, key h (LiesP.leaf ok_lit ok_lit ok_lit (by decide))⟩, h.rd, h.fp⟩
 · have hcs : ∀ (j : Nat) u, (treeCells xs)[j]? = some u → cur[j]? = some u := fun j u hj => by
    rw [← h2, List.getElem?_take] at hj
    split at hj
    · simpa using hj
    · cases hj
   have hb := h.bx.node xs hcs hx (k := 0) (sx := bs []) (n := 0) (a := 0) ok_lit ok_lit ok_lit (by decide) rfl h3 (by have : maxLen = 9223372036854775807 := rfl; omega)
   exact ⟨⟨_, rfl, key h.retire (hb.tr _ M0)⟩, h.rd, h.fp⟩
theorem memAp {y : Nd × Value} : ∀ x ∈ xs ++ [y], x ∈ y :: xs := fun x hx => by
 rcases List.mem_append.1 hx with h | h
 · exact List.mem_cons_of_mem _ h
 · rw [List.mem_singleton.1 h]; exact List.mem_cons_self ..
theorem St.lenTs (h : St E M w0 rows gs ts st W) (hx : ∀ x ∈ xs, x ∈ ts) : (treeCells xs).length = xs.length * 5 := treeCells_length fun x hm => h.bx.tr x (hx x hm)
set_option maxRecDepth 100000 in
theorem part_field (hE : EnvOk E M) : PartOk E M (fieldR E) 89 #[.pointer (some ⟨M.bp, 0, none⟩)] (fun _ => True) :=
 ⟨fun _W => rfl, fun _s _W h _ _ => field_rd hE h, fun _ _ _ _ => trivial⟩

set_option maxRecDepth 100000 in
set_option maxHeartbeats 4000000 in
theorem items_rd (hE : EnvOk E M) (hKf : K.fuel ≤ 900000) {item : Rs → Rr Nd} {f : FuncId} {a : Value} {S : World → Prop} (hP : PartOk E M item f #[a] S) (hS : S W) (h : RdAt E M s W) (hne : itemsR E K item s ≠ .out) :
 Calls Tryz.prog 88 #[.pointer (some ⟨M.bp, 0, none⟩), .func (.func f) #[a] #[]] W (Post E M VLs W (itemsR E K item s)) := by
 obtain ⟨R, HR⟩ : ∃ R, Hid (itemsR E K item s = R) := ⟨_, rfl⟩
 have hneR : R ≠ .out := by rw [← HR.out]; exact hne
 clear hne
 rw [HR.out]
 have HNE := Lib.hid hneR
 have HSP0 := HR
 unfold itemsR at HSP0
 have hent := hP.ent
 have HPR := Lib.hid hP.run
 have HPK := Lib.hid hP.keep
 have HSW := Lib.hid hS
 clear hP hS
 obtain ⟨i0, hi0, hz0, hz1, hz2⟩ := info_parts infoNd
 have HS1 := Lib.hid (St.init h)
 have hn0 := hE.n
 clear hneR h HR
 go_enter Tryz.func88, Tryz.ntmps88
 go_wp2_with fail
 go_at_call 90
 refine Post.use HSP0.out HNE.out (fun _ => want_any hE HS1.rd ⟨#[123]⟩ [123] rfl) (be HS1.fp) ?_
 intro x1 s1 v1 w1 hsp1 hv1 hr1 hf1
 obtain rfl : v1 = _ := hv1
 have HS2 := Lib.hid (HS1.go hr1 hf1); try simp only [sz] at HS2
 have HSP1 := Lib.hid hsp1
 clear hsp1 hr1 hf1
 go_wp2_with fail
 go_at_call 38
 refine (ends_rd hE HS2.rd).mono ?_
 rintro e w4 ⟨rfl, hr4, hf4⟩
 have HS5 := Lib.hid (HS2.go hr4 hf4); try simp only [sz] at HS5
 clear hr4 hf4
 go_wp2_with fail
 go_loopg [5] K.fuel (fun f lv wr => ∃ (s2 : Rs) (rows : List Rw) (xs : List (Nd × Value)), xs.length + f ≤ K.fuel ∧ LsP rows lv xs ∧ Hid (St E M W rows none xs s2 wr) ∧ Hid ((itemsL E item f (xs.map (fun x : Nd × Value => x.1)) s2).bind (fun l s => (wantR E [125] s).bind fun _ s => .ok l s) = R))
 case atStart => exact ⟨_, [], [], by simp, .inl ⟨rfl, rfl, rfl⟩, Lib.hid HS5.out, Lib.hid HSP1.out⟩
 case round =>
  obtain ⟨s2, rows, xs, hxf, hlp, HL2, HSL2⟩ := hrel
  cases gk with
  | zero => exact absurd HSL2.symm HNE.out
  | succ g =>
  have hspu := HSL2.out
  rw [itemsL] at hspu
  have HSU := Lib.hid hspu
  clear hspu
  cases hst : isT E s2 [125] with
  | true =>
   have HSP7 := HSU; try simp only [hst, sm, reduceIte] at HSP7
   go_wp2_with fail
   go_at_call 139
   refine (is_any hE HL2.rd ⟨#[125]⟩ [125] rfl).mono ?_
   rw [hst]
   rintro e w8 ⟨rfl, hb8⟩
   have HS9 := Lib.hid (HL2.below hb8); try simp only [sz] at HS9
   clear hb8
   go_wp2_with fail
   go_at_call 90
   refine Post.use HSP7.out HNE.out (fun _ => want_any hE HS9.rd ⟨#[125]⟩ [125] rfl) (be HS9.fp) ?_
   intro x11 s11 v11 w11 hsp11 hv11 hr11 hf11
   obtain rfl : v11 = _ := hv11
   have HS12 := Lib.hid (HS9.go hr11 hf11); try simp only [sz] at HS12
   have HSP11 := Lib.hid hsp11
   clear hsp11 hr11 hf11
   go_wp2_with fail
   go_ret
   rw [← HSP11.out]
   exact HS12.ls hlp (fun _ h => h)
  | false =>
  have HSP7 := HSU; try simp only [hst, sm, reduceIte] at HSP7
  have HSP8 := HSP7; try simp only [bind_assocR] at HSP8
  go_wp2_with fail
  go_at_call 139
  refine (is_any hE HL2.rd ⟨#[125]⟩ [125] rfl).mono ?_
  rw [hst]
  rintro e w9 ⟨rfl, hb9⟩
  have HS10 := Lib.hid (HL2.below hb9); try simp only [sz] at HS10
  clear hb9
  go_wp2_with fail
  refine Post.use HSP8.out HNE.out (fun h0 => HPR.out _ _ HS10.rd (HPK.out _ _ HS10.fp HSW.out) h0) (be HS10.fp) ?_
  intro x12 s12 v12 w12 hsp12 hv12 hr12 hf12
  obtain ⟨k12, t12, n12, a12, ks12⟩ := x12
  obtain ⟨A12, cap12, rfl⟩ := VNd.form hv12
  have HS13 := Lib.hid (HS10.read hr12 hf12 hv12); try simp only [sz] at HS13
  have HSP12 := Lib.hid hsp12
  clear hsp12 hr12 hf12
  have hs15 := (HS13.pn k12 t12 n12 a12 (.slice A12 ks12.length cap12))
  have hlen15 := St.lenTs (xs := xs) hs15 (fun x hx => List.mem_cons_of_mem _ hx)
  have HA15 := Lib.hid (And.intro hs15 hlen15)
  clear hs15 hlen15
  go_wp2_with (at_builtin; refine wpList_append_lies _ rfl _ _ 23 rfl W.heap.size 25 i0 _ 5 64 Tryz.underlying23 hi0 hz0 hz1 hz2 rfl (by decide) _ _ _ rfl (hlp.own HA15.out.1 (fun r hr => List.mem_cons_of_mem _ hr) HA15.out.2) ⟨w12.heap.size, 0, none⟩ 1 1 [.int .i64 k12, .string t12, .int .i64 n12, .int .i64 a12, .slice A12 ks12.length cap12] rfl rfl (newsRow (HA15.out.1.bx.rw _ M0).2) (by intro u hu; simp only [List.mem_cons, List.not_mem_nil, or_false] at hu; rcases hu with rfl | rfl | rfl | rfl | rfl <;> rfl) (by decide) (by unfold maxLen; omega) (by omega) HA15.out.1.bx.size _ rfl ?_; intro bA capA wA hoA hgA hbA hltA)
  obtain ⟨rows2, hsAp, hlp2⟩ := LsP.append (y := (.mk k12 t12 n12 a12 ks12, .agg #[.int .i64 k12, .string t12, .int .i64 n12, .int .i64 a12, .slice A12 ks12.length cap12])) HA15.out.1.retire hlp hgA hoA hbA
  have HSAp := Lib.hid hsAp
  clear hsAp hoA hgA hbA hltA
  obtain ⟨be, hbe⟩ : ∃ b, decide (s12.i < (endsS E s12).i) = b := ⟨_, rfl⟩
  go_wp2_with fail
  go_at_call 38
  refine (ends_rd hE HSAp.rd).mono ?_
  rw [hbe]
  rintro e w16 ⟨rfl, hr16, hf16⟩
  have HS17 := Lib.hid (HSAp.go hr16 hf16); try simp only [sz] at HS17
  clear hr16 hf16
  have HSP19 := HSP12; try simp only [hbe] at HSP19
  have HBE := Lib.hid hbe
  clear hbe
  cases be with
  | true =>
   have HSP20 := HSP19; try simp only [sm, reduceIte] at HSP20
   go_wp2_with fail
   go_roundg g
   case measure => omega
   case rel => exact ⟨_, rows2, xs ++ [(.mk k12 t12 n12 a12 ks12, .agg #[.int .i64 k12, .string t12, .int .i64 n12, .int .i64 a12, .slice A12 ks12.length cap12])], by simp; omega, by simpa using hlp2, Lib.hid (HS17.mono_ts memAp), Lib.hid (by simpa using HSP20.out)⟩
  | false =>
  have HSP20 := HSP19; try simp only [sm] at HSP20
  cases hs2 : isT E (endsS E s12) [125] with
  | true =>
   have HSP21 := HSP20; try simp only [hs2, reduceIte] at HSP21
   go_wp2_with fail
   go_at_call 139
   refine (is_any hE HS17.rd ⟨#[125]⟩ [125] rfl).mono ?_
   rw [hs2]
   rintro e w22 ⟨rfl, hb22⟩
   have HS23 := Lib.hid (HS17.below hb22); try simp only [sz] at HS23
   clear hb22
   go_wp2_with fail
   go_roundg g
   case measure => omega
   case rel => exact ⟨_, rows2, xs ++ [(.mk k12 t12 n12 a12 ks12, .agg #[.int .i64 k12, .string t12, .int .i64 n12, .int .i64 a12, .slice A12 ks12.length cap12])], by simp; omega, by simpa using hlp2, Lib.hid (HS23.mono_ts memAp), Lib.hid (by simpa using HSP21.out)⟩
  | false =>
  have HSP21 := HSP20; try simp only [hs2, sm, reduceIte] at HSP21
  go_wp2_with fail
  go_at_call 139
  refine (is_any hE HS17.rd ⟨#[125]⟩ [125] rfl).mono ?_
  rw [hs2]
  rintro e w22 ⟨rfl, hb22⟩
  have HS23 := Lib.hid (HS17.below hb22); try simp only [sz] at HS23
  clear hb22
  go_wp2_with fail
  go_at_call 44
  refine (fail_any hE HS23.rd).mono ?_
  rintro e wz ⟨rfl, hbz⟩
  exact ⟨rfl, bad_end (HSP21.out).symm (HS23.below hbz).fp⟩

end
end Go.Proofs.YtokhfhibdeneeaaGreatDoor

namespace Go.Proofs.YtokhfhibdeneeaaGreatDoor
open Go.RowKit

/-- Is the first token of that kind, and the whole text? -/
def firstIs (k : Int) (l : List UInt8) : Rd (List Tok) → Bool
  | .ok (t :: _) => t.kind == k && t.text == l
  | _ => false
/-- Is a text one token's, of that kind, and the whole of it? -/
def numOf (k : Int) (l : List UInt8) : Bool := firstIs k l (scanT l)

set_option maxRecDepth 100000 in
set_option maxHeartbeats 2000000 in
theorem ints_l (l : List UInt8) (w : World) (hgl : Gl w) (hl : l.length ≤ 140737488351232) : Calls Tryz.prog 115 #[.string ⟨⟨l⟩⟩] w fun e w' => e = .returned (.bool (numOf 4 l)) ∧ Below w.heap.size w w' := by
  have hsc := Scan_any l w hgl hl
  obtain ⟨R, HR⟩ : ∃ R, Hid (scanT l = R) := ⟨_, rfl⟩
  obtain ⟨b, HB⟩ : ∃ b, Hid (numOf 4 l = b) := ⟨_, rfl⟩
  rw [HB.out]
  rw [HR.out] at hsc
  have hfin : firstIs 4 l R = b := by rw [← HB.out, numOf, HR.out]
  have HSC := Lib.hid hsc
  clear hsc hgl
  cases R with
  | bad ec ea =>
    obtain rfl : false = b := hfin
    go_enter Tryz.func115, Tryz.ntmps115
    go_wp2_with (
      go_at_call 14; refine HSC.out.mono ?_
      rintro e w4 ⟨hb4, h⟩
      obtain ⟨_, _, eb, _, rfl, _, _⟩ := h.resolve_left (by rintro ⟨_, _, h, _⟩; cases h)
      clear h)
    go_ret
    exact ⟨rfl, hb4⟩
  | ok ts =>
    cases ts with
    | nil =>
      obtain rfl : false = b := hfin
      go_enter Tryz.func115, Tryz.ntmps115
      go_wp2_with (
        go_at_call 14; refine HSC.out.mono ?_
        rintro e w4 ⟨hb4, h⟩
        obtain ⟨ts', v, hq, rfl, ho⟩ := h.resolve_right (by rintro ⟨_, _, _, h, _⟩; cases h)
        obtain rfl := Rd.ok.inj hq
        obtain ⟨A, cap, rfl, _, _⟩ := row_form ho
        simp only [List.length_nil]
        clear h hq ho)
      go_ret
      exact ⟨rfl, hb4⟩
    | cons t tr =>
      obtain ⟨k, x, a⟩ := t
      have HF : Hid ((k == 4 && x == l) = b) := hfin
      clear hfin
      by_cases hk : k = 4
      · subst hk
        go_enter Tryz.func115, Tryz.ntmps115
        go_wp2_with (
          go_at_call 14; refine HSC.out.mono ?_
          rintro e w4 ⟨hb4, h⟩
          obtain ⟨ts', v, hq, rfl, ho⟩ := h.resolve_right (by rintro ⟨_, _, _, h, _⟩; cases h)
          obtain rfl := Rd.ok.inj hq
          obtain ⟨A, cap, rfl, hc1, hc2⟩ := row_form ho
          obtain ⟨b', rfl, _, _⟩ := row_some ho (by simp)
          have e0 : w4.cell? ⟨b', 0, none⟩ = some (.int .i64 4) := ho.cells (g := b') rfl 0 _ rfl
          have e1 : w4.cell? ⟨b', 1, none⟩ = some (.string ⟨⟨x⟩⟩) := ho.cells (g := b') rfl 1 _ rfl
          simp only [List.length_cons] at hc1 ⊢
          clear h hq ho)
        go_ret
        exact ⟨ret_bool (by rw [← HF.out]; simp), hb4⟩
      · have hk' : (k == 4) = false := by simpa using hk
        obtain rfl : false = b := by rw [← HF.out, hk']; rfl
        clear HF hk
        go_enter Tryz.func115, Tryz.ntmps115
        go_wp2_with (
          go_at_call 14; refine HSC.out.mono ?_
          rintro e w4 ⟨hb4, h⟩
          obtain ⟨ts', v, hq, rfl, ho⟩ := h.resolve_right (by rintro ⟨_, _, _, h, _⟩; cases h)
          obtain rfl := Rd.ok.inj hq
          obtain ⟨A, cap, rfl, hc1, hc2⟩ := row_form ho
          obtain ⟨b', rfl, _, _⟩ := row_some ho (by simp)
          have e0 : w4.cell? ⟨b', 0, none⟩ = some (.int .i64 k) := ho.cells (g := b') rfl 0 _ rfl
          simp only [List.length_cons] at hc1 ⊢
          clear h hq ho)
        go_ret
        exact ⟨rfl, hb4⟩

set_option maxRecDepth 100000 in
set_option maxHeartbeats 2000000 in
theorem floats_l (l : List UInt8) (w : World) (hgl : Gl w) (hl : l.length ≤ 140737488351232) : Calls Tryz.prog 116 #[.string ⟨⟨l⟩⟩] w fun e w' => e = .returned (.bool (numOf 5 l)) ∧ Below w.heap.size w w' := by
  have hsc := Scan_any l w hgl hl
  obtain ⟨R, HR⟩ : ∃ R, Hid (scanT l = R) := ⟨_, rfl⟩
  obtain ⟨b, HB⟩ : ∃ b, Hid (numOf 5 l = b) := ⟨_, rfl⟩
  rw [HB.out]
  rw [HR.out] at hsc
  have hfin : firstIs 5 l R = b := by rw [← HB.out, numOf, HR.out]
  have HSC := Lib.hid hsc
  clear hsc hgl
  cases R with
  | bad ec ea =>
    obtain rfl : false = b := hfin
    go_enter Tryz.func116, Tryz.ntmps116
    go_wp2_with (
      go_at_call 14; refine HSC.out.mono ?_
      rintro e w4 ⟨hb4, h⟩
      obtain ⟨_, _, eb, _, rfl, _, _⟩ := h.resolve_left (by rintro ⟨_, _, h, _⟩; cases h)
      clear h)
    go_ret
    exact ⟨rfl, hb4⟩
  | ok ts =>
    cases ts with
    | nil =>
      obtain rfl : false = b := hfin
      go_enter Tryz.func116, Tryz.ntmps116
      go_wp2_with (
        go_at_call 14; refine HSC.out.mono ?_
        rintro e w4 ⟨hb4, h⟩
        obtain ⟨ts', v, hq, rfl, ho⟩ := h.resolve_right (by rintro ⟨_, _, _, h, _⟩; cases h)
        obtain rfl := Rd.ok.inj hq
        obtain ⟨A, cap, rfl, _, _⟩ := row_form ho
        simp only [List.length_nil]
        clear h hq ho)
      go_ret
      exact ⟨rfl, hb4⟩
    | cons t tr =>
      obtain ⟨k, x, a⟩ := t
      have HF : Hid ((k == 5 && x == l) = b) := hfin
      clear hfin
      by_cases hk : k = 5
      · subst hk
        go_enter Tryz.func116, Tryz.ntmps116
        go_wp2_with (
          go_at_call 14; refine HSC.out.mono ?_
          rintro e w4 ⟨hb4, h⟩
          obtain ⟨ts', v, hq, rfl, ho⟩ := h.resolve_right (by rintro ⟨_, _, _, h, _⟩; cases h)
          obtain rfl := Rd.ok.inj hq
          obtain ⟨A, cap, rfl, hc1, hc2⟩ := row_form ho
          obtain ⟨b', rfl, _, _⟩ := row_some ho (by simp)
          have e0 : w4.cell? ⟨b', 0, none⟩ = some (.int .i64 5) := ho.cells (g := b') rfl 0 _ rfl
          have e1 : w4.cell? ⟨b', 1, none⟩ = some (.string ⟨⟨x⟩⟩) := ho.cells (g := b') rfl 1 _ rfl
          simp only [List.length_cons] at hc1 ⊢
          clear h hq ho)
        go_ret
        exact ⟨ret_bool (by rw [← HF.out]; simp), hb4⟩
      · have hk' : (k == 5) = false := by simpa using hk
        obtain rfl : false = b := by rw [← HF.out, hk']; rfl
        clear HF hk
        go_enter Tryz.func116, Tryz.ntmps116
        go_wp2_with (
          go_at_call 14; refine HSC.out.mono ?_
          rintro e w4 ⟨hb4, h⟩
          obtain ⟨ts', v, hq, rfl, ho⟩ := h.resolve_right (by rintro ⟨_, _, _, h, _⟩; cases h)
          obtain rfl := Rd.ok.inj hq
          obtain ⟨A, cap, rfl, hc1, hc2⟩ := row_form ho
          obtain ⟨b', rfl, _, _⟩ := row_some ho (by simp)
          have e0 : w4.cell? ⟨b', 0, none⟩ = some (.int .i64 k) := ho.cells (g := b') rfl 0 _ rfl
          simp only [List.length_cons] at hc1 ⊢
          clear h hq ho)
        go_ret
        exact ⟨rfl, hb4⟩


def intB (s : ByteArray) : Bool := numOf 4 s.data.toList
def floatsB (s : ByteArray) : Bool := numOf 5 s.data.toList
/-- The numbers of a tree that lies. -/
theorem IntsAt_any (s : ByteArray) (hs : s.size ≤ 140737488351232) : IntsAt intB s := fun w hgl => ints_l s.data.toList w hgl (by simpa using hs)
theorem FloatsAt_any (s : ByteArray) (hs : s.size ≤ 140737488351232) : FloatsAt floatsB s := fun w hgl => floats_l s.data.toList w hgl (by simpa using hs)
end Go.Proofs.YtokhfhibdeneeaaGreatDoor
