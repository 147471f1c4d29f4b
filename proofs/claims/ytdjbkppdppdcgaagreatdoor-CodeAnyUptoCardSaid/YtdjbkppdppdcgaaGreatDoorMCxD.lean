/- code.text; the bytes that Encode lays down, with the boxes beside them. code.typed; strings.Split at a blank; code.says$1 (among); code.names. code.names: so many names, a blank between, those behind the first all unlike. -/
import Derived.Laws.IdiomStrings
import Derived.Lib.SplitLaws
import Derived.Test.YtdjbkppdppdcgaaGreatDoorMCwB
import Derived.Test.YtdjbkppdppdcgaaGreatDoorSqC
import Derived.Test.YtdjbkppdppdcgaaGreatDoorMCwG
import Derived.Test.YtdjbkppdppdcgaaGreatDoorMCwX
namespace Go.Proofs.YtdjbkppdppdcgaaGreatDoor
open Go.RowKit

theorem own_foot {w w2 : World} {v : Value} (hg : w.grownBy w2 v.ownBlock) :
    Foot w.heap.size (fun k => v.ownBlock = some k) w w2 :=
  ⟨hg.os, hg.tape, hg.output, hg.size, fun k hk hn => hg.block k hk (fun e => hn e.symm)⟩
/-- numbers of a row just built. -/
theorem numbers_lit {w : World} {lo : Nat} {v : Value} {bs : List UInt8} (h : w.ownsRow lo 5 1 v bs.length (Lib.byteCells bs)) (hlo : lo ≤ w.heap.size) (l : List Int) {cs : List Value} (hcs : cs = l.map (Value.int .i64)) {n : Nat} (hn : n = l.length) (hok : ∀ n ∈ l, okI n) (hlen : bs.length + 11 * n ≤ 100000000) :
    Calls Tryz.prog 34 #[v, .slice (some ⟨w.heap.size, 0, none⟩) n n] (w.alloc (.cells cs.toArray 3 (0, 0))) (BytesPost w lo v (bs ++ l.flatMap numB)) := by
  subst hn
  have hlt := h.lt
  refine (numbers_any (w := w.alloc (.cells cs.toArray 3 (0, 0))) (l := l) (A := some ⟨w.heap.size, 0, none⟩) (cap := l.length) (h.alloc _) (by simp; omega) (fun g hg => by have := (hlt g hg).2; simp; omega)
      (by
        refine .inr ⟨w.heap.size, 0, rfl, by simp, fun j v hj => ?_⟩
        have e := cell_of_row (w.alloc (.cells cs.toArray 3 (0, 0))) w.heap.size j _ _ _ (heap_alloc_new w _)
        rw [Nat.zero_add, e, List.getElem?_toArray, hcs, hj])
      (fun a ha => by
        obtain rfl := Option.some.inj ha
        intro e
        have := (hlt _ e).2
        simp at this) hok (by omega)).mono ?_
  rintro e w1 ⟨v1, he, ho1, hf1, hb1⟩
  refine ⟨v1, he, ho1, ?_, fun b hb => ?_⟩
  · exact ⟨hf1.os, hf1.tape, hf1.output, by have := hf1.size; rw [World.size_alloc] at this; omega, fun k hk hn => (hf1.block k (by rw [World.size_alloc]; omega) hn).trans (heap_alloc_old _ _ hk)⟩
  · rcases hb1 b hb with h | h
    · exact .inl h
    · rw [World.size_alloc] at h; exact .inr (by omega)

section
variable {P : Program} (w : World)
/-- 'append(b, s...)': where what comes out lies. -/
theorem run_append_str_at (base : Nat) (t u ty e : TypeId) (i : TypeInfo) (ht : P.underlying t = some (.slice e)) (hu : P.underlying u = some .string) (hi : P.info? e = some i) (hz : i.zero = some (.int .u8 0))
    (hsize : i.size = 1) (hby : i.bytes = 1) (v : Value) (n : Nat) (xs : List Value) (hown : w.ownsRow base e 1 v n xs) (s : ByteArray)
    (h63 : n + s.size ≤ maxLen) (hbytes : n + s.size ≤ 140737488355328) : ∃ v' w', (Builtin.append_ #[t, u] ty #[v, .string s]).run P w = .ok v' w' ∧ ∀ b, v'.ownBlock = some b → v.ownBlock = some b ∨ w.heap.size ≤ b := by
  have hsmall : n + s.size ≤ 9223372036854775807 := by simp only [maxLen] at h63; omega
  have hxl : xs.length = n := by simpa using hown.1
  rcases hown.2 with ⟨rfl, rfl⟩ | ⟨g, cap, cur, rfl, hbg, hg, hnc, hcm, hcs, htake⟩
  · have hx : xs = [] := List.eq_nil_of_length_eq_zero hxl
    subst hx
    by_cases hm : s.size = 0
    · have hn : Lib.strCells s = [] := List.eq_nil_of_length_eq_zero (by rw [Lib.strCells_length]; exact hm)
      have hf := Lib.run_firstCells_string (P := P) w 1 s
      rw [hm] at hf
      exact ⟨.slice none 0 0, w, by simp [Builtin.append_, run_underlying ht, run_underlying hu, sizeOf, typeInfo, hi, hsize, Builtin.lenOf, hm, hf], fun b hb => by simp [Value.ownBlock] at hb⟩
    · refine ⟨_, _, run_append_nil_string (P := P) w t u ty e i (.int .u8 0) ht hu hi hz s (by omega) (by omega) (by rw [hby]; omega), fun b hb => ?_⟩
      simp only [Value.ownBlock, Option.some.injEq] at hb
      exact .inr (by omega)
  · by_cases hroom : n + s.size ≤ cap
    · have hcs' : cur.size = cap := by simpa using hcs
      exact ⟨_, _, Lib.run_append_room_string (P := P) w t u ty e i ht hu hi hsize g n cap cur hg s hroom (by omega), fun b hb => .inl hb⟩
    · have holds : ∀ j u, xs[j]? = some u → w.cell? ((⟨g, 0, none⟩ : Addr).add j) = some u := hown.cells (g := g) rfl
      refine ⟨_, _, Lib.run_append_grow_string (P := P) w t u ty e i (.int .u8 0) ht hu hi hz ⟨g, 0, none⟩ n cap xs (by rw [hsize]; simpa using hxl) holds s (by omega) (by omega) (by rw [hby]; exact growslice_fits (by omega) (by omega)), fun b hb => ?_⟩
      simp only [Value.ownBlock, Option.some.injEq] at hb
      exact .inr (by omega)
theorem wpList_append_str {ops : Array Oper} {rest : List Oper} {o : Oper} {a : Act} {Q : Exit → Act → World → Prop} (hgd : o.guard = none) (sl x : Operand) (t u : TypeId)
    (ho : o.op = .call { callee := .builtin .append, args := #[sl, x], argTypes := #[t, u] })
    (base : Nat) (e : TypeId) (i : TypeInfo) (ht : P.underlying t = some (.slice e)) (hu : P.underlying u = some .string) (hi : P.info? e = some i) (hz : i.zero = some (.int .u8 0))
    (hsize : i.size = 1) (hby : i.bytes = 1)
    (v : Value) (n : Nat) (xs : List Value) (hs : a.eval sl = v) (hown : w.ownsRow base e 1 v n xs) (s : ByteArray) (hx : a.eval x = .string s)
    (h63 : n + s.size ≤ maxLen) (hbytes : n + s.size ≤ 140737488355328) (hbase : base ≤ w.heap.size)
    (h : ∀ v' w', w'.ownsRow base e 1 v' (n + s.size) (xs ++ Lib.strCells s) → w.grownBy w' v.ownBlock → (∀ b, v'.ownBlock = some b → v.ownBlock = some b ∨ w.heap.size ≤ b) → wpList P ops Q rest (a.put o.dst v') w') : wpList P ops Q (o :: rest) a w := by
  refine wpList_plain hgd fun K hK => ?_
  obtain ⟨v', w', hr, h2, h3, h4⟩ := Lib.run_append_own_string (P := P) w base t u o.type e i ht hu hi hz hsize hby v n xs hown s h63 hbytes hbase
  obtain ⟨v2, w2, hr2, h5⟩ := run_append_str_at (P := P) w base t u o.type e i ht hu hi hz hsize hby v n xs hown s h63 hbytes
  have e1 := hr.symm.trans hr2
  injection e1 with e1 e2
  subst e1
  unfold Oper.wp execOp
  simp only [ho, resolve, invoke, builtin, Sem.run_bind, Sem.run_pure, Result.andThen_ok, List.map_toArray, List.map_cons, List.map_nil, hs, hx, hr]
  exact hK _ _ (h v' w' h2 h3 h5)
end

set_option maxRecDepth 100000 in
set_option maxHeartbeats 4000000 in
theorem text_any {w : World} {lo : Nat} {v : Value} {bs : List UInt8} (h : w.ownsRow lo 5 1 v bs.length (Lib.byteCells bs)) (hlo : lo ≤ w.heap.size) (s : ByteArray) (hlen : bs.length + s.size ≤ 90000000) :
    Calls Tryz.prog 35 #[v, .string s] w (BytesPost w lo v (bs ++ textB s.data.toList)) := by
  obtain ⟨i0, hi, hz0, hz1, hz2⟩ := info_parts byteInfo
  obtain ⟨A0, c0, rfl, hc1, hc2⟩ := row_form h
  have hsz : s.data.toList.length = s.size := by rw [Array.length_toList]; rfl
  have hnl : (numB (s.size : Int)).length ≤ 11 := by unfold numB; exact numU_len 10 _
  have HSZ := Lib.hid hsz
  have HN := Lib.hid (numbers_lit h hlo [(s.size : Int)] rfl rfl (fun n hn => by rw [List.mem_singleton.1 hn]; exact ⟨by omega, by omega⟩) (by simp; omega))
  clear h hsz
  go_enter Tryz.func35, Tryz.ntmps35
  go_wp2_with (first
    | (go_at_call 34; refine HN.out.mono ?_; rintro e w1 ⟨v1, rfl, ho1, hf1, hb1⟩; have HO1 := Lib.hid ho1; clear ho1; have hl1 : (bs ++ [(s.size : Int)].flatMap numB).length ≤ bs.length + 11 := by simp; exact hnl)
    | (at_builtin; refine wpList_append_str _ rfl _ _ 69 9 rfl lo 5 i0 Tryz.underlying69 Tryz.underlying9 hi hz0 hz1 hz2 _ _ _ rfl HO1.out s rfl (by unfold maxLen; omega) (by omega) (by have := hf1.size; omega) ?_; intro v2 w2 ho2 hg2 hn2))
  go_ret
  refine ⟨v2, rfl, ?_, bytes_step hf1 hb1 (own_foot hg2), bytes_far hf1.size hb1 hn2⟩
  have hlen2 : (bs ++ textB s.data.toList).length = (bs ++ [(s.size : Int)].flatMap numB).length + s.size := by
    simp [textB, HSZ.out]; omega
  rw [hlen2, show bs ++ textB s.data.toList = (bs ++ [(s.size : Int)].flatMap numB) ++ s.data.toList by simp [textB, HSZ.out], Lib.byteCells, List.map_append]
  exact ho2

/-- The bytes so far, all in memory younger than w0. -/
structure EncAt (w0 W : World) (v : Value) (bs : List UInt8) : Prop where
  own : W.ownsRow w0.heap.size 5 1 v bs.length (Lib.byteCells bs)
  low : Below w0.heap.size w0 W
/-- A box beside them. -/
def Box (W : World) (v : Value) (b : Nat) (o : Obj) : Prop := W.heap[b]? = some o ∧ v.ownBlock ≠ some b
theorem Box.lt {W : World} {v : Value} {b : Nat} {o : Obj} (h : Box W v b o) : b < W.heap.size := (Array.getElem?_eq_some_iff.1 h.1).1
theorem EncAt.post {w0 W W' : World} {v : Value} {bs bs' : List UInt8} {e : Ending} (h : EncAt w0 W v bs) (hp : BytesPost W w0.heap.size v bs' e W') :
    ∃ v', e = .returned v' ∧ EncAt w0 W' v' bs' ∧ ∀ b o, Box W v b o → Box W' v' b o := by
  obtain ⟨v', he, ho, hf, hb⟩ := hp
  refine ⟨v', he, ⟨ho, ⟨hf.os.trans h.low.os, hf.tape.trans h.low.tape, hf.output.trans h.low.output, Nat.le_trans h.low.size hf.size, fun k hk => (hf.block k (Nat.lt_of_lt_of_le hk h.low.size) fun e => ?_).trans (h.low.block k hk)⟩⟩, fun b o hx => ⟨(hf.block b hx.lt hx.2).trans hx.1, fun e => ?_⟩⟩
  · have := (h.own.lt _ e).1; omega
  · rcases hb b e with h1 | h1
    · exact hx.2 h1
    · have := hx.lt; omega
theorem EncAt.alloc {w0 W : World} {v : Value} {bs : List UInt8} (h : EncAt w0 W v bs) (o : Obj) : EncAt w0 (W.alloc o) v bs := ⟨h.own.alloc _, h.low.alloc h.low.size _⟩
theorem EncAt.drew {w0 W : World} {v : Value} {bs : List UInt8} (h : EncAt w0 W v bs) : EncAt w0 W.drew v bs := ⟨h.own, ⟨h.low.os, h.low.tape, h.low.output, h.low.size, h.low.block⟩⟩
theorem Box.drew {W : World} {v : Value} {b : Nat} {o : Obj} (h : Box W v b o) : Box W.drew v b o := h
theorem Box.alloc {W : World} {v : Value} {b : Nat} {o : Obj} (h : Box W v b o) (x : Obj) : Box (W.alloc x) v b o := ⟨(heap_alloc_old _ _ h.lt).trans h.1, h.2⟩
theorem EncAt.box {w0 W : World} {v : Value} {bs : List UInt8} (h : EncAt w0 W v bs) (o : Obj) : Box (W.alloc o) v W.heap.size o := ⟨heap_alloc_new _ _, fun e => by have := (h.own.lt _ e).2; omega⟩
end Go.Proofs.YtdjbkppdppdcgaaGreatDoor

namespace Go.Proofs.YtdjbkppdppdcgaaGreatDoor
open Go.RowKit

set_option maxRecDepth 100000 in
set_option maxHeartbeats 4000000 in
theorem typed_any (s : List UInt8) (p a : Bool) (w : World) (h : Gc w) (hs : s.length ≤ 4000000000) : Calls Tryz.prog 84 #[.string ⟨⟨s⟩⟩, .bool p, .bool a] w fun e w' => e = .returned (.bool (typedB s p a)) ∧ Below w.heap.size w w' := by
  have HN : Hid (Calls Tryz.prog 52 #[.string ⟨⟨s⟩⟩] w fun e w' => e = .returned (.bool (nameL s)) ∧ Below w.heap.size w w') := Lib.hid (named_any ⟨⟨s⟩⟩ w h (by show s.length ≤ _; omega))
  have HR : Hid (typedB s p a = (nameL s || (!p && (s == [109, 97, 112] || s == [102, 117, 110, 99] || (a && s == [97, 110, 121]))))) := Lib.hid rfl
  clear h
  go_enter Tryz.func84, Tryz.ntmps84
  cases e0 : nameL s <;> rw [e0] at HN HR
  · cases p
    · cases e1 : (s == [109, 97, 112]) <;> rw [e1] at HR
      · cases e2 : (s == [102, 117, 110, 99]) <;> rw [e2] at HR
        · cases a <;> rw [HR.out] <;> clear HR
          all_goals
            go_wp2_with (go_at_call 52; refine HN.out.mono ?_; rintro e w' ⟨rfl, hb⟩)
            go_ret
            exact ⟨ret_bool (by first | rfl | simp_all), hb⟩
        · rw [HR.out]
          clear HR
          go_wp2_with (go_at_call 52; refine HN.out.mono ?_; rintro e w' ⟨rfl, hb⟩)
          go_ret
          exact ⟨ret_bool (by first | rfl | simp_all), hb⟩
      · rw [HR.out]
        clear HR
        go_wp2_with (go_at_call 52; refine HN.out.mono ?_; rintro e w' ⟨rfl, hb⟩)
        go_ret
        exact ⟨ret_bool (by first | rfl | simp_all), hb⟩
    · rw [HR.out]
      clear HR
      go_wp2_with (go_at_call 52; refine HN.out.mono ?_; rintro e w' ⟨rfl, hb⟩)
      go_ret
      exact ⟨ret_bool (by first | rfl | simp_all), hb⟩
  · rw [HR.out]
    clear HR
    go_wp2_with (go_at_call 52; refine HN.out.mono ?_; rintro e w' ⟨rfl, hb⟩)
    go_ret
    exact ⟨ret_bool (by first | rfl | simp_all), hb⟩

theorem part_len (c : UInt8) : ∀ (s : List UInt8) (t : List UInt8), t ∈ splitC c s → t.length ≤ s.length
  | [], t, h => by
    rw [splitC, List.mem_singleton] at h
    rw [h]; exact Nat.le_refl _
  | x :: r, t, h => by
    rw [splitC] at h
    by_cases hx : x = c
    · rw [if_pos hx, List.mem_cons] at h
      rcases h with rfl | h
      · exact Nat.zero_le _
      · exact Nat.le_succ_of_le (part_len c r t h)
    · rw [if_neg hx] at h
      have ih := part_len c r
      cases hs : splitC c r with
      | nil =>
        rw [hs] at h
        rw [List.mem_singleton.1 h]
        simp
      | cons y ys =>
        rw [hs] at h ih
        rcases List.mem_cons.1 h with rfl | h
        · have := ih y (List.mem_cons_self ..)
          simp only [List.length_cons]; omega
        · exact Nat.le_succ_of_le (ih t (List.mem_cons_of_mem _ h))
theorem split32 (S : ByteArray) (hs : S.size ≤ 4000000000) : ∃ xs : List ByteArray, xs.map (fun x => x.data.toList) = splitC 32 S.data.toList ∧ (∀ x ∈ xs, x.size ≤ S.size) ∧ xs.length ≤ S.size + 1 ∧
    ∀ V, Gc V → Calls Tryz.prog 69 #[.string S, .string ⟨#[32]⟩] V fun e V' => e = .returned (.slice (some ⟨V.heap.size, 0, none⟩) xs.length xs.length) ∧ V' = V.alloc (.cells (xs.map Value.string).toArray 9) := by
  have h1 := split_one S 32
  have hc : Lib.countB S ⟨#[32]⟩ ≤ S.size := by
    unfold Lib.countB
    rw [show (⟨#[32]⟩ : ByteArray).data.toList = [32] from rfl, Lib.count_one]
    exact List.count_le_length
  refine ⟨_, h1, fun x hx => ?_, ?_, fun V hV => ?_⟩
  · have hm : x.data.toList ∈ splitC 32 S.data.toList := by rw [← h1]; exact List.mem_map_of_mem hx
    exact part_len 32 _ _ hm
  · rw [Lib.splitB_all ⟨#[32]⟩ (by decide) 0 _ S rfl]; omega
  · obtain ⟨m, hm⟩ := hV.max
    refine (Tryz.strings_Split S ⟨#[32]⟩ m V (by omega) hm (by decide)).mono ?_
    rintro e V' ⟨rfl, rfl⟩
    rw [Lib.splitB_all ⟨#[32]⟩ (by decide) 0 _ S rfl]
    exact ⟨rfl, rfl⟩

set_option maxRecDepth 100000 in
set_option maxHeartbeats 4000000 in
theorem among_any (L : ByteArray) (W : List (List UInt8)) (hL : splitC 32 L.data.toList = W) (hLs : L.size ≤ 1000) {w : World} (hG : Gc w) {b : Nat} {T : List UInt8} (hc : w.cell? ⟨b, 3, none⟩ = some (.string ⟨⟨T⟩⟩)) :
    Calls Tryz.prog 81 #[.string L, .pointer (some ⟨b, 0, none⟩)] w fun e w' => e = .returned (.bool (amongB W T)) ∧ Below w.heap.size w w' := by
  obtain ⟨xs, h1, h2, h3, h4⟩ := split32 L (by omega)
  have hbw := World.block_lt_of_cell? w _ hc
  dsimp only at hbw
  have HS := Lib.hid h4
  have HA : Hid (amongB W T = (!T.isEmpty && xs.any (fun x => (⟨⟨T⟩⟩ : ByteArray).toList == x.toList))) := Lib.hid (by
    unfold amongB
    congr 1
    rw [← hL, ← h1, List.any_map]
    congr 1
    funext x
    rw [ByteArray.toList_eq, ByteArray.toList_eq, Function.comp_apply, Bool.beq_comm])
  have HX : Hid (xs.length ≤ 140737488351232) := Lib.hid (by omega)
  obtain ⟨n, hn⟩ : ∃ n, xs.length = n := ⟨_, rfl⟩
  have HC : Hid (∀ (V : World) (cap : Nat), Calls Tryz.prog 77 #[.slice (some ⟨V.heap.size, 0, none⟩) n cap, .string ⟨⟨T⟩⟩] (V.alloc (.cells (xs.map Value.string).toArray 9)) fun e w' => e = .returned (.bool (xs.any (fun x => (⟨⟨T⟩⟩ : ByteArray).toList == x.toList))) ∧ w' = V.alloc (.cells (xs.map Value.string).toArray 9)) :=
    Lib.hid fun V cap => hn ▸ Contains_list xs V.heap.size cap 9 (0, 0) ⟨⟨T⟩⟩ _ (heap_alloc_new _ _) HX.out
  rw [hn] at HS
  have HG : Hid (Gc w.drew) := Lib.hid (hG.up (drew_under w 1))
  have hc0 : w.drew.cell? ⟨b, 3, none⟩ = some (.string ⟨⟨T⟩⟩) := hc
  have hbd : b < w.drew.heap.size := hbw
  have HB : Hid (Below w.heap.size w w.drew) := Lib.hid (drew_under w 1)
  clear h1 h2 h3 h4 hG hn HX hc hbw
  cases T with
  | cons c r =>
    rw [HA.out]
    clear HA
    obtain ⟨B, hB⟩ : ∃ B, w.heap.size = B := ⟨_, rfl⟩
    obtain ⟨R, hR⟩ : ∃ R, (xs.any fun x => (⟨⟨c :: r⟩⟩ : ByteArray).toList == x.toList) = R := ⟨_, rfl⟩
    rw [hR] at HC ⊢
    go_enter Tryz.func81, Tryz.ntmps81
    go_upto_region 1 with fail
    refine wp_region_G [] (fun u => u.cell? ⟨b, 3, none⟩ = some (.string ⟨⟨c :: r⟩⟩)) (by rfl) ?_ (fun hHeld => ?_)
    · exact hc0
    generalize hwd : World.drew w = wd at HG HB hc0 hbd hHeld ⊢
    refine wpAnyG_take (i := 0) (v := ?_) rfl (by kernel_rfl) (by kernel_rfl) (by kernel_rfl) (by kernel_rfl) (by kernel_rfl) (fun _ _ _ h => h) (Or.inl ⟨by rfl, ?_⟩) (by assumption) ?_
    rotate_left
    · (intro w hSw; (try dsimp only at hSw); go_simp; try with_reducible rfl)
    try simp only [nmC]
    refine wpAnyG_take (i := 1) (v := ?_) rfl (by kernel_rfl) (by kernel_rfl) (by kernel_rfl) (by kernel_rfl) (by kernel_rfl) (fun _ _ _ h => h) (Or.inl ⟨by rfl, ?_⟩) (by assumption) ?_
    rotate_left
    · (intro w hSw; (try dsimp only at hSw); go_simp; try with_reducible rfl)
    try simp only [nmC]
    refine wpAnyG_take (i := 2) (v := ?_) rfl (by kernel_rfl) (by kernel_rfl) (by kernel_rfl) (by kernel_rfl) (by kernel_rfl) (fun _ _ _ h => h) (Or.inl ⟨by rfl, ?_⟩) (by assumption) ?_
    rotate_left
    · (intro w hSw; (try dsimp only at hSw); go_simp; try with_reducible rfl)
    try simp only [nmC]
    refine wpAnyG_take (i := 3) (v := ?_) rfl (by kernel_rfl) (by kernel_rfl) (by kernel_rfl) (by kernel_rfl) (by kernel_rfl) (fun _ _ _ h => h) (Or.inl ⟨by rfl, ?_⟩) (by assumption) ?_
    rotate_left
    · (intro w hSw; (try dsimp only at hSw); go_simp; try with_reducible rfl)
    try simp only [nmC]
    refine wpAnyG_take (i := 4) (v := ?_) rfl (by kernel_rfl) (by kernel_rfl) (by kernel_rfl) (by kernel_rfl) (by kernel_rfl) (fun _ _ _ h => h) (Or.inl ⟨by rfl, ?_⟩) (by assumption) ?_
    rotate_left
    · (intro w hSw; (try dsimp only at hSw); go_simp; try with_reducible rfl)
    try simp only [nmC]
    refine wpAnyG_take (i := 6) (v := ?_) rfl (by kernel_rfl) (by kernel_rfl) (by kernel_rfl) (by kernel_rfl) (by kernel_rfl) (fun _ _ _ h => h) (Or.inl ⟨by rfl, ?_⟩) (by assumption) ?_
    rotate_left
    · (intro w hSw; (try dsimp only at hSw); go_simp; try with_reducible rfl)
    try simp only [nmC]
    refine wpAnyG_take (i := 7) (v := ?_) rfl (by kernel_rfl) (by kernel_rfl) (by kernel_rfl) (by kernel_rfl) (by kernel_rfl) (fun _ _ _ h => h) (Or.inl ⟨by rfl, ?_⟩) (by assumption) ?_
    rotate_left
    · (intro w hSw; (try dsimp only at hSw); go_simp; try with_reducible rfl)
    try simp only [nmC]
    refine wpAnyG_ready (rs := [5]) (by kernel_rfl) (by simp) ?_
    refine AllReadyG.cons rfl (fun KK hKK => ?_) AllReadyG.nil
    go_simp
    go_at_call 69
    refine (HS.out _ HG.out).mono ?_
    rintro e wz ⟨rfl, rfl⟩
    have hc1 := (((Below.refl wd.heap.size wd).alloc (Nat.le_refl _) (.cells (xs.map Value.string).toArray 9)).cell (p := ⟨b, 3, none⟩) hbd).trans hc0
    try dsimp only
    refine hKK.out _ _ (hc1) (fun hHeld => ?_)
    clear hKK KK
    try simp only [nmC]
    refine wpAnyG_ready (rs := [8]) (by kernel_rfl) (by simp) ?_
    refine AllReadyG.cons rfl (fun KK hKK => ?_) AllReadyG.nil
    go_simp
    go_at_call 77
    refine (HC.out _ _).mono ?_
    rintro e wz ⟨rfl, rfl⟩
    try dsimp only
    refine hKK.out _ _ (hc1) (fun hHeld => ?_)
    clear hKK KK
    try simp only [nmC]
    refine wpAnyG_take (i := 9) (v := ?_) rfl (by kernel_rfl) (by kernel_rfl) (by kernel_rfl) (by kernel_rfl) (by kernel_rfl) (fun _ _ _ h => h) (Or.inl ⟨by rfl, ?_⟩) (by assumption) ?_
    rotate_left
    · (intro w hSw; (try dsimp only at hSw); go_simp; try with_reducible rfl)
    try simp only [nmC]
    refine wpAnyG_take (i := 10) (v := ?_) rfl (by kernel_rfl) (by kernel_rfl) (by kernel_rfl) (by kernel_rfl) (by kernel_rfl) (fun _ _ _ h => h) (Or.inl ⟨by rfl, ?_⟩) (by assumption) ?_
    rotate_left
    · (intro w hSw; (try dsimp only at hSw); go_simp; try with_reducible rfl)
    try simp only [nmC]
    refine wpAnyG_done (by kernel_rfl) ?_ _
    go_wp2_with fail
    go_ret
    exact ⟨ret_bool rfl, HB.out.alloc HB.out.size _⟩
  | nil =>
    rw [HA.out]
    clear HA HC
    go_enter Tryz.func81, Tryz.ntmps81
    go_upto_region 1 with fail
    refine wp_region_G [] (fun u => u.cell? ⟨b, 3, none⟩ = some (.string ⟨⟨[]⟩⟩)) (by rfl) ?_ (fun hHeld => ?_)
    · exact hc0
    generalize hwd : World.drew w = wd at HG HB hc0 hbd hHeld ⊢
    refine wpAnyG_take (i := 0) (v := ?_) rfl (by kernel_rfl) (by kernel_rfl) (by kernel_rfl) (by kernel_rfl) (by kernel_rfl) (fun _ _ _ h => h) (Or.inl ⟨by rfl, ?_⟩) (by assumption) ?_
    rotate_left
    · (intro w hSw; (try dsimp only at hSw); go_simp; try with_reducible rfl)
    try simp only [nmC]
    refine wpAnyG_take (i := 1) (v := ?_) rfl (by kernel_rfl) (by kernel_rfl) (by kernel_rfl) (by kernel_rfl) (by kernel_rfl) (fun _ _ _ h => h) (Or.inl ⟨by rfl, ?_⟩) (by assumption) ?_
    rotate_left
    · (intro w hSw; (try dsimp only at hSw); go_simp; try with_reducible rfl)
    try simp only [nmC]
    refine wpAnyG_take (i := 2) (v := ?_) rfl (by kernel_rfl) (by kernel_rfl) (by kernel_rfl) (by kernel_rfl) (by kernel_rfl) (fun _ _ _ h => h) (Or.inl ⟨by rfl, ?_⟩) (by assumption) ?_
    rotate_left
    · (intro w hSw; (try dsimp only at hSw); go_simp; try with_reducible rfl)
    try simp only [nmC]
    refine wpAnyG_take (i := 3) (v := ?_) rfl (by kernel_rfl) (by kernel_rfl) (by kernel_rfl) (by kernel_rfl) (by kernel_rfl) (fun _ _ _ h => h) (Or.inl ⟨by rfl, ?_⟩) (by assumption) ?_
    rotate_left
    · (intro w hSw; (try dsimp only at hSw); go_simp; try with_reducible rfl)
    try simp only [nmC]
    refine wpAnyG_take (i := 4) (v := undef) rfl (by kernel_rfl) (by kernel_rfl) (by kernel_rfl) (by kernel_rfl) (by kernel_rfl) (fun _ _ _ h => h) (Or.inr ⟨by rfl, rfl⟩) (by assumption) ?_
    try simp only [nmC]
    refine wpAnyG_take (i := 5) (v := undef) rfl (by kernel_rfl) (by kernel_rfl) (by kernel_rfl) (by kernel_rfl) (by kernel_rfl) (fun _ _ _ h => h) (Or.inr ⟨by rfl, rfl⟩) (by assumption) ?_
    try simp only [nmC]
    refine wpAnyG_take (i := 6) (v := undef) rfl (by kernel_rfl) (by kernel_rfl) (by kernel_rfl) (by kernel_rfl) (by kernel_rfl) (fun _ _ _ h => h) (Or.inr ⟨by rfl, rfl⟩) (by assumption) ?_
    try simp only [nmC]
    refine wpAnyG_take (i := 7) (v := undef) rfl (by kernel_rfl) (by kernel_rfl) (by kernel_rfl) (by kernel_rfl) (by kernel_rfl) (fun _ _ _ h => h) (Or.inr ⟨by rfl, rfl⟩) (by assumption) ?_
    try simp only [nmC]
    refine wpAnyG_take (i := 8) (v := undef) rfl (by kernel_rfl) (by kernel_rfl) (by kernel_rfl) (by kernel_rfl) (by kernel_rfl) (fun _ _ _ h => h) (Or.inr ⟨by rfl, rfl⟩) (by assumption) ?_
    try simp only [nmC]
    refine wpAnyG_take (i := 9) (v := ?_) rfl (by kernel_rfl) (by kernel_rfl) (by kernel_rfl) (by kernel_rfl) (by kernel_rfl) (fun _ _ _ h => h) (Or.inl ⟨by rfl, ?_⟩) (by assumption) ?_
    rotate_left
    · (intro w hSw; (try dsimp only at hSw); go_simp; try with_reducible rfl)
    try simp only [nmC]
    refine wpAnyG_take (i := 10) (v := ?_) rfl (by kernel_rfl) (by kernel_rfl) (by kernel_rfl) (by kernel_rfl) (by kernel_rfl) (fun _ _ _ h => h) (Or.inl ⟨by rfl, ?_⟩) (by assumption) ?_
    rotate_left
    · (intro w hSw; (try dsimp only at hSw); go_simp; try with_reducible rfl)
    try simp only [nmC]
    refine wpAnyG_done (by kernel_rfl) ?_ _
    go_wp2_with fail
    go_ret
    exact ⟨ret_bool rfl, HB.out⟩
end Go.Proofs.YtdjbkppdppdcgaaGreatDoor

namespace Go.Proofs.YtdjbkppdppdcgaaGreatDoor
open Go.RowKit

theorem CntAt.wider {w : World} {b k k' : Nat} {l : List (List UInt8)} (h : CntAt w b k l) (hk : k ≤ k') : CntAt w b k' l := by
  obtain ⟨D, h1, h2⟩ := h
  exact ⟨D, h1.mono hk, h2⟩
theorem contains_cons (s x : List UInt8) (old : List (List UInt8)) : (s :: old).contains x = (x == s || old.contains x) := by
  rw [List.contains_cons]
theorem globalsB_eq : ∀ (l old : List (List UInt8)), globalsB old l = (l.all nameL && (nodup l && l.all fun x => !old.contains x))
  | [], _ => rfl
  | s :: r, old => by
    have h : (r.all fun x => !(s :: old).contains x) = (!r.contains s && r.all fun x => !old.contains x) := by
      induction r with
      | nil => rfl
      | cons y ys ih =>
        rw [List.all_cons, List.all_cons, ih, contains_cons, contains_cons, Bool.beq_comm (a := s)]
        cases (y == s) <;> cases old.contains y <;> cases ys.contains s <;> simp
    rw [globalsB, globalsB_eq r (s :: old), h, List.all_cons, List.all_cons, nodup]
    cases nameL s <;> cases old.contains s <;> cases r.all nameL <;> cases nodup r <;> cases r.contains s <;> rfl
def namesAll : List (List UInt8) → Bool
  | [] => true
  | x :: r => nameL x && globalsB [] r
theorem namesB_eq (s : List UInt8) (n : Int) : namesB s n = (namesAll (splitC 32 s) && decide (((splitC 32 s).length : Int) = n)) := by
  unfold namesB
  cases splitC 32 s with
  | nil => simp [namesAll, nodup]
  | cons x r =>
    rw [namesAll, globalsB_eq, List.all_cons, List.drop_one, List.tail_cons]
    cases nameL x <;> cases r.all nameL <;> cases nodup r <;> simp
set_option maxRecDepth 100000 in
set_option maxHeartbeats 4000000 in
theorem names_any (s : List UInt8) (n : Int) (w : World) (h : Gc w) (hs : s.length ≤ 4000000000) : Calls Tryz.prog 85 #[.string ⟨⟨s⟩⟩, .int .i64 n] w fun e w' => e = .returned (.bool (namesB s n)) ∧ Below w.heap.size w w' := by
  have hm := mapNew
  obtain ⟨xs, h1, h2, h3, h4⟩ := split32 ⟨⟨s⟩⟩ hs
  have h2' : ∀ x ∈ xs, x.size ≤ 4000000000 := fun x hx => Nat.le_trans (h2 x hx) hs
  have h3' : xs.length ≤ 4000000001 := Nat.le_trans h3 (by show s.length + 1 ≤ _; omega)
  have HS := Lib.hid h4
  have HX := Lib.hid h2'
  have HG := Lib.hid h
  obtain ⟨R, hR⟩ : ∃ R, namesB s n = R := ⟨_, rfl⟩
  rw [hR]
  rw [namesB_eq, show s = (⟨⟨s⟩⟩ : ByteArray).data.toList from rfl, ← h1, List.length_map] at hR
  obtain ⟨ts, hts⟩ : ∃ ts, xs.map (fun x => x.data.toList) = ts := ⟨_, rfl⟩
  rw [hts] at hR
  obtain ⟨c, hc⟩ : ∃ c, xs.length = c := ⟨_, rfl⟩
  have HL := Lib.hid hc
  have HTS := Lib.hid hts
  rw [hc] at hR h3' HS
  obtain ⟨Q, hQ⟩ : ∃ Q, namesAll ts = Q := ⟨_, rfl⟩
  rw [hQ] at hR
  have HR := Lib.hid hR
  have HQ := Lib.hid hQ
  clear h h1 h2 h2' h3 h4 hR hc hts hQ
  go_enter Tryz.func85, Tryz.ntmps85
  have HB0 : Hid (∀ o, Below w.heap.size w ((w.alloc o).alloc (.map #[] 0))) := Lib.hid fun o => ((Below.refl _ _).alloc (Nat.le_refl _) _).alloc (by simp) _
  have HC0 : Hid (∀ o, CntAt ((w.alloc o).alloc (.map #[] 0)) (w.heap.size + 1) 0 []) := Lib.hid fun o => by
    have := CntAt.made (w.alloc o)
    rw [World.size_alloc] at this
    exact this
  have HP0 : Hid (((w.alloc (.cells (xs.map Value.string).toArray 9)).alloc (.map #[] 0)).heap[w.heap.size]? = some (.cells (xs.map Value.string).toArray 9 (0, 0))) := Lib.hid ((heap_alloc_old _ _ (by simp)).trans (heap_alloc_new _ _))
  go_wp2_with (go_at_call 69; refine (HS.out _ HG.out).mono ?_; rintro e w1 ⟨rfl, rfl⟩)
  go_loopw [14] (fun i wr => ∃ j : Nat, j ≤ c ∧ i = .int .i64 j ∧ ∃ old : List (List UInt8), old.length ≤ j ∧ (j = 0 → old = []) ∧ Hid (CntAt wr (w.heap.size + 1) j old) ∧ Hid (Below w.heap.size w wr) ∧ Hid (wr.heap[w.heap.size]? = some (.cells (xs.map Value.string).toArray 9 (0, 0))) ∧ Hid ((if j = 0 then namesAll ts else globalsB old (ts.drop j)) = Q)) (fun i _ => c - (intOf i).toNat)
  case atStart => exact ⟨0, Nat.zero_le _, rfl, [], Nat.le_refl _, fun _ => rfl, HC0.out _, HB0.out _, HP0, HQ⟩
  case round =>
    obtain ⟨j, hj, rfl, old, hold, hz, HC, HB, HP, HI⟩ := hrel
    by_cases hlt : j < c
    · obtain ⟨x, hx⟩ : ∃ x, xs[j]? = some x := ⟨_, List.getElem?_eq_getElem (by rw [HL.out]; exact hlt)⟩
      have hcell : wr.cell? ⟨w.heap.size, j, none⟩ = some (.string x) := by
        rw [cell_of_row wr _ j _ _ _ HP.out]
        simp [hx]
      have hxs := HX.out x (List.mem_of_getElem? hx)
      have HD : Hid (ts.drop j = x.data.toList :: ts.drop (j + 1)) := Lib.hid (drop_cons (by rw [← HTS.out, List.getElem?_map, hx]; rfl))
      have hpw := (Array.getElem?_eq_some_iff.1 HP.out).1
      clear hx
      by_cases hj0 : j = 0
      · subst hj0
        obtain rfl := hz rfl
        have hk1 : ∀ w2, Below wr.heap.size wr w2 → (Instr.lookup 65 (.map (some (w.heap.size + 1))) (.string x) false).run Tryz.prog w2 = .ok (.int .i64 0) w2 := fun w2 hb2 => (HC.out.keep hb2).look x (by omega)
        have HK1 := Lib.hid hk1
        clear hk1
        have hq := HI.out
        rw [if_pos rfl, show ts = ts.drop 0 from rfl, HD.out, namesAll] at hq
        have HQ2 := Lib.hid hq
        have HG1 := Lib.hid (HG.out.up HB.out)
        clear hq
        cases hnm : nameB x with
        | false =>
          have hQ : Q = false := by rw [← HQ2.out, show nameL x.data.toList = false from hnm]; rfl
          subst hQ
          go_wp2_with (go_at_call 52; refine (named_any x wr HG1.out (by omega)).mono ?_; rw [hnm]; rintro e w2 ⟨rfl, hb2⟩)
          go_ret
          exact ⟨ret_bool (by rw [← HR.out]; rfl), HB.out.trans (hb2.mono HB.out.size)⟩
        | true =>
          have hQ : globalsB [] (ts.drop 1) = Q := by rw [← HQ2.out, show nameL x.data.toList = true from hnm]; rfl
          have HQ3 := Lib.hid hQ
          clear hQ
          go_wp2_with (go_at_call 52; refine (named_any x wr HG1.out (by omega)).mono ?_; rw [hnm]; rintro e w2 ⟨rfl, hb2⟩; have hk2 := HK1.out w2 hb2)
          go_roundw
          case rel => exact ⟨1, by omega, by go_num, [], Nat.zero_le _, fun h => absurd h (by decide), Lib.hid ((HC.out.keep hb2).wider (Nat.zero_le _)), Lib.hid (HB.out.trans (hb2.mono HB.out.size)), Lib.hid ((hb2.block _ hpw).trans HP.out), Lib.hid (by rw [if_neg (by decide)]; exact HQ3.out)⟩
          case measure => simp [intOf]; omega
      · have dj : decide (0 < (j : Int)) = true := by simp; omega
        obtain ⟨k, hk⟩ : ∃ k : Nat, old.count x.data.toList = k := ⟨_, rfl⟩
        have hkl : k ≤ old.length := by rw [← hk]; exact List.count_le_length
        have hk1 := HC.out.look x (by omega)
        obtain ⟨w1, hu, hC1, hg1⟩ := HC.out.put x (by omega) (by omega) (by omega)
        have hb1 : Below w.heap.size wr w1 := grownTo_below hg1 (Nat.le_succ _) HB.out.size
        have hp1 : w1.heap[w.heap.size]? = some (.cells (xs.map Value.string).toArray 9 (0, 0)) := (hg1.block _ hpw (by intro e; injection e with e; omega)).trans HP.out
        have hpw1 := (Array.getElem?_eq_some_iff.1 hp1).1
        have HP1 := Lib.hid hp1
        have HB1 := Lib.hid (HB.out.trans hb1)
        have HC1 := Lib.hid hC1
        rw [hk] at hk1 hu
        have HG1 := Lib.hid (HG.out.up HB1.out)
        have HK2 : Hid (∀ w2, Below w1.heap.size w1 w2 → (Instr.lookup 65 (.map (some (w.heap.size + 1))) (.string x) false).run Tryz.prog w2 = .ok (.int .i64 ((k + 1 : Nat) : Int)) w2) := Lib.hid fun w2 hb2 => by
          have := (HC1.out.keep hb2).look x (by omega)
          rw [List.count_cons_self, hk] at this
          exact this
        have HM := Lib.hid hk
        have hq := HI.out
        rw [if_neg hj0, HD.out] at hq
        have HQ2 := Lib.hid hq
        clear hC1 hg1 hb1 hk hq hp1
        cases hnm : nameB x with
        | false =>
          have hQ : Q = false := by rw [← HQ2.out, globalsB_stop (.inl hnm)]
          subst hQ
          go_wp2_with (go_at_call 52; refine (named_any x w1 HG1.out (by omega)).mono ?_; rw [hnm]; rintro e w2 ⟨rfl, hb2⟩)
          go_ret
          exact ⟨ret_bool (by rw [← HR.out]; rfl), HB1.out.trans (hb2.mono HB1.out.size)⟩
        | true =>
          by_cases hk0 : k = 0
          · subst hk0
            rw [show ((0 : Nat) : Int) + 1 = 1 from rfl] at hu
            rw [show ((0 : Nat) : Int) = 0 from rfl] at hk1
            have HQ3 := Lib.hid (show globalsB (x.data.toList :: old) (ts.drop (j + 1)) = Q by rw [← HQ2.out, globalsB_go hnm (count_zero_not HM.out)])
            go_wp2_with (go_at_call 52; refine (named_any x w1 HG1.out (by omega)).mono ?_; rw [hnm]; rintro e w2 ⟨rfl, hb2⟩; have hk2 := HK2.out w2 hb2)
            go_roundw
            case rel => exact ⟨j + 1, by omega, by go_num, x.data.toList :: old, by simp; omega, fun h => by omega, Lib.hid (HC1.out.keep hb2), Lib.hid (HB1.out.trans (hb2.mono HB1.out.size)), Lib.hid ((hb2.block _ hpw1).trans HP1.out), Lib.hid (by rw [if_neg (by omega)]; exact HQ3.out)⟩
            case measure => simp [intOf]; omega
          · have hQ : Q = false := by rw [← HQ2.out, globalsB_stop (.inr (count_pos_in (by rw [HM.out]; exact hk0)))]
            subst hQ
            go_wp2_with (go_at_call 52; refine (named_any x w1 HG1.out (by omega)).mono ?_; rw [hnm]; rintro e w2 ⟨rfl, hb2⟩; have hk2 := HK2.out w2 hb2)
            go_ret
            exact ⟨ret_bool (by rw [← HR.out]; rfl), HB1.out.trans (hb2.mono HB1.out.size)⟩
    · obtain rfl : j = c := by omega
      have hlen : ts.length = j := by rw [← HTS.out, List.length_map, HL.out]
      have hQ : Q = true := by
        rw [← HI.out]
        by_cases hj0 : j = 0
        · rw [if_pos hj0, List.eq_nil_of_length_eq_zero (hlen.trans hj0)]; rfl
        · rw [if_neg hj0, List.drop_of_length_le (by rw [hlen]; exact Nat.le_refl _)]; rfl
      subst hQ
      have hR : decide ((j : Int) = n) = R := by rw [← HR.out]; rfl
      have HR2 : Hid (((j : Int) == n) = R) := Lib.hid hR
      go_wp2_with fail
      go_ret
      exact ⟨ret_bool HR2.out, HB.out⟩
end Go.Proofs.YtdjbkppdppdcgaaGreatDoor
