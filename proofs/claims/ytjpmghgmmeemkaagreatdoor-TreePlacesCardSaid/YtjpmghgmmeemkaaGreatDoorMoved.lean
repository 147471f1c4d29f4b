/- guiselaw2.moved: a tree whose places are all so many further on, in memory of its own. -/
import Derived.Maps.AppendAt
import Derived.Test.YtjpmghgmmeemkaaGreatDoorJScanA
import Derived.Test.YtjpmghgmmeemkaaGreatDoorJPrA
namespace Go.Proofs.YtjpmghgmmeemkaaGreatDoor
open Go.RowKit

mutual
/-- As Lies: all lists lie at block C or above. -/
def LiesA (w : World) (C B : Nat) : Nd → Value → Prop
  | .mk k s n a ks, v => ∃ (A : Option Addr) (cap : Nat), v = .agg #[.int .i64 k, .string s, .int .i64 n, .int .i64 a, .slice A ks.length cap] ∧
      okI k ∧ okI n ∧ okI a ∧ s.size ≤ 140737488351232 ∧ ks.length ≤ cap ∧ cap ≤ 9223372036854775807 ∧
      (ks = [] ∨ ∃ b o, A = some ⟨b, o, none⟩ ∧ C ≤ b ∧ b < B ∧ LiesAL w C B ks b o)
def LiesAL (w : World) (C B : Nat) : List Nd → Nat → Nat → Prop
  | [], _, _ => True
  | t :: ts, b, o => (∃ c0 c1 c2 c3 c4 : Value, w.cell? ⟨b, o, none⟩ = some c0 ∧ w.cell? ⟨b, o + 1, none⟩ = some c1 ∧ w.cell? ⟨b, o + 2, none⟩ = some c2 ∧
      w.cell? ⟨b, o + 3, none⟩ = some c3 ∧ w.cell? ⟨b, o + 4, none⟩ = some c4 ∧ LiesA w C B t (.agg #[c0, c1, c2, c3, c4])) ∧ LiesAL w C B ts b (o + 5)
end

mutual
theorem LiesA.lies {w : World} {C B : Nat} : ∀ {t : Nd} {v : Value}, LiesA w C B t v → Lies w B t v
  | .mk k s n a ks, v, h => by
    unfold LiesA at h
    unfold Lies
    obtain ⟨A, cap, h1, h2, h3, h4, h5, h6, h7, h8⟩ := h
    refine ⟨A, cap, h1, h2, h3, h4, h5, h6, h7, ?_⟩
    rcases h8 with h8 | ⟨b, o, hA, _, hlt, hl⟩
    · exact .inl h8
    · exact .inr ⟨b, o, hA, hlt, LiesAL.lies hl⟩
theorem LiesAL.lies {w : World} {C B : Nat} : ∀ {ts : List Nd} {b o : Nat}, LiesAL w C B ts b o → LiesL w B ts b o
  | [], _, _, _ => by unfold LiesL; trivial
  | t :: ts, b, o, h => by
    unfold LiesAL at h
    unfold LiesL
    obtain ⟨⟨c0, c1, c2, c3, c4, h0, h1, h2, h3, h4, ht⟩, hl⟩ := h
    exact ⟨⟨c0, c1, c2, c3, c4, h0, h1, h2, h3, h4, ht.lies⟩, LiesAL.lies hl⟩
end

mutual
theorem LiesA.keep {w w' : World} {C B C' B' : Nat} (hk : ∀ b, C ≤ b → b < B → w'.heap[b]? = w.heap[b]?) (hC : C' ≤ C) (hB : B ≤ B') : ∀ {t : Nd} {v : Value}, LiesA w C B t v → LiesA w' C' B' t v
  | .mk k s n a ks, v, h => by
    unfold LiesA at h ⊢
    obtain ⟨A, cap, h1, h2, h3, h4, h5, h6, h7, h8⟩ := h
    refine ⟨A, cap, h1, h2, h3, h4, h5, h6, h7, ?_⟩
    rcases h8 with h8 | ⟨b, o, hA, hc, hlt, hl⟩
    · exact .inl h8
    · exact .inr ⟨b, o, hA, by omega, by omega, LiesAL.keep hk hC hB hc hlt hl⟩
theorem LiesAL.keep {w w' : World} {C B C' B' : Nat} (hk : ∀ b, C ≤ b → b < B → w'.heap[b]? = w.heap[b]?) (hC : C' ≤ C) (hB : B ≤ B') : ∀ {ts : List Nd} {b o : Nat}, C ≤ b → b < B → LiesAL w C B ts b o → LiesAL w' C' B' ts b o
  | [], _, _, _, _, _ => by unfold LiesAL; trivial
  | t :: ts, b, o, hc, hlt, h => by
    unfold LiesAL at h ⊢
    obtain ⟨⟨c0, c1, c2, c3, c4, h0, h1, h2, h3, h4, ht⟩, hl⟩ := h
    have e : ∀ i, w'.cell? ⟨b, i, none⟩ = w.cell? ⟨b, i, none⟩ := fun i => World.cell?_of_block (w := w) (hk b hc hlt)
    exact ⟨⟨c0, c1, c2, c3, c4, (e _).trans h0, (e _).trans h1, (e _).trans h2, (e _).trans h3, (e _).trans h4, ht.keep hk hC hB⟩, LiesAL.keep hk hC hB hc hlt hl⟩
end

theorem info24 : (Tryz.prog.info? 24).map (fun i => (i.zero, i.size, i.bytes)) = some (some (.agg #[.int .i64 0, .string ⟨#[]⟩, .int .i64 0, .int .i64 0, .slice none 0 0]), 5, 64) := by kernel_rfl
theorem sizeL_mem : ∀ {ts : List Nd} {t : Nd}, t ∈ ts → t.size ≤ sizeL ts
  | x :: ts, t, h => by
    unfold sizeL
    rcases List.mem_cons.1 h with rfl | h
    · omega
    · have := sizeL_mem h
      omega
theorem block_cell {w : World} {g : Nat} {cur : Array Value} {t : TypeId} (h : w.heap[g]? = some (.cells cur t (0, 0))) {i : Nat} (hi : i < cur.size) : (∃ u, w.cell? ⟨g, i, none⟩ = some u) ∧ w.frozen? ⟨g, i, none⟩ = false := by
  refine ⟨⟨cur[i], ?_⟩, ?_⟩
  · rw [cell_of_row w g i cur t _ h, Array.getElem?_eq_getElem hi]
  · simp [World.frozen?, h]

theorem sizeL_ge : ∀ ts : List Nd, ts.length ≤ sizeL ts
  | [] => by simp
  | t :: ts => by
    have := sizeL_ge ts
    have := Nd.size_pos t
    unfold sizeL
    simp only [List.length_cons]; omega

mutual
/-- The tree with its places so many further on. -/
def Nd.mv (d : Int) : Nd → Nd
  | .mk k s n a ks => .mk k s n (wrap64 (a + d)) (mvL d ks)
def mvL (d : Int) : List Nd → List Nd
  | [] => []
  | t :: ts => t.mv d :: mvL d ts
end
theorem mvL_map (d : Int) : ∀ ts : List Nd, mvL d ts = ts.map (Nd.mv d)
  | [] => rfl
  | t :: ts => by rw [mvL, mvL_map d ts]; rfl
theorem mvL_length (d : Int) (ts : List Nd) : (mvL d ts).length = ts.length := by rw [mvL_map]; simp
theorem mvL_get (d : Int) (ts : List Nd) (i : Nat) : (mvL d ts)[i]? = (ts[i]?).map (Nd.mv d) := by rw [mvL_map]; simp

/-- The cells of some trees, each of which lies in blocks of its own, and in none of the row's. -/
def MvC (W : World) (g : Option Nat) (lo : Nat) : List Nd → List Value → Prop
  | [], [] => True
  | t :: ts, c0 :: c1 :: c2 :: c3 :: c4 :: cs => (∃ C B, lo ≤ C ∧ B ≤ W.heap.size ∧ (∀ x, g = some x → x < C ∨ B ≤ x) ∧ LiesA W C B t (.agg #[c0, c1, c2, c3, c4])) ∧ MvC W g lo ts cs
  | _, _ => False
theorem MvC.append {W : World} {g : Option Nat} {lo : Nat} : ∀ {ts us : List Nd} {cs ds : List Value}, MvC W g lo ts cs → MvC W g lo us ds → MvC W g lo (ts ++ us) (cs ++ ds)
  | [], _, [], _, _, h => h
  | _ :: _, _, _ :: _ :: _ :: _ :: _ :: _, _, h, h' => ⟨h.1, MvC.append h.2 h'⟩
theorem MvC.keep {W W' : World} {g g' : Option Nat} {lo : Nat} (hk : ∀ b, b < W.heap.size → g ≠ some b → W'.heap[b]? = W.heap[b]?) (hs : W.heap.size ≤ W'.heap.size) (hg : g' = g ∨ ∃ x, g' = some x ∧ W.heap.size ≤ x) : ∀ {ts : List Nd} {cs : List Value}, MvC W g lo ts cs → MvC W' g' lo ts cs
  | [], [], _ => trivial
  | _ :: _, _ :: _ :: _ :: _ :: _ :: _, ⟨⟨C, B, h1, h2, h3, h4⟩, h⟩ => ⟨⟨C, B, h1, by omega, fun x hx => by
      rcases hg with hg | ⟨y, hy, hyl⟩
      · exact h3 x (hg ▸ hx)
      · rw [hy] at hx
        injection hx with hx
        omega, h4.keep (fun b hb1 hb2 => hk b (by omega) (fun e => by have := h3 b e; omega)) (Nat.le_refl _) (Nat.le_refl _)⟩, MvC.keep hk hs hg h⟩
theorem MvC.toL {W : World} {g : Option Nat} {lo b : Nat} : ∀ {ts : List Nd} {cs : List Value} {o : Nat}, MvC W g lo ts cs → (∀ j u, cs[j]? = some u → W.cell? ⟨b, o + j, none⟩ = some u) → LiesAL W lo W.heap.size ts b o
  | [], [], _, _, _ => by unfold LiesAL; trivial
  | t :: ts, c0 :: c1 :: c2 :: c3 :: c4 :: cs, o, ⟨⟨C, B, h1, h2, h3, h4⟩, h⟩, hc => by
    unfold LiesAL
    refine ⟨⟨c0, c1, c2, c3, c4, hc 0 _ rfl, hc 1 _ rfl, hc 2 _ rfl, hc 3 _ rfl, hc 4 _ rfl, h4.keep (fun _ _ _ => rfl) h1 h2⟩, MvC.toL h fun j u hj => ?_⟩
    have := hc (j + 5) u (by simpa using hj)
    rw [show o + 5 + j = o + (j + 5) from by omega]
    exact this
theorem row_newsN {W : World} {g : Nat} {cs : List Value} {t : TypeId} {fz : Nat × Nat} (h : W.heap[g]? = some (.cells cs.toArray t fz)) : ∀ j u, cs[j]? = some u → W.cell? ((⟨g, 0, none⟩ : Addr).add j) = some u := by
  intro j u hu
  have := cell_of_row W g j _ _ _ h
  rw [show ((⟨g, 0, none⟩ : Addr).add j) = ⟨g, j, none⟩ by simp [Addr.add]; omega, this]
  simpa using hu
theorem LiesA.form {w : World} {C B : Nat} {k : Int} {s : ByteArray} {n a : Int} {ks : List Nd} {v : Value} (h : LiesA w C B (.mk k s n a ks) v) : ∃ A cap, v = .agg #[.int .i64 k, .string s, .int .i64 n, .int .i64 a, .slice A ks.length cap] := by
  unfold LiesA at h
  obtain ⟨A, cap, h, _⟩ := h
  exact ⟨A, cap, h⟩

/-- One round: what is there behind the append. -/
theorem moved_round {w wr w' W3 w1 : World} {lo j : Nat} {o v1 : Value} {xs news : List Value} {us : List Nd} {u : Nd} (_hlo : lo ≤ wr.heap.size) (ho : wr.ownsRow lo 24 5 o j xs) (hm : MvC wr o.ownBlock lo us xs)
    (hA : LiesA w' wr.heap.size w'.heap.size u (.agg news.toArray)) (hn5 : news.length = 5) (hb' : Below wr.heap.size wr w') (hb3 : Below w'.heap.size w' W3) (hg : W3.grownBy w1 o.ownBlock) (hat : v1.ownBlock = o.ownBlock ∨ v1.ownBlock = some W3.heap.size) (_hw : w = w) :
    MvC w1 v1.ownBlock lo (us ++ [u]) (xs ++ news) := by
  have hs1 := hb'.size
  have hs2 := hb3.size
  have hs3 := hg.size
  have hB : Below wr.heap.size wr W3 := hb'.trans (hb3.mono hs1)
  refine (hm.keep (W' := w1) (g' := v1.ownBlock) (fun b hb hne => ?_) (by omega) ?_).append ?_
  · rw [hg.block b (by omega) (fun e => hne e.symm)]
    exact hB.block b hb
  · rcases hat with h | h
    · exact .inl h
    · exact .inr ⟨_, h, by omega⟩
  · match news, hn5, hA with
    | [c0, c1, c2, c3, c4], _, hA =>
      refine ⟨⟨wr.heap.size, w'.heap.size, by omega, by omega, fun x hx => ?_, hA.keep (fun b h1 h2 => ?_) (Nat.le_refl _) (Nat.le_refl _)⟩, trivial⟩
      · rcases hat with h | h
        · rw [h] at hx
          have := (ho.lt x hx).2
          omega
        · rw [h] at hx
          injection hx with hx
          omega
      · rw [hg.block b (by omega) (fun e => by have := (ho.lt b e.symm).2; omega)]
        exact hb3.block b h2
theorem take_mv {ks : List Nd} {d : Int} {j : Nat} {t : Nd} (h : ks[j]? = some t) : (mvL d ks).take (j + 1) = (mvL d ks).take j ++ [t.mv d] := by
  rw [List.take_add_one, mvL_get, h]
  rfl

theorem moved_result (tmps : Array Value) (W : World) (g : Nat) (v0 v1 v2 v3 v4 : Value) (h8 : tmps.getD 4 undef = .pointer (some ⟨g, 0, none⟩)) (h0 : W.cell? ⟨g, 0, none⟩ = some v0) (h1 : W.cell? ⟨g, 1, none⟩ = some v1) (h2 : W.cell? ⟨g, 2, none⟩ = some v2)
    (h3 : W.cell? ⟨g, 3, none⟩ = some v3) (h4 : W.cell? ⟨g, 4, none⟩ = some v4) : (results Tryz.f12 tmps).run Tryz.prog W = .ok (.agg #[v0, v1, v2, v3, v4]) W := by
  have h8' : tmps[4]?.getD undef = .pointer (some ⟨g, 0, none⟩) := by simpa using h8
  simp [results, Tryz.f12, go_sem, h8', h0, h1, h2, h3, h4]

theorem moved_end {w W0 wr : World} {k : Int} {s : ByteArray} {n a' d : Int} {a : Int} {ks : List Nd} {OA : Option Addr} {ocap : Nat} {xs : List Value} (hv : okI k ∧ okI n ∧ okI a' ∧ s.size ≤ 140737488351232) (hbb : Below w.heap.size w wr) (_hbw : Below (w.heap.size + 1 + 1) W0 wr)
    (ho : wr.ownsRow (w.heap.size + 1 + 1) 24 5 (.slice OA ks.length ocap) ks.length xs) (hm : MvC wr (Value.slice OA ks.length ocap).ownBlock (w.heap.size + 1 + 1) ((mvL d ks).take ks.length) xs)
    (hZ : wr.heap[w.heap.size + 1]? = some (.cells #[.int .i64 0, .string ⟨#[]⟩, .int .i64 0, .int .i64 0, .slice none 0 0] 24 (0, 0))) (hc1 : ks.length ≤ ocap) (hc2 : ocap ≤ 9223372036854775807) (_hwz : w.heap.size + 1 + 1 ≤ wr.heap.size)
    (tmps : Array Value) (h4 : tmps.getD 4 undef = .pointer (some ⟨w.heap.size + 1, 0, none⟩)) (ha' : a' = wrap64 (a + d) := by rfl) :
    bodyPost Tryz.prog Tryz.f12 (fun e w' => ∃ v', e = .returned v' ∧ LiesA w' w.heap.size w'.heap.size (Nd.mv d (.mk k s n a ks)) v' ∧ Below w.heap.size w w') .ret ⟨tmps, []⟩
      ((((((wr.setCell ⟨w.heap.size, 4, none⟩ (.slice OA ks.length ocap)).setCell ⟨w.heap.size + 1, 0, none⟩ (.int .i64 k)).setCell ⟨w.heap.size + 1, 1, none⟩ (.string s)).setCell ⟨w.heap.size + 1, 2, none⟩ (.int .i64 n)).setCell ⟨w.heap.size + 1, 3, none⟩ (.int .i64 a')).setCell ⟨w.heap.size + 1, 4, none⟩ (.slice OA ks.length ocap)) := by
  obtain ⟨W4, HW4⟩ : ∃ W4, (((((wr.setCell ⟨w.heap.size, 4, none⟩ (.slice OA ks.length ocap)).setCell ⟨w.heap.size + 1, 0, none⟩ (.int .i64 k)).setCell ⟨w.heap.size + 1, 1, none⟩ (.string s)).setCell ⟨w.heap.size + 1, 2, none⟩ (.int .i64 n)).setCell ⟨w.heap.size + 1, 3, none⟩ (.int .i64 a')).setCell ⟨w.heap.size + 1, 4, none⟩ (.slice OA ks.length ocap) = W4 := ⟨_, rfl⟩
  rw [HW4]
  have z0 : (wr.setCell ⟨w.heap.size, 4, none⟩ (.slice OA ks.length ocap)).heap[w.heap.size + 1]? = some (.cells #[.int .i64 0, .string ⟨#[]⟩, .int .i64 0, .int .i64 0, .slice none 0 0] 24 (0, 0)) := (Below.heap_setCell _ _ _ _ (by simp)).trans hZ
  have z5 := heap_setCell_same _ _ 4 _ _ (.slice OA ks.length ocap) (heap_setCell_same _ _ 3 _ _ (.int .i64 a') (heap_setCell_same _ _ 2 _ _ (.int .i64 n) (heap_setCell_same _ _ 1 _ _ (.string s) (heap_setCell_same _ _ 0 _ _ (.int .i64 k) z0))))
  rw [HW4] at z5
  have hk : ∀ b, w.heap.size + 1 + 1 ≤ b → b < wr.heap.size → W4.heap[b]? = wr.heap[b]? := fun b h1 _ => by
    rw [← HW4, Below.heap_setCell _ _ _ _ (by simp; omega), Below.heap_setCell _ _ _ _ (by simp; omega), Below.heap_setCell _ _ _ _ (by simp; omega), Below.heap_setCell _ _ _ _ (by simp; omega), Below.heap_setCell _ _ _ _ (by simp; omega), Below.heap_setCell _ _ _ _ (by simp; omega)]
  have hs : W4.heap.size = wr.heap.size := by rw [← HW4]; simp
  have hb4 : Below w.heap.size w W4 := by
    rw [← HW4]
    exact (((((hbb.setCell (p := ⟨w.heap.size, 4, none⟩) (Nat.le_refl _) _).setCell (p := ⟨w.heap.size + 1, 0, none⟩) (Nat.le_succ _) _).setCell (p := ⟨w.heap.size + 1, 1, none⟩) (Nat.le_succ _) _).setCell (p := ⟨w.heap.size + 1, 2, none⟩) (Nat.le_succ _) _).setCell (p := ⟨w.heap.size + 1, 3, none⟩) (Nat.le_succ _) _).setCell (p := ⟨w.heap.size + 1, 4, none⟩) (Nat.le_succ _) _
  refine bodyPost_ret (moved_result tmps W4 (w.heap.size + 1) (.int .i64 k) (.string s) (.int .i64 n) (.int .i64 a') (.slice OA ks.length ocap) h4 (cell_of_row W4 _ 0 _ _ _ z5) (cell_of_row W4 _ 1 _ _ _ z5) (cell_of_row W4 _ 2 _ _ _ z5) (cell_of_row W4 _ 3 _ _ _ z5) (cell_of_row W4 _ 4 _ _ _ z5)) rfl ⟨_, rfl, ?_, hb4⟩
  subst ha'
  unfold Nd.mv LiesA
  refine ⟨OA, ocap, by rw [mvL_length], hv.1, hv.2.1, hv.2.2.1, hv.2.2.2, by rw [mvL_length]; exact hc1, hc2, ?_⟩
  cases ks with
  | nil => exact .inl rfl
  | cons t ts =>
    obtain ⟨b, rfl, hb1, hb2⟩ := row_some ho (by simp)
    refine .inr ⟨b, 0, rfl, by omega, by omega, ?_⟩
    have hm' : MvC wr (Value.slice (some ⟨b, 0, none⟩) (t :: ts).length ocap).ownBlock (w.heap.size + 1 + 1) (mvL d (t :: ts)) xs := by
      rw [List.take_of_length_le (by rw [mvL_length]; exact Nat.le_refl _)] at hm
      exact hm
    have hl := MvC.toL (o := 0) (b := b) hm' (fun j u hj => by
      have := ho.cells (g := b) rfl j u hj
      have e : (⟨b, 0, none⟩ : Addr).add j = ⟨b, j, none⟩ := by unfold Addr.add; split <;> simp_all
      rw [e] at this
      simpa using this)
    exact hl.keep hk (by omega) (by omega) (by omega) (by omega)

set_option maxRecDepth 100000 in
set_option maxHeartbeats 4000000 in
theorem moved_any (d : Int) : ∀ (t : Nd) (v : Value) (w : World), Lies w w.heap.size t v → (t.size : Int) ≤ 100000 →
    Calls Tryz.prog 12 #[v, .int .i64 d] w fun e w' => ∃ v', e = .returned v' ∧ LiesA w' w.heap.size w'.heap.size (t.mv d) v' ∧ Below w.heap.size w w' := by
  refine Nd.induct (fun k s n a ks ih => ?_)
  intro v w hl hsz
  unfold Lies at hl
  obtain ⟨A, cap, rfl, hk, hn, ha, hs, hlc, hcap, hl⟩ := hl
  have hszL : (sizeL ks : Int) ≤ 99999 := by unfold Nd.size at hsz; omega
  have hkl : (ks.length : Int) ≤ 100000 := by have := sizeL_ge ks; omega
  have HSZ := Lib.hid hszL
  have IH := Lib.hid ih
  have HL := Lib.hid hl
  have HV := Lib.hid (And.intro hk (And.intro hn (And.intro (okI_wrap (a + d)) hs)))
  clear ih hl hk hn ha hs hsz hszL
  obtain ⟨i0, hi, hz0, hz1, hz2⟩ := info_parts info24
  go_enter Tryz.func12, Tryz.ntmps12
  go_wp2_with fail
  obtain ⟨W0, HW0⟩ : ∃ W0, Hid ((w.alloc (.cells #[.int .i64 k, .string s, .int .i64 n, .int .i64 (wrap64 (a + d)), .slice A ks.length cap] 24 (0, 0))).alloc (.cells #[.int .i64 0, .string ⟨#[]⟩, .int .i64 0, .int .i64 0, .slice none 0 0] 24 (0, 0)) = W0) := ⟨_, rfl⟩
  have hb0 : Below w.heap.size w W0 := by rw [← HW0.out]; exact ((Below.refl _ _).alloc (Nat.le_refl _) _).alloc (by simp) _
  have hsz0 : W0.heap.size = w.heap.size + 1 + 1 := by rw [← HW0.out]; simp
  have hN0 : W0.heap[w.heap.size]? = some (.cells #[.int .i64 k, .string s, .int .i64 n, .int .i64 (wrap64 (a + d)), .slice A ks.length cap] 24 (0, 0)) := by
    rw [← HW0.out, heap_alloc_old _ _ (by simp)]; exact heap_alloc_new w _
  have hZ0 : W0.heap[w.heap.size + 1]? = some (.cells #[.int .i64 0, .string ⟨#[]⟩, .int .i64 0, .int .i64 0, .slice none 0 0] 24 (0, 0)) := by
    rw [← HW0.out]
    simpa using heap_alloc_new (w.alloc (.cells #[.int .i64 k, .string s, .int .i64 n, .int .i64 (wrap64 (a + d)), .slice A ks.length cap] 24 (0, 0))) (.cells #[.int .i64 0, .string ⟨#[]⟩, .int .i64 0, .int .i64 0, .slice none 0 0] 24 (0, 0))
  rw [HW0.out]
  have HB0 := Lib.hid hb0
  have HN0 := Lib.hid hN0
  have HZ0 := Lib.hid hZ0
  clear hb0 hN0 hZ0
  go_loopw [5, 6] (fun o i wr => ∃ (j : Nat) (xs : List Value), j ≤ ks.length ∧ i = .int .i64 j ∧ Hid (wr.ownsRow (w.heap.size + 1 + 1) 24 5 o j xs) ∧ Hid (MvC wr o.ownBlock (w.heap.size + 1 + 1) ((mvL d ks).take j) xs) ∧ Below (w.heap.size + 1 + 1) W0 wr ∧ w.heap.size + 1 + 1 ≤ wr.heap.size) (fun _ i _ => ks.length - (intOf i).toNat)
  case atStart => exact ⟨0, [], by omega, rfl, Lib.hid (World.ownsRow_nil _ _ _ _), Lib.hid trivial, Below.refl _ _, by omega⟩
  case round =>
    obtain ⟨j, xs, hj, rfl, ho, hm, hbw, hwz⟩ := hrel
    have hN : wr.heap[w.heap.size]? = some (.cells #[.int .i64 k, .string s, .int .i64 n, .int .i64 (wrap64 (a + d)), .slice A ks.length cap] 24 (0, 0)) := (hbw.block _ (by omega)).trans HN0.out
    have hZ : wr.heap[w.heap.size + 1]? = some (.cells #[.int .i64 0, .string ⟨#[]⟩, .int .i64 0, .int .i64 0, .slice none 0 0] 24 (0, 0)) := (hbw.block _ (by omega)).trans HZ0.out
    have hbb : Below w.heap.size w wr := HB0.out.trans (hbw.mono (by omega))
    obtain ⟨OA, ocap, rfl, hc1, hc2⟩ := row_form ho.out
    have c4 : wr.cell? ⟨w.heap.size, 4, none⟩ = some (.slice A ks.length cap) := cell_of_row wr _ 4 _ _ _ hN
    by_cases hlt : j < ks.length
    · rcases HL.out with h | ⟨b, o, rfl, hbl, hLL⟩
      · subst h; simp at hlt
      obtain ⟨k', s', n', a', A2, cap2, ks', ht, d0, d1, d2, d3, d4, hLt⟩ := LiesL.get j hlt (LiesL.below hbb hbl hLL)
      have hmem := List.mem_of_getElem? ht
      have hks := sizeL_mem hmem
      have hcall := IH.out _ hmem _ wr (hLt.more hbb.size) (by have := HSZ.out; omega)
      have HC := Lib.hid hcall
      have HT := Lib.hid (take_mv (d := d) ht)
      have HBW := Lib.hid hbw
      clear hcall hLt ht hLL hmem hks hbb hN hZ hbw
      go_wp2_with fail
      refine HC.out.mono ?_
      rintro e w' ⟨v', rfl, hA, hb'⟩
      obtain ⟨A3, cap3, rfl⟩ : ∃ A3 cap3, v' = .agg #[.int .i64 k', .string s', .int .i64 n', .int .i64 (wrap64 (a' + d)), .slice A3 (mvL d ks').length cap3] := LiesA.form hA
      have HA := Lib.hid hA
      have HB' := Lib.hid hb'
      have hsw := hb'.size
      have ho' := Lib.hid (row_under hb' ho.out)
      clear hA hb' HC
      go_wp2_with (at_builtin; refine wpList_append_own_at _ rfl _ _ 22 rfl (w.heap.size + 1 + 1) 24 i0 _ 5 64 Tryz.underlying22 hi hz0 hz1 hz2 rfl (by decide) _ _ _ rfl ((ho'.out.alloc _).alloc _) ⟨w'.heap.size + 1, 0, none⟩ 1 1 [.int .i64 k', .string s', .int .i64 n', .int .i64 (wrap64 (a' + d)), .slice A3 (mvL d ks').length cap3] rfl rfl (row_newsN (fz := (0, 0)) (by simpa using heap_alloc_new (w'.alloc _) _)) (by intro u hu; simp at hu; rcases hu with rfl | rfl | rfl | rfl | rfl <;> rfl) (by unfold maxLen; omega) (by omega) (by simp; omega) ?_; intro v1 w1 ho1 hg1 _ hat)
      have hmr := moved_round (w := w) (by omega) ho.out hm.out (news := [.int .i64 k', .string s', .int .i64 n', .int .i64 (wrap64 (a' + d)), .slice A3 (mvL d ks').length cap3]) HA.out rfl HB'.out (((Below.refl _ _).alloc (Nat.le_refl _) _).alloc (by simp) _) hg1 hat rfl
      rw [← HT.out] at hmr
      have hbn : Below (w.heap.size + 1 + 1) W0 w1 := grown_below (((HBW.out.trans (HB'.out.mono hwz)).alloc (by omega) _).alloc (by simp; omega) _) ((ho'.out.alloc _).alloc _) (by simp; omega) hg1
      have hs1 : w.heap.size + 1 + 1 ≤ w1.heap.size := by have := hg1.size; simp at this; omega
      have HMR := Lib.hid hmr
      have HO1 := Lib.hid ho1
      have HBN := Lib.hid hbn
      clear hmr ho1 hbn
      go_wp2_with fail
      go_roundw
      case rel => exact ⟨j + 1, _, by omega, by go_num, HO1, HMR, HBN.out, hs1⟩
      case measure => simp [intOf]; omega
    · obtain rfl : j = ks.length := by omega
      have n0 : wr.cell? ⟨w.heap.size, 0, none⟩ = some (.int .i64 k) := cell_of_row wr _ 0 _ _ _ hN
      have n1 : wr.cell? ⟨w.heap.size, 1, none⟩ = some (.string s) := cell_of_row wr _ 1 _ _ _ hN
      have n2 : wr.cell? ⟨w.heap.size, 2, none⟩ = some (.int .i64 n) := cell_of_row wr _ 2 _ _ _ hN
      have n3 : wr.cell? ⟨w.heap.size, 3, none⟩ = some (.int .i64 (wrap64 (a + d))) := cell_of_row wr _ 3 _ _ _ hN
      have n4 := (block_cell hN (i := 4) (by simp)).2
      have r0 : wr.cell? ⟨w.heap.size + 1, 0, none⟩ = some (.int .i64 0) := cell_of_row wr _ 0 _ _ _ hZ
      have r1 : wr.cell? ⟨w.heap.size + 1, 1, none⟩ = some (.string ⟨#[]⟩) := cell_of_row wr _ 1 _ _ _ hZ
      have r2 : wr.cell? ⟨w.heap.size + 1, 2, none⟩ = some (.int .i64 0) := cell_of_row wr _ 2 _ _ _ hZ
      have r3 : wr.cell? ⟨w.heap.size + 1, 3, none⟩ = some (.int .i64 0) := cell_of_row wr _ 3 _ _ _ hZ
      have r4 : wr.cell? ⟨w.heap.size + 1, 4, none⟩ = some (.slice none 0 0) := cell_of_row wr _ 4 _ _ _ hZ
      have y0 := (block_cell hZ (i := 0) (by simp)).2
      have y1 := (block_cell hZ (i := 1) (by simp)).2
      have y2 := (block_cell hZ (i := 2) (by simp)).2
      have y3 := (block_cell hZ (i := 3) (by simp)).2
      have y4 := (block_cell hZ (i := 4) (by simp)).2
      have HN := Lib.hid hN
      have HZ := Lib.hid hZ
      have HBW := Lib.hid hbw
      have HBB := Lib.hid hbb
      clear hN hZ hbw hbb
      go_wp2_with fail
      exact moved_end HV.out HBB.out HBW.out ho.out hm.out HZ.out hc1 hc2 hwz _ rfl
end Go.Proofs.YtjpmghgmmeemkaaGreatDoor
