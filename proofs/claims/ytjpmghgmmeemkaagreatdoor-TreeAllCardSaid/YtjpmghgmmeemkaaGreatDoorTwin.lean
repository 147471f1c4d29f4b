/- guiselaw2.twin: a tree in memory of its own. -/
import Derived.Test.YtjpmghgmmeemkaaGreatDoorKids
import Derived.Test.YtjpmghgmmeemkaaGreatDoorOver
import Derived.Test.YtjpmghgmmeemkaaGreatDoorMore
namespace Go.Proofs.YtjpmghgmmeemkaaGreatDoor
open Go.RowKit

mutual
/-- As Lies: all lists lie at block C or above. -/
def LiesA (w : World) (C B : Nat) : Nd → Value → Prop
  | .mk k s n a ks, v => ∃ (A : Option Addr) (cap : Nat), v = .agg #[.int .i64 k, .string s, .int .i64 n, .int .i64 a, .slice A ks.length cap] ∧
      okI k ∧ okI n ∧ okI a ∧ s.size ≤ 140737488351232 ∧ ks.length ≤ cap ∧ cap ≤ 9223372036854775807 ∧
      (ks = [] ∨ ∃ b o, A = some ⟨b, o, none⟩ ∧ C ≤ b ∧ b < B ∧ LiesAL w C B ks b o)
def LiesAL (w : World) (C B : Nat) : List Nd → Nat → Nat → Prop
  | [], _, _ => True
  | t :: ts, b, o => (∃ c0 c1 c2 c3 c4 : Value, w.cell? ⟨b, o, none⟩ = some c0 ∧ w.cell? ⟨b, o + 1, none⟩ = some c1 ∧ w.cell? ⟨b, o + 2, none⟩ = some c2 ∧
      w.cell? ⟨b, o + 3, none⟩ = some c3 ∧ w.cell? ⟨b, o + 4, none⟩ = some c4 ∧ LiesA w C B t (.agg #[c0, c1, c2, c3, c4])) ∧ LiesAL w C B ts b (o + 5)
end

mutual
theorem LiesA.lies {w : World} {C B : Nat} : ∀ {t : Nd} {v : Value}, LiesA w C B t v → Lies w B t v
  | .mk k s n a ks, v, h => by
    unfold LiesA at h
    unfold Lies
    obtain ⟨A, cap, h1, h2, h3, h4, h5, h6, h7, h8⟩ := h
    refine ⟨A, cap, h1, h2, h3, h4, h5, h6, h7, ?_⟩
    rcases h8 with h8 | ⟨b, o, hA, _, hlt, hl⟩
    · exact .inl h8
    · exact .inr ⟨b, o, hA, hlt, LiesAL.lies hl⟩
theorem LiesAL.lies {w : World} {C B : Nat} : ∀ {ts : List Nd} {b o : Nat}, LiesAL w C B ts b o → LiesL w B ts b o
  | [], _, _, _ => by unfold LiesL; trivial
  | t :: ts, b, o, h => by
    unfold LiesAL at h
    unfold LiesL
    obtain ⟨⟨c0, c1, c2, c3, c4, h0, h1, h2, h3, h4, ht⟩, hl⟩ := h
    exact ⟨⟨c0, c1, c2, c3, c4, h0, h1, h2, h3, h4, ht.lies⟩, LiesAL.lies hl⟩
end

mutual
theorem LiesA.keep {w w' : World} {C B C' B' : Nat} (hk : ∀ b, C ≤ b → b < B → w'.heap[b]? = w.heap[b]?) (hC : C' ≤ C) (hB : B ≤ B') : ∀ {t : Nd} {v : Value}, LiesA w C B t v → LiesA w' C' B' t v
  | .mk k s n a ks, v, h => by
    unfold LiesA at h ⊢
    obtain ⟨A, cap, h1, h2, h3, h4, h5, h6, h7, h8⟩ := h
    refine ⟨A, cap, h1, h2, h3, h4, h5, h6, h7, ?_⟩
    rcases h8 with h8 | ⟨b, o, hA, hc, hlt, hl⟩
    · exact .inl h8
    · exact .inr ⟨b, o, hA, by omega, by omega, LiesAL.keep hk hC hB hc hlt hl⟩
theorem LiesAL.keep {w w' : World} {C B C' B' : Nat} (hk : ∀ b, C ≤ b → b < B → w'.heap[b]? = w.heap[b]?) (hC : C' ≤ C) (hB : B ≤ B') : ∀ {ts : List Nd} {b o : Nat}, C ≤ b → b < B → LiesAL w C B ts b o → LiesAL w' C' B' ts b o
  | [], _, _, _, _, _ => by unfold LiesAL; trivial
  | t :: ts, b, o, hc, hlt, h => by
    unfold LiesAL at h ⊢
    obtain ⟨⟨c0, c1, c2, c3, c4, h0, h1, h2, h3, h4, ht⟩, hl⟩ := h
    have e : ∀ i, w'.cell? ⟨b, i, none⟩ = w.cell? ⟨b, i, none⟩ := fun i => World.cell?_of_block (w := w) (hk b hc hlt)
    exact ⟨⟨c0, c1, c2, c3, c4, (e _).trans h0, (e _).trans h1, (e _).trans h2, (e _).trans h3, (e _).trans h4, ht.keep hk hC hB⟩, LiesAL.keep hk hC hB hc hlt hl⟩
end

/-- The cells of some trees whose lists lie from block C on, below block B. -/
def LiesAC (w : World) (C B : Nat) : List Nd → List Value → Prop
  | [], [] => True
  | t :: ts, c0 :: c1 :: c2 :: c3 :: c4 :: cs => LiesA w C B t (.agg #[c0, c1, c2, c3, c4]) ∧ LiesAC w C B ts cs
  | _, _ => False
theorem LiesAC.length {w : World} {C B : Nat} : ∀ {ts : List Nd} {cs : List Value}, LiesAC w C B ts cs → cs.length = ts.length * 5
  | [], [], _ => rfl
  | t :: ts, c0 :: c1 :: c2 :: c3 :: c4 :: cs, h => by
    have := LiesAC.length h.2
    simp only [List.length_cons]; omega
theorem LiesAC.append {w : World} {C B : Nat} : ∀ {ts us : List Nd} {cs ds : List Value}, LiesAC w C B ts cs → LiesAC w C B us ds → LiesAC w C B (ts ++ us) (cs ++ ds)
  | [], _, [], _, _, h => h
  | _ :: _, _, _ :: _ :: _ :: _ :: _ :: _, _, h, h' => ⟨h.1, LiesAC.append h.2 h'⟩
theorem LiesAC.keep {w w' : World} {C B C' B' : Nat} (hk : ∀ b, C ≤ b → b < B → w'.heap[b]? = w.heap[b]?) (hC : C' ≤ C) (hB : B ≤ B') : ∀ {ts : List Nd} {cs : List Value}, LiesAC w C B ts cs → LiesAC w' C' B' ts cs
  | [], [], _ => trivial
  | _ :: _, _ :: _ :: _ :: _ :: _ :: _, h => ⟨h.1.keep hk hC hB, LiesAC.keep hk hC hB h.2⟩
theorem LiesAC.toL {w : World} {C B b : Nat} : ∀ {ts : List Nd} {cs : List Value} {o : Nat}, LiesAC w C B ts cs → (∀ j u, cs[j]? = some u → w.cell? ⟨b, o + j, none⟩ = some u) → LiesAL w C B ts b o
  | [], [], _, _, _ => by unfold LiesAL; trivial
  | t :: ts, c0 :: c1 :: c2 :: c3 :: c4 :: cs, o, h, hc => by
    unfold LiesAL
    refine ⟨⟨c0, c1, c2, c3, c4, hc 0 _ rfl, hc 1 _ rfl, hc 2 _ rfl, hc 3 _ rfl, hc 4 _ rfl, h.1⟩, LiesAC.toL h.2 fun j u hj => ?_⟩
    have := hc (j + 5) u (by simpa using hj)
    rw [show o + 5 + j = o + (j + 5) from by omega]
    exact this

theorem sizeL_mem : ∀ {ts : List Nd} {t : Nd}, t ∈ ts → t.size ≤ sizeL ts
  | x :: ts, t, h => by
    unfold sizeL
    rcases List.mem_cons.1 h with rfl | h
    · omega
    · have := sizeL_mem h
      omega
theorem block_cell {w : World} {g : Nat} {cur : Array Value} {t : TypeId} (h : w.heap[g]? = some (.cells cur t (0, 0))) {i : Nat} (hi : i < cur.size) : (∃ u, w.cell? ⟨g, i, none⟩ = some u) ∧ w.frozen? ⟨g, i, none⟩ = false := by
  refine ⟨⟨cur[i], ?_⟩, ?_⟩
  · rw [cell_of_row w g i cur t _ h, Array.getElem?_eq_getElem hi]
  · simp [World.frozen?, h]

theorem list_set5 {α : Type} : ∀ (l : List α) (o : Nat) (v0 v1 v2 v3 v4 : α), o + 5 ≤ l.length → (((((l.set o v0).set (o + 1) v1).set (o + 2) v2).set (o + 3) v3).set (o + 4) v4).take (o + 5) = l.take o ++ [v0, v1, v2, v3, v4]
  | a :: b :: c :: d :: e :: l, 0, v0, v1, v2, v3, v4, _ => by simp
  | x :: l, o + 1, v0, v1, v2, v3, v4, h => by
    have := list_set5 l o v0 v1 v2 v3 v4 (by simp at h; omega)
    rw [show o + 1 + 5 = (o + 5) + 1 from by omega, show o + 1 + 1 = (o + 1) + 1 from rfl, show o + 1 + 2 = (o + 2) + 1 from by omega, show o + 1 + 3 = (o + 3) + 1 from by omega, show o + 1 + 4 = (o + 4) + 1 from by omega]
    simp only [List.set_cons_succ, List.take_succ_cons, List.cons_append, this]

/-- A node is stored. -/
def set5 (W : World) (g o : Nat) (v0 v1 v2 v3 v4 : Value) : World := ((((W.setCell ⟨g, o, none⟩ v0).setCell ⟨g, o + 1, none⟩ v1).setCell ⟨g, o + 2, none⟩ v2).setCell ⟨g, o + 3, none⟩ v3).setCell ⟨g, o + 4, none⟩ v4
theorem set5_other (W : World) (g o : Nat) (v0 v1 v2 v3 v4 : Value) {b : Nat} (h : b ≠ g) : (set5 W g o v0 v1 v2 v3 v4).heap[b]? = W.heap[b]? := by
  unfold set5
  rw [Below.heap_setCell _ _ _ _ h, Below.heap_setCell _ _ _ _ h, Below.heap_setCell _ _ _ _ h, Below.heap_setCell _ _ _ _ h, Below.heap_setCell _ _ _ _ h]
theorem set5_size (W : World) (g o : Nat) (v0 v1 v2 v3 v4 : Value) : (set5 W g o v0 v1 v2 v3 v4).heap.size = W.heap.size := by simp [set5]
theorem set5_foot {C : Nat} {w W : World} {g : Nat} (h : Foot C (fun b => b = g) w W) (o : Nat) (v0 v1 v2 v3 v4 : Value) : Foot C (fun b => b = g) w (set5 W g o v0 v1 v2 v3 v4) :=
  ((((h.set (p := ⟨g, o, none⟩) (.inr rfl) v0).set (p := ⟨g, o + 1, none⟩) (.inr rfl) v1).set (p := ⟨g, o + 2, none⟩) (.inr rfl) v2).set (p := ⟨g, o + 3, none⟩) (.inr rfl) v3).set (p := ⟨g, o + 4, none⟩) (.inr rfl) v4
theorem set5_same {W : World} {g : Nat} {cur : Array Value} {t : TypeId} (h : W.heap[g]? = some (.cells cur t (0, 0))) (o : Nat) (v0 v1 v2 v3 v4 : Value) (ho : o + 5 ≤ cur.size) :
    ∃ cur', (set5 W g o v0 v1 v2 v3 v4).heap[g]? = some (.cells cur' t (0, 0)) ∧ cur'.size = cur.size ∧ cur'.toList.take (o + 5) = cur.toList.take o ++ [v0, v1, v2, v3, v4] := by
  refine ⟨_, heap_setCell_same _ g (o + 4) _ t v4 (heap_setCell_same _ g (o + 3) _ t v3 (heap_setCell_same _ g (o + 2) _ t v2 (heap_setCell_same _ g (o + 1) _ t v1 (heap_setCell_same W g o _ t v0 h)))), by simp, ?_⟩
  have := list_set5 cur.toList o v0 v1 v2 v3 v4 (by simpa using ho)
  simpa using this

theorem twin_round {wr w' : World} {C g j : Nat} {cur : Array Value} {ks : List Nd} {k s n a} {ks' : List Nd} {g' cap' : Nat} (hg : g < C) (hC : C ≤ wr.heap.size) (hac : LiesAC wr C wr.heap.size (ks.take j) (cur.toList.take (j * 5))) (hb : Below wr.heap.size wr w')
    (hA : LiesA w' wr.heap.size w'.heap.size (.mk k s n a ks') (.agg #[.int .i64 k, .string s, .int .i64 n, .int .i64 a, .slice (some ⟨g', 0, none⟩) ks'.length cap'])) (ht : ks[j]? = some (.mk k s n a ks'))
    (hgw : w'.heap[g]? = some (.cells cur 24 (0, 0))) (hcs : cur.size = (ks.length + 2) * 5) (hj : j < ks.length) :
    ∃ cur', (set5 w' g (j * 5) (.int .i64 k) (.string s) (.int .i64 n) (.int .i64 a) (.slice (some ⟨g', 0, none⟩) ks'.length cap')).heap[g]? = some (.cells cur' 24 (0, 0)) ∧ cur'.size = (ks.length + 2) * 5 ∧
      LiesAC (set5 w' g (j * 5) (.int .i64 k) (.string s) (.int .i64 n) (.int .i64 a) (.slice (some ⟨g', 0, none⟩) ks'.length cap')) C (set5 w' g (j * 5) (.int .i64 k) (.string s) (.int .i64 n) (.int .i64 a) (.slice (some ⟨g', 0, none⟩) ks'.length cap')).heap.size (ks.take (j + 1)) (cur'.toList.take ((j + 1) * 5)) := by
  obtain ⟨cur', h1, h2, h3⟩ := set5_same hgw (j * 5) (.int .i64 k) (.string s) (.int .i64 n) (.int .i64 a) (.slice (some ⟨g', 0, none⟩) ks'.length cap') (by rw [hcs]; omega)
  refine ⟨cur', h1, h2.trans hcs, ?_⟩
  have hsz := hb.size
  rw [show (j + 1) * 5 = j * 5 + 5 from by omega, h3, List.take_add_one, ht, set5_size]
  refine LiesAC.append ?_ ⟨?_, trivial⟩
  · exact hac.keep (fun b hb1 hb2 => (set5_other _ _ _ _ _ _ _ _ (by omega)).trans (hb.block b hb2)) (Nat.le_refl _) hsz
  · exact hA.keep (fun b hb1 hb2 => set5_other _ _ _ _ _ _ _ _ (by omega)) hC (Nat.le_refl _)

theorem twin_result (tmps : Array Value) (W : World) (g : Nat) (v0 v1 v2 v3 v4 : Value) (h8 : tmps.getD 2 undef = .pointer (some ⟨g, 0, none⟩)) (h0 : W.cell? ⟨g, 0, none⟩ = some v0) (h1 : W.cell? ⟨g, 1, none⟩ = some v1) (h2 : W.cell? ⟨g, 2, none⟩ = some v2)
    (h3 : W.cell? ⟨g, 3, none⟩ = some v3) (h4 : W.cell? ⟨g, 4, none⟩ = some v4) : (results Tryz.f19 tmps).run Tryz.prog W = .ok (.agg #[v0, v1, v2, v3, v4]) W := by
  have h8' : tmps[2]?.getD undef = .pointer (some ⟨g, 0, none⟩) := by simpa using h8
  simp [results, Tryz.f19, go_sem, h8', h0, h1, h2, h3, h4]

theorem twin_end {w w3 wr : World} {k : Int} {s : ByteArray} {n a : Int} {ks : List Nd} {cur : Array Value} {z0 z1 z2 z3 z4 : Value} (i1 : okI k) (i2 : okI n) (i3 : okI a) (i4 : s.size ≤ 140737488351232) (hw3 : Below w.heap.size w w3) (hft : Foot w3.heap.size (fun b => b = w.heap.size + 1 + 1) w3 wr) (hg3 : w.heap.size + 1 + 1 < w3.heap.size)
    (hgc : wr.heap[w.heap.size + 1 + 1]? = some (.cells cur 24 (0, 0))) (hcs : cur.size = (ks.length + 2) * 5) (hac : LiesAC wr w3.heap.size wr.heap.size (ks.take ks.length) (cur.toList.take (ks.length * 5)))
    (hbr : wr.heap[w.heap.size + 1]? = some (.cells #[z0, z1, z2, z3, z4] 24 (0, 0))) (hkl : (ks.length : Int) ≤ 100000) (tmps : Array Value) (h8 : tmps.getD 2 undef = .pointer (some ⟨w.heap.size + 1, 0, none⟩)) :
    bodyPost Tryz.prog Tryz.f19 (fun e w' => ∃ (v' : Value) (g cap : Nat) (cur : Array Value), e = .returned v' ∧ LiesA w' w.heap.size w'.heap.size (.mk k s n a ks) v' ∧ v' = .agg #[.int .i64 (Nd.mk k s n a ks).kind, .string (Nd.mk k s n a ks).text, .int .i64 (Nd.mk k s n a ks).num, .int .i64 (Nd.mk k s n a ks).at_, .slice (some ⟨g, 0, none⟩) (Nd.mk k s n a ks).kids.length cap] ∧
      w.heap.size ≤ g ∧ w'.heap[g]? = some (.cells cur 24 (0, 0)) ∧ cur.size = ((Nd.mk k s n a ks).kids.length + 2) * 5 ∧ Below w.heap.size w w') .ret { tmps := tmps, defers := [] }
      (set5 ((set5 (set5 wr (w.heap.size + 1 + 1) (ks.length * 5) (.int .i64 77) (.string ⟨#[]⟩) (.int .i64 0) (.int .i64 0) (.slice none 0 0)) (w.heap.size + 1 + 1) ((ks.length + 1) * 5) (.int .i64 78) (.string ⟨#[]⟩) (.int .i64 0) (.int .i64 0) (.slice none 0 0)).setCell ⟨w.heap.size, 4, none⟩
        (.slice (some ⟨w.heap.size + 1 + 1, 0, none⟩) ks.length (ks.length + 2))) (w.heap.size + 1) 0 (.int .i64 k) (.string s) (.int .i64 n) (.int .i64 a) (.slice (some ⟨w.heap.size + 1 + 1, 0, none⟩) ks.length (ks.length + 2))) := by
  obtain ⟨c1, g1, s1, t1⟩ := set5_same hgc (ks.length * 5) (.int .i64 77) (.string ⟨#[]⟩) (.int .i64 0) (.int .i64 0) (.slice none 0 0) (by omega)
  obtain ⟨c2, g2, s2, t2⟩ := set5_same g1 ((ks.length + 1) * 5) (.int .i64 78) (.string ⟨#[]⟩) (.int .i64 0) (.int .i64 0) (.slice none 0 0) (by omega)
  obtain ⟨W1, hW1⟩ : ∃ W1, set5 wr (w.heap.size + 1 + 1) (ks.length * 5) (.int .i64 77) (.string ⟨#[]⟩) (.int .i64 0) (.int .i64 0) (.slice none 0 0) = W1 := ⟨_, rfl⟩
  rw [hW1] at g1 g2 ⊢
  have f1 := set5_foot hft (ks.length * 5) (.int .i64 77) (.string ⟨#[]⟩) (.int .i64 0) (.int .i64 0) (.slice none 0 0)
  rw [hW1] at f1
  have e1 : ∀ b, b ≠ w.heap.size + 1 + 1 → W1.heap[b]? = wr.heap[b]? := fun b hb => by rw [← hW1]; exact set5_other _ _ _ _ _ _ _ _ hb
  have z1' : W1.heap.size = wr.heap.size := by rw [← hW1]; exact set5_size _ _ _ _ _ _ _ _
  obtain ⟨W2, hW2⟩ : ∃ W2, set5 W1 (w.heap.size + 1 + 1) ((ks.length + 1) * 5) (.int .i64 78) (.string ⟨#[]⟩) (.int .i64 0) (.int .i64 0) (.slice none 0 0) = W2 := ⟨_, rfl⟩
  have f2 := set5_foot f1 ((ks.length + 1) * 5) (.int .i64 78) (.string ⟨#[]⟩) (.int .i64 0) (.int .i64 0) (.slice none 0 0)
  rw [hW2] at g2 f2 ⊢
  have e2 : ∀ b, b ≠ w.heap.size + 1 + 1 → W2.heap[b]? = wr.heap[b]? := fun b hb => by rw [← hW2]; exact (set5_other _ _ _ _ _ _ _ _ hb).trans (e1 b hb)
  have z2' : W2.heap.size = wr.heap.size := by rw [← hW2]; exact (set5_size _ _ _ _ _ _ _ _).trans z1'
  have b2 : Below w.heap.size w W2 := hw3.trans (f2.to (C := w.heap.size) (by omega) (fun b (e : b = _) => by omega))
  have b3 : Below w.heap.size w (W2.setCell ⟨w.heap.size, 4, none⟩ (.slice (some ⟨w.heap.size + 1 + 1, 0, none⟩) ks.length (ks.length + 2))) := b2.setCell (p := ⟨w.heap.size, 4, none⟩) (Nat.le_refl _) _
  have e3 : ∀ b, b ≠ w.heap.size → (W2.setCell ⟨w.heap.size, 4, none⟩ (.slice (some ⟨w.heap.size + 1 + 1, 0, none⟩) ks.length (ks.length + 2))).heap[b]? = W2.heap[b]? := fun b hb => Below.heap_setCell _ _ _ _ hb
  have z3' : (W2.setCell ⟨w.heap.size, 4, none⟩ (.slice (some ⟨w.heap.size + 1 + 1, 0, none⟩) ks.length (ks.length + 2))).heap.size = wr.heap.size := by simpa using z2'
  obtain ⟨W3, hW3⟩ : ∃ W3, W2.setCell ⟨w.heap.size, 4, none⟩ (.slice (some ⟨w.heap.size + 1 + 1, 0, none⟩) ks.length (ks.length + 2)) = W3 := ⟨_, rfl⟩
  rw [hW3] at b3 e3 z3' ⊢
  have hr3 : W3.heap[w.heap.size + 1]? = some (.cells #[z0, z1, z2, z3, z4] 24 (0, 0)) := (e3 _ (by omega)).trans ((e2 _ (by omega)).trans hbr)
  obtain ⟨c4, g4, s4, t4⟩ := set5_same hr3 0 (.int .i64 k) (.string s) (.int .i64 n) (.int .i64 a) (.slice (some ⟨w.heap.size + 1 + 1, 0, none⟩) ks.length (ks.length + 2)) (by simp)
  have b4 : Below w.heap.size w (set5 W3 (w.heap.size + 1) 0 (.int .i64 k) (.string s) (.int .i64 n) (.int .i64 a) (.slice (some ⟨w.heap.size + 1 + 1, 0, none⟩) ks.length (ks.length + 2))) :=
    ((((b3.setCell (p := ⟨w.heap.size + 1, 0, none⟩) (by simp) _).setCell (p := ⟨w.heap.size + 1, 1, none⟩) (by simp) _).setCell (p := ⟨w.heap.size + 1, 2, none⟩) (by simp) _).setCell (p := ⟨w.heap.size + 1, 3, none⟩) (by simp) _).setCell (p := ⟨w.heap.size + 1, 4, none⟩) (by simp) _
  have e4 : ∀ b, b ≠ w.heap.size + 1 → (set5 W3 (w.heap.size + 1) 0 (.int .i64 k) (.string s) (.int .i64 n) (.int .i64 a) (.slice (some ⟨w.heap.size + 1 + 1, 0, none⟩) ks.length (ks.length + 2))).heap[b]? = W3.heap[b]? := fun b hb => set5_other _ _ _ _ _ _ _ _ hb
  have z4' := (set5_size W3 (w.heap.size + 1) 0 (.int .i64 k) (.string s) (.int .i64 n) (.int .i64 a) (.slice (some ⟨w.heap.size + 1 + 1, 0, none⟩) ks.length (ks.length + 2))).trans z3'
  obtain ⟨W4, hW4⟩ : ∃ W4, set5 W3 (w.heap.size + 1) 0 (.int .i64 k) (.string s) (.int .i64 n) (.int .i64 a) (.slice (some ⟨w.heap.size + 1 + 1, 0, none⟩) ks.length (ks.length + 2)) = W4 := ⟨_, rfl⟩
  rw [hW4] at g4 b4 e4 z4' ⊢
  have hc4 : c4 = #[.int .i64 k, .string s, .int .i64 n, .int .i64 a, .slice (some ⟨w.heap.size + 1 + 1, 0, none⟩) ks.length (ks.length + 2)] := by
    apply Array.toList_inj.1
    have h5 : c4.toList.length = 5 := by simpa using s4
    have : c4.toList.take (0 + 5) = c4.toList := List.take_of_length_le (by omega)
    rw [← this, t4]
    simp
  subst hc4
  have g5 : W4.heap[w.heap.size + 1 + 1]? = some (.cells c2 24 (0, 0)) := (e4 _ (by omega)).trans ((e3 _ (by omega)).trans g2)
  have ht : c2.toList.take (ks.length * 5) = cur.toList.take (ks.length * 5) := by
    have h1 : c2.toList.take (ks.length * 5) = (c2.toList.take ((ks.length + 1) * 5 + 5)).take (ks.length * 5) := by rw [List.take_take]; congr 1; omega
    have h2 : c1.toList.take (ks.length * 5) = (c1.toList.take (ks.length * 5 + 5)).take (ks.length * 5) := by rw [List.take_take]; congr 1; omega
    have hl : (cur.toList.take (ks.length * 5)).length = ks.length * 5 := by simp; omega
    have hl2 : (c1.toList.take ((ks.length + 1) * 5)).length = (ks.length + 1) * 5 := by simp; omega
    rw [h1, t2, List.take_append_of_le_length (by omega), List.take_take, show min (ks.length * 5) ((ks.length + 1) * 5) = ks.length * 5 from by omega, h2, t1, List.take_append_of_le_length (by omega), List.take_take]
    congr 1; omega
  have hsz := hft.size
  have hac4 : LiesAC W4 w.heap.size W4.heap.size ks (c2.toList.take (ks.length * 5)) := by
    rw [ht]
    rw [List.take_length] at hac
    exact hac.keep (fun b h1 h2 => (e4 b (by omega)).trans ((e3 b (by omega)).trans (e2 b (by omega)))) (by omega) (by omega)
  refine bodyPost_ret (twin_result tmps W4 (w.heap.size + 1) (.int .i64 k) (.string s) (.int .i64 n) (.int .i64 a) (.slice (some ⟨w.heap.size + 1 + 1, 0, none⟩) ks.length (ks.length + 2)) h8 (cell_of_row W4 _ 0 _ _ _ g4) (cell_of_row W4 _ 1 _ _ _ g4) (cell_of_row W4 _ 2 _ _ _ g4) (cell_of_row W4 _ 3 _ _ _ g4) (cell_of_row W4 _ 4 _ _ _ g4)) rfl ?_
  refine ⟨_, w.heap.size + 1 + 1, ks.length + 2, c2, rfl, ?_, rfl, by omega, g5, s2.trans (s1.trans hcs), b4⟩
  unfold LiesA
  refine ⟨_, _, rfl, i1, i2, i3, i4, by omega, by omega, .inr ⟨_, 0, rfl, by omega, (Array.getElem?_eq_some_iff.1 g5).1, hac4.toL fun j u hj => ?_⟩⟩
  rw [Nat.zero_add, cell_of_row W4 _ j _ _ _ g5]
  rw [List.getElem?_take] at hj
  split at hj
  · simpa using hj
  · cases hj

set_option maxRecDepth 100000 in
set_option maxHeartbeats 4000000 in
theorem twin_any : ∀ (t : Nd) (v : Value) (w : World), Lies w w.heap.size t v → (t.size : Int) ≤ 100000 →
    Calls Tryz.prog 19 #[v] w fun e w' => ∃ (v' : Value) (g cap : Nat) (cur : Array Value), e = .returned v' ∧ LiesA w' w.heap.size w'.heap.size t v' ∧ v' = .agg #[.int .i64 t.kind, .string t.text, .int .i64 t.num, .int .i64 t.at_, .slice (some ⟨g, 0, none⟩) t.kids.length cap] ∧
      w.heap.size ≤ g ∧ w'.heap[g]? = some (.cells cur 24 (0, 0)) ∧ cur.size = (t.kids.length + 2) * 5 ∧ Below w.heap.size w w' := by
  refine Nd.induct (fun k s n a ks ih => ?_)
  intro v w hl hsz
  have hl0 := hl
  unfold Lies at hl
  obtain ⟨A, cap, rfl, hk, hn, ha, hs, hlc, hcap, hl⟩ := hl
  have hszL : (sizeL ks : Int) ≤ 99999 := by unfold Nd.size at hsz; omega
  have hkl : (ks.length : Int) ≤ 100000 := by have := sizeL_ge ks; omega
  have HSZ := Lib.hid hszL
  have IH := Lib.hid ih
  have HL := Lib.hid hl
  have HV := Lib.hid (And.intro hk (And.intro hn (And.intro ha hs)))
  have HL0 := Lib.hid hl0
  clear ih hl hk hn ha hs hl0 hsz hszL
  obtain ⟨i0, hi, hz0, hz1, hz2⟩ := info_parts info24
  go_enter Tryz.func19, Tryz.ntmps19
  go_wp2_with (at_make; refine wpList_make_full _ rfl _ _ 22 rfl (w.heap.size + 1 + 1) 24 i0 _ 5 Tryz.underlying22 hi hz0 hz1 _ _ _ _ (ks.length + 2) rfl rfl (by omega) (by omega) (by rw [hz2]; omega) (by unfold maxLen; omega) (by simp) ?_; intro w3 ho hg)
  obtain ⟨cur0, hg0, hcs0⟩ : ∃ cur0, w3.heap[w.heap.size + 1 + 1]? = some (.cells cur0 24 (0, 0)) ∧ cur0.size = (ks.length + 2) * 5 := by
    rcases ho.2 with ⟨h, _⟩ | ⟨g, cap', cur, h, _, h2, _, _, h3, _⟩
    · simp at h
    · simp at h
      obtain ⟨rfl, h⟩ := h
      exact ⟨cur, h2, by rw [h3, ← h]⟩
  have hsz3 : w.heap.size + 1 + 1 < w3.heap.size := (Array.getElem?_eq_some_iff.1 hg0).1
  have hb3 : ∀ j, j < w.heap.size + 1 + 1 → w3.heap[j]? = ((w.alloc (.cells #[.int .i64 k, .string s, .int .i64 n, .int .i64 a, .slice A ks.length cap] 24)).alloc (.cells #[.int .i64 0, .string ⟨#[]⟩, .int .i64 0, .int .i64 0, .slice none 0 0] 24)).heap[j]? := fun j hj => hg.block j (by simp; omega) (by simp)
  have hn3 : w3.heap[w.heap.size]? = some (.cells #[.int .i64 k, .string s, .int .i64 n, .int .i64 a, .slice A ks.length cap] 24 (0, 0)) := by
    rw [hb3 _ (by omega), heap_alloc_old _ _ (by simp)]; exact heap_alloc_new w _
  have hr3 : w3.heap[w.heap.size + 1]? = some (.cells #[.int .i64 0, .string ⟨#[]⟩, .int .i64 0, .int .i64 0, .slice none 0 0] 24 (0, 0)) := by
    rw [hb3 _ (by omega)]
    simpa using heap_alloc_new (w.alloc (.cells #[.int .i64 k, .string s, .int .i64 n, .int .i64 a, .slice A ks.length cap] 24)) (.cells #[.int .i64 0, .string ⟨#[]⟩, .int .i64 0, .int .i64 0, .slice none 0 0] 24)
  have hw3 : Below w.heap.size w w3 := (((Below.refl _ _).alloc (Nat.le_refl _) _).alloc (by simp) _).trans ⟨hg.os, hg.tape, hg.output, hg.size, fun j hj => hg.block j (by simp; omega) (by simp)⟩
  have HN3 := Lib.hid hn3
  have HR3 := Lib.hid hr3
  have HW3 := Lib.hid hw3
  have HG0 := Lib.hid hg0
  clear hn3 hr3 hw3 hb3 ho hg hg0 hi hz0 hz1 hz2
  go_loopw [4] (fun i wr => ∃ (j : Nat) (cur : Array Value), j ≤ ks.length ∧ i = .int .i64 j ∧ Hid (wr.heap[w.heap.size + 1 + 1]? = some (.cells cur 24 (0, 0))) ∧ Hid (cur.size = (ks.length + 2) * 5) ∧
      Hid (LiesAC wr w3.heap.size wr.heap.size (ks.take j) (cur.toList.take (j * 5))) ∧ Foot w3.heap.size (fun b => b = w.heap.size + 1 + 1) w3 wr) (fun i _ => ks.length - (intOf i).toNat)
  case atStart => exact ⟨0, cur0, by omega, rfl, HG0, Lib.hid hcs0, Lib.hid trivial, Foot.refl _ _ _⟩
  case round =>
    obtain ⟨j, cur, hj, rfl, hgc, hcs, hac, hft⟩ := hrel
    have hbw : Below w.heap.size w wr := HW3.out.trans (hft.to (C := w.heap.size) (by omega) (fun b (e : b = _) => by omega))
    have hbn : wr.heap[w.heap.size]? = some (.cells #[.int .i64 k, .string s, .int .i64 n, .int .i64 a, .slice A ks.length cap] 24 (0, 0)) := (hft.block _ (by omega) (by omega)).trans HN3.out
    have c4 : wr.cell? ⟨w.heap.size, 4, none⟩ = some (.slice A ks.length cap) := cell_of_row wr _ 4 _ _ _ hbn
    by_cases hlt : j < ks.length
    · rcases HL.out with h | ⟨b, o, rfl, hbl, hLL⟩
      · subst h; simp at hlt
      obtain ⟨k', s', n', a', A2, cap2, ks', ht, d0, d1, d2, d3, d4, hLt⟩ := LiesL.get j hlt (LiesL.below hbw hbl hLL)
      have hmem := List.mem_of_getElem? ht
      have hks := sizeL_mem hmem
      have hcall := IH.out _ hmem _ wr (hLt.more hbw.size) (by have := HSZ.out; omega)
      have HC := Lib.hid hcall
      have HT := Lib.hid ht
      have HFT := Lib.hid hft
      have hwrs := hft.size
      clear hcall hLt ht hLL hmem hks hbw hbn hft
      go_wp2_with fail
      refine HC.out.mono ?_
      rintro e w' ⟨v', g', cap', cur', rfl, hA, rfl, hg1, hg2, hg3, hb'⟩
      have HA := Lib.hid hA
      have HB' := Lib.hid hb'
      have hgw : w'.heap[w.heap.size + 1 + 1]? = some (.cells cur 24 (0, 0)) := (hb'.block _ (by omega)).trans hgc.out
      have hcs' := hcs.out
      obtain ⟨⟨u0, e0⟩, z0⟩ := block_cell hgw (i := j * 5) (by omega)
      obtain ⟨⟨u1, e1⟩, z1⟩ := block_cell hgw (i := j * 5 + 1) (by omega)
      obtain ⟨⟨u2, e2⟩, z2⟩ := block_cell hgw (i := j * 5 + 2) (by omega)
      obtain ⟨⟨u3, e3⟩, z3⟩ := block_cell hgw (i := j * 5 + 3) (by omega)
      obtain ⟨⟨u4, e4⟩, z4⟩ := block_cell hgw (i := j * 5 + 4) (by omega)
      have HGW := Lib.hid hgw
      clear hA hb' hg2 hg3 hgw hcs' HC
      simp only [Nd.kind, Nd.text, Nd.num, Nd.at_, Nd.kids]
      simp only [Nd.kind, Nd.text, Nd.num, Nd.at_, Nd.kids] at HA
      have hR := twin_round (g := w.heap.size + 1 + 1) hsz3 hwrs hac.out HB'.out HA.out HT.out HGW.out hcs.out hlt
      unfold set5 at hR
      have HRR := Lib.hid hR
      have HFN := Lib.hid (set5_foot (g := w.heap.size + 1 + 1) (HFT.out.trans (Foot.of (HB'.out.mono hwrs))) (j * 5) (.int .i64 k') (.string s') (.int .i64 n') (.int .i64 a') (.slice (some ⟨g', 0, none⟩) ks'.length cap'))
      clear hR
      go_wp2_with fail
      obtain ⟨cur2, r1, r2, r3⟩ := HRR.out
      go_roundw
      case rel => exact ⟨j + 1, cur2, by omega, by go_num, Lib.hid r1, Lib.hid r2, Lib.hid r3, HFN.out⟩
      case measure => simp [intOf]; omega
    · obtain rfl : j = ks.length := by omega
      have hbr : wr.heap[w.heap.size + 1]? = some (.cells #[.int .i64 0, .string ⟨#[]⟩, .int .i64 0, .int .i64 0, .slice none 0 0] 24 (0, 0)) := (hft.block _ (by omega) (by omega)).trans HR3.out
      have hcs' := hcs.out
      obtain ⟨⟨u0, e0⟩, z0⟩ := block_cell hgc.out (i := ks.length * 5) (by omega)
      obtain ⟨⟨u1, e1⟩, z1⟩ := block_cell hgc.out (i := ks.length * 5 + 1) (by omega)
      obtain ⟨⟨u2, e2⟩, z2⟩ := block_cell hgc.out (i := ks.length * 5 + 2) (by omega)
      obtain ⟨⟨u3, e3⟩, z3⟩ := block_cell hgc.out (i := ks.length * 5 + 3) (by omega)
      obtain ⟨⟨u4, e4⟩, z4⟩ := block_cell hgc.out (i := ks.length * 5 + 4) (by omega)
      obtain ⟨⟨u5, e5⟩, z5⟩ := block_cell hgc.out (i := (ks.length + 1) * 5) (by omega)
      obtain ⟨⟨u6, e6⟩, z6⟩ := block_cell hgc.out (i := (ks.length + 1) * 5 + 1) (by omega)
      obtain ⟨⟨u7, e7⟩, z7⟩ := block_cell hgc.out (i := (ks.length + 1) * 5 + 2) (by omega)
      obtain ⟨⟨u8, e8⟩, z8⟩ := block_cell hgc.out (i := (ks.length + 1) * 5 + 3) (by omega)
      obtain ⟨⟨u9, e9⟩, z9⟩ := block_cell hgc.out (i := (ks.length + 1) * 5 + 4) (by omega)
      have n0 : wr.cell? ⟨w.heap.size, 0, none⟩ = some (.int .i64 k) := cell_of_row wr _ 0 _ _ _ hbn
      have n1 : wr.cell? ⟨w.heap.size, 1, none⟩ = some (.string s) := cell_of_row wr _ 1 _ _ _ hbn
      have n2 : wr.cell? ⟨w.heap.size, 2, none⟩ = some (.int .i64 n) := cell_of_row wr _ 2 _ _ _ hbn
      have n3 : wr.cell? ⟨w.heap.size, 3, none⟩ = some (.int .i64 a) := cell_of_row wr _ 3 _ _ _ hbn
      have n4 := (block_cell hbn (i := 4) (by simp)).2
      have r0 : wr.cell? ⟨w.heap.size + 1, 0, none⟩ = some (.int .i64 0) := cell_of_row wr _ 0 _ _ _ hbr
      have r1 : wr.cell? ⟨w.heap.size + 1, 1, none⟩ = some (.string ⟨#[]⟩) := cell_of_row wr _ 1 _ _ _ hbr
      have r2 : wr.cell? ⟨w.heap.size + 1, 2, none⟩ = some (.int .i64 0) := cell_of_row wr _ 2 _ _ _ hbr
      have r3 : wr.cell? ⟨w.heap.size + 1, 3, none⟩ = some (.int .i64 0) := cell_of_row wr _ 3 _ _ _ hbr
      have r4 : wr.cell? ⟨w.heap.size + 1, 4, none⟩ = some (.slice none 0 0) := cell_of_row wr _ 4 _ _ _ hbr
      have y0 := (block_cell hbr (i := 0) (by simp)).2
      have y1 := (block_cell hbr (i := 1) (by simp)).2
      have y2 := (block_cell hbr (i := 2) (by simp)).2
      have y3 := (block_cell hbr (i := 3) (by simp)).2
      have y4 := (block_cell hbr (i := 4) (by simp)).2
      have HFT := Lib.hid hft
      have HBN := Lib.hid hbn
      have HBR := Lib.hid hbr
      have HBW := Lib.hid hbw
      clear hbr hbn hft hbw hcs'
      go_wp2_with fail
      exact twin_end HV.out.1 HV.out.2.1 HV.out.2.2.1 HV.out.2.2.2 HW3.out HFT.out hsz3 hgc.out hcs.out hac.out HBR.out (by omega) _ rfl
end Go.Proofs.YtjpmghgmmeemkaaGreatDoor
