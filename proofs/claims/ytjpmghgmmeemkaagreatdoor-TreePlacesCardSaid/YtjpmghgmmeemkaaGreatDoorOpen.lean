/- An argument of type api.Node is a tree that lies in memory. -/
import Derived.Test.YtjpmghgmmeemkaaGreatDoorRows
import Derived.ChangeArms
import Derived.SizedLaws
import Derived.ProofKit
import Derived.OpenShut
import Derived.KernelRfl
import Derived.Test.YtjpmghgmmeemkaaGreatDoorNd
namespace Go.Proofs.YtjpmghgmmeemkaaGreatDoor
open Go.RowKit Go.ChangeShapes Go.WideShapes Go.ChangeAt

theorem cellsNode : Tryz.prog.cellsOf 24 = 5 := by kernel_rfl
theorem cellsInt : Tryz.prog.cellsOf 3 = 1 := by kernel_rfl
theorem cellsStr : Tryz.prog.cellsOf 9 = 1 := by kernel_rfl
theorem cellsKids : Tryz.prog.cellsOf 22 = 1 := by kernel_rfl

theorem liesL_of {W : World} {B b : Nat} : ∀ (n o : Nat), (∀ i, i < n → ∃ (t : Nd) (c0 c1 c2 c3 c4 : Value), W.cell? ⟨b, o + i * 5, none⟩ = some c0 ∧ W.cell? ⟨b, o + i * 5 + 1, none⟩ = some c1 ∧ W.cell? ⟨b, o + i * 5 + 2, none⟩ = some c2 ∧
      W.cell? ⟨b, o + i * 5 + 3, none⟩ = some c3 ∧ W.cell? ⟨b, o + i * 5 + 4, none⟩ = some c4 ∧ Lies W B t (.agg #[c0, c1, c2, c3, c4])) → ∃ ts : List Nd, ts.length = n ∧ LiesL W B ts b o
  | 0, o, _ => ⟨[], rfl, by unfold LiesL; trivial⟩
  | n + 1, o, h => by
    obtain ⟨ts, hl, hts⟩ := liesL_of n (o + 5) (fun i hi => by
      have := h (i + 1) (by omega)
      rw [show o + (i + 1) * 5 = o + 5 + i * 5 from by omega] at this
      exact this)
    obtain ⟨t, c0, c1, c2, c3, c4, h0, h1, h2, h3, h4, ht⟩ := h 0 (by omega)
    refine ⟨t :: ts, by simp [hl], ?_⟩
    unfold LiesL
    exact ⟨⟨c0, c1, c2, c3, c4, by simpa using h0, by simpa using h1, by simpa using h2, by simpa using h3, by simpa using h4, ht⟩, hts⟩

theorem okI_of {n : Int} (h : (Lit.int .i64 n).wf = true) : okI n := by
  unfold okI
  exact bounds_i64 h

theorem cells5 {W : World} {a : Addr} {cs : List Value} (h : W.cells? 0 a 5 = some cs) : ∃ b o c0 c1 c2 c3 c4, a = ⟨b, o, none⟩ ∧ cs = [c0, c1, c2, c3, c4] ∧ W.cell? ⟨b, o, none⟩ = some c0 ∧ W.cell? ⟨b, o + 1, none⟩ = some c1 ∧ W.cell? ⟨b, o + 2, none⟩ = some c2 ∧ W.cell? ⟨b, o + 3, none⟩ = some c3 ∧ W.cell? ⟨b, o + 4, none⟩ = some c4 := by
  obtain ⟨b, o, sp⟩ := a
  unfold World.cells? at h
  simp only [Nat.zero_le, if_true] at h
  simp [List.range_succ, List.mapM_cons, List.mapM_nil, Addr.add, Option.bind_eq_some_iff] at h
  obtain ⟨c0, h0, l1, ⟨c1, h1, l2, ⟨c2, h2, l3, ⟨c3, h3, l4, ⟨c4, h4, rfl⟩, rfl⟩, rfl⟩, rfl⟩, rfl⟩ := h
  have hs : sp = none := by
    cases sp with
    | none => rfl
    | some x =>
      exfalso
      unfold World.cell? at h0
      split at h0 <;> simp at h0
  subst hs
  exact ⟨b, o, c0, c1, c2, c3, c4, rfl, rfl, h0, h1, h2, h3, h4⟩

theorem weightsAll_mem {H : Type} {P : Program} {e : TypeId} : ∀ {l : List (DataW H)} {i : Nat} {d : DataW H}, l[i]? = some d → ∀ n ∈ d.weights P e, n ∈ DataW.weightsAll P e l
  | x :: l, 0, d, h, n, hn => by
    simp at h; subst h
    simp only [DataW.weightsAll, List.mem_append]; exact .inl hn
  | x :: l, i + 1, d, h, n, hn => by
    simp only [DataW.weightsAll, List.mem_append]; exact .inr (weightsAll_mem (l := l) (i := i) (by simpa using h) n hn)

set_option maxRecDepth 100000 in
theorem node_of_trod {H : Type} {enc : TypeId × Value → H} {W : World} {sp : Nat → Bool} {held : Bool} : ∀ (fuel : Nat) (cs : List Value) (r : DataW H × List MemPlace), DataW.trod enc Tryz.prog W 0 sp held fuel 24 cs = some r →
    (∀ x ∈ r.1.weights Tryz.prog 24, x ≤ reachBytes) → ∃ (t : Nd) (c0 c1 c2 c3 c4 : Value), cs = [c0, c1, c2, c3, c4] ∧ Lies W W.heap.size t (.agg #[c0, c1, c2, c3, c4]) := by
  intro fuel
  induction fuel using Nat.strongRecOn with
  | ind fuel ih =>
  intro cs r h hw
  obtain ⟨xs, f, rfl, rfl, hlen, hxl, hf⟩ := DataW.trod_struct Tryz.underlying24 h
  rw [cellsNode] at hlen
  obtain ⟨c0, c1, c2, c3, c4, rfl⟩ : ∃ c0 c1 c2 c3 c4, cs = [c0, c1, c2, c3, c4] := by
    match cs, hlen with
    | [a, b, c, d, e], _ => exact ⟨a, b, c, d, e, rfl⟩
  have f0 : DataW.trod enc Tryz.prog W 0 sp held f 3 [c0] = xs[0]? := by have := hf 0 _ rfl; simpa [cellsInt] using this
  have f1 : DataW.trod enc Tryz.prog W 0 sp held f 9 [c1] = xs[1]? := by have := hf 1 _ rfl; simpa [cellsStr] using this
  have f2 : DataW.trod enc Tryz.prog W 0 sp held f 3 [c2] = xs[2]? := by have := hf 2 _ rfl; simpa [cellsInt] using this
  have f3 : DataW.trod enc Tryz.prog W 0 sp held f 3 [c3] = xs[3]? := by have := hf 3 _ rfl; simpa [cellsInt] using this
  have f4 : DataW.trod enc Tryz.prog W 0 sp held f 22 [c4] = xs[4]? := by have := hf 4 _ rfl; simpa [cellsKids] using this
  have hx : ∀ i, i < 5 → ∃ y, xs[i]? = some y := fun i hi => ⟨xs[i]'(by rw [hxl]; exact hi), List.getElem?_eq_getElem _⟩
  obtain ⟨y0, e0⟩ := hx 0 (by omega)
  obtain ⟨y1, e1⟩ := hx 1 (by omega)
  obtain ⟨y2, e2⟩ := hx 2 (by omega)
  obtain ⟨y3, e3⟩ := hx 3 (by omega)
  obtain ⟨y4, e4⟩ := hx 4 (by omega)
  rw [e0] at f0
  rw [e1] at f1
  rw [e2] at f2
  rw [e3] at f3
  rw [e4] at f4
  obtain ⟨k, hk, _, wk⟩ := DataW.trod_int Tryz.underlying3 f0
  obtain ⟨s, hs, hy1, _⟩ := DataW.trod_string Tryz.underlying9 f1
  obtain ⟨n, hn, _, wn⟩ := DataW.trod_int Tryz.underlying3 f2
  obtain ⟨a, ha, _, wa⟩ := DataW.trod_int Tryz.underlying3 f3
  simp only [List.cons.injEq, and_true] at hk hs hn ha
  subst hk hs hn ha
  have hW : ∀ (j : Nat) (ty : TypeId) (y : DataW H × List MemPlace), (#[3, 9, 3, 3, 22] : Array TypeId).toList[j]? = some ty → xs[j]? = some y → ∀ x ∈ y.1.weights Tryz.prog ty, x ≤ reachBytes := by
    intro j ty y ht hy x hx
    apply hw
    simp only [DataW.weights, Tryz.underlying24]
    exact DataW.weights_mem_each (j := j) (t := ty) (d := y.1) (by simpa using ht) (by simp [hy]) x hx
  have hss : s.size ≤ 140737488351232 := by
    have := hW 1 9 y1 rfl e1 s.data.toList.length (by rw [hy1]; simp [DataW.weights])
    simpa [reachBytes] using this
  rcases DataW.trod_slice Tryz.underlying22 f4 with ⟨hc4, _⟩ | ⟨ad, len, cap, elems, rest, f', rfl, hc4, hy4, _, hlc, hcm, hel, hE, _, _⟩
  · simp only [List.cons.injEq, and_true] at hc4
    subst hc4
    refine ⟨.mk k s n a [], _, _, _, _, _, rfl, ?_⟩
    unfold Lies
    exact ⟨none, 0, rfl, okI_of wk, okI_of wn, okI_of wa, hss, by simp, by omega, .inl rfl⟩
  · simp only [List.cons.injEq, and_true] at hc4
    subst hc4
    rw [cellsNode] at hE
    have hcm' : cap ≤ 9223372036854775807 := by unfold maxLen at hcm; omega
    have hkid : ∀ i, i < len → ∃ (t : Nd) (b o : Nat) (c0 c1 c2 c3 c4 : Value), ad.add (i * 5) = ⟨b, o, none⟩ ∧ W.cell? ⟨b, o, none⟩ = some c0 ∧ W.cell? ⟨b, o + 1, none⟩ = some c1 ∧ W.cell? ⟨b, o + 2, none⟩ = some c2 ∧ W.cell? ⟨b, o + 3, none⟩ = some c3 ∧ W.cell? ⟨b, o + 4, none⟩ = some c4 ∧ Lies W W.heap.size t (.agg #[c0, c1, c2, c3, c4]) := by
      intro i hi
      have h1 := hE i hi
      obtain ⟨y, hy⟩ : ∃ y, elems[i]? = some y := ⟨elems[i]'(by rw [hel]; exact hi), List.getElem?_eq_getElem _⟩
      rw [hy] at h1
      obtain ⟨cs, hcs, ht⟩ := Option.bind_eq_some_iff.1 h1
      obtain ⟨t, c0, c1, c2, c3, c4, rfl, hl⟩ := ih f' (by omega) cs y ht (fun x hx => by
        apply hW 4 22 y4 rfl e4
        rw [hy4]
        simp only [DataW.weights, Tryz.underlying22, List.mem_cons, List.mem_append]
        exact .inr (.inl (weightsAll_mem (i := i) (d := y.1) (by simp [hy]) x hx)))
      obtain ⟨b, o, d0, d1, d2, d3, d4, had, hcc, g0, g1, g2, g3, g4⟩ := cells5 hcs
      simp only [List.cons.injEq, and_true] at hcc
      obtain ⟨rfl, rfl, rfl, rfl, rfl⟩ := hcc
      exact ⟨t, b, o, _, _, _, _, _, had, g0, g1, g2, g3, g4, hl⟩
    by_cases h0 : len = 0
    · subst h0
      refine ⟨.mk k s n a [], _, _, _, _, _, rfl, ?_⟩
      unfold Lies
      exact ⟨some ad, cap, rfl, okI_of wk, okI_of wn, okI_of wa, hss, by simp, hcm', .inl rfl⟩
    · obtain ⟨_, b, o, _, _, _, _, _, had, g0, _⟩ := hkid 0 (by omega)
      have had' : ad = ⟨b, o, none⟩ := by simpa [Addr.add] using had
      subst had'
      have hblt := World.block_lt_of_cell? W _ g0
      obtain ⟨ts, htl, hts⟩ := liesL_of (W := W) (B := W.heap.size) (b := b) len o (fun i hi => by
        obtain ⟨t, b', o', c0, c1, c2, c3, c4, had, g0, g1, g2, g3, g4, hl⟩ := hkid i hi
        have he : b' = b ∧ o' = o + i * 5 := by
          unfold Addr.add at had
          split at had
          · rename_i h; simp at had; omega
          · simp at had; omega
        obtain ⟨rfl, rfl⟩ := he
        exact ⟨t, c0, c1, c2, c3, c4, g0, g1, g2, g3, g4, hl⟩)
      refine ⟨.mk k s n a ts, _, _, _, _, _, rfl, ?_⟩
      unfold Lies
      exact ⟨_, cap, by rw [htl], okI_of wk, okI_of wn, okI_of wa, hss, by omega, hcm', .inr ⟨b, o, rfl, hblt, hts⟩⟩

end Go.Proofs.YtjpmghgmmeemkaaGreatDoor
