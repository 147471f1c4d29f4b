/- An argument of type code.Program is a program that lies in memory. -/
import Derived.Test.YtdjbkppdppdcgaaGreatDoorRows
import Derived.ChangeArms
import Derived.SizedLaws
import Derived.ProofKit
import Derived.OpenShut
import Derived.KernelRfl
import Derived.Lib.LaidTab
import Derived.Test.YtdjbkppdppdcgaaGreatDoorCyC
namespace Go.Proofs.YtdjbkppdppdcgaaGreatDoor
open Go.RowKit Go.ChangeShapes Go.WideShapes Go.ChangeAt

theorem okI_wf {n : Int} (h : (Lit.int .i64 n).wf = true) : okI n := by
  unfold okI
  exact bounds_i64 h
theorem cells_at {W : World} {a : Addr} {k : Nat} {cs : List Value} (h : W.cells? 0 a k = some cs) (hk : 0 < k) : ∃ b o, a = ⟨b, o, none⟩ ∧ cs.length = k ∧ ∀ (j : Nat) (v : Value), cs[j]? = some v → W.cell? ⟨b, o + j, none⟩ = some v := by
  obtain ⟨b, o, sp⟩ := a
  unfold World.cells? at h
  rw [if_pos (Nat.zero_le _)] at h
  have hl := Lib.mapM_length h
  rw [List.length_range] at hl
  have hat := fun i hi => Lib.mapM_at h i i (by rw [List.getElem?_range hi])
  have hs : sp = none := by
    cases sp with
    | none => rfl
    | some x =>
      exfalso
      obtain ⟨v, _, hv⟩ := hat 0 hk
      rw [show (⟨b, o, some x⟩ : Addr).add 0 = ⟨b, o, some x⟩ by simp [Addr.add]] at hv
      unfold World.cell? at hv
      split at hv <;> simp at hv
  subst hs
  refine ⟨b, o, rfl, hl, fun j v hj => ?_⟩
  have hjk : j < k := by
    have := (List.getElem?_eq_some_iff.1 hj).1
    omega
  obtain ⟨u, hu, hc⟩ := hat j hjk
  rw [hj] at hu
  obtain rfl := Option.some.inj hu
  rwa [Addr.add_lit] at hc
theorem choose_list {α : Type} {R : Nat → α → Prop} : ∀ n, (∀ i, i < n → ∃ a, R i a) → ∃ l : List α, l.length = n ∧ ∀ (i : Nat) (a : α), l[i]? = some a → R i a
  | 0, _ => ⟨[], rfl, fun i a h => by simp at h⟩
  | n + 1, h => by
    obtain ⟨l, hl, hr⟩ := choose_list n fun i hi => h i (by omega)
    obtain ⟨a, ha⟩ := h n (by omega)
    refine ⟨l ++ [a], by simp [hl], fun i x hx => ?_⟩
    by_cases hi : i < l.length
    · rw [List.getElem?_append_left hi] at hx
      exact hr i x hx
    · have hil := (List.getElem?_eq_some_iff.1 hx).1
      simp at hil
      obtain rfl : i = n := by omega
      rw [List.getElem?_append_right (by omega), hl, Nat.sub_self] at hx
      obtain rfl := Option.some.inj hx
      exact ha
theorem wAll_mem {H : Type} {P : Program} {e : TypeId} : ∀ {l : List (DataW H)} {i : Nat} {d : DataW H}, l[i]? = some d → ∀ n ∈ d.weights P e, n ∈ DataW.weightsAll P e l
  | x :: l, 0, d, h, n, hn => by
    simp at h; subst h
    simp only [DataW.weightsAll, List.mem_append]; exact .inl hn
  | x :: l, i + 1, d, h, n, hn => by
    simp only [DataW.weightsAll, List.mem_append]; exact .inr (wAll_mem (l := l) (i := i) (by simpa using h) n hn)

/-- A slice of elements of k cells. -/
theorem slice_row {H : Type} {enc : TypeId × Value → H} {P : Program} {W : World} {sp : Nat → Bool} {held : Bool} {α : Type} {T e : TypeId} {k : Nat} (hT : P.underlying T = some (.slice e)) (hk : P.cellsOf e = k) (hk0 : 0 < k) (ec : α → List Value) (hec : ∀ x, (ec x).length = k) (Q : α → Prop)
    {fuel : Nat} {v : Value} {r : DataW H × List MemPlace} (h : DataW.trod enc P W 0 sp held fuel T [v] = some r) (hw : ∀ x ∈ r.1.weights P T, x ≤ reachBytes)
    (ih : ∀ f cs y, DataW.trod enc P W 0 sp held f e cs = some y → (∀ x ∈ y.1.weights P e, x ≤ reachBytes) → ∃ a, cs = ec a ∧ Q a) :
    ∃ (A : Option Addr) (n cap : Nat) (l : List α), v = .slice A n cap ∧ n ≤ cap ∧ l.length = n ∧ RowIs W W.heap.size A (l.flatMap ec) ∧ (∀ a ∈ l, Q a) ∧ n * P.bytesOf e ≤ reachBytes := by
  rcases DataW.trod_slice hT h with ⟨hc, _⟩ | ⟨ad, len, cap, elems, rest, f', rfl, hc, hy, _, hlc, hcm, hel, hE, _, _⟩
  · simp only [List.cons.injEq, and_true] at hc
    subst hc
    exact ⟨none, 0, 0, [], rfl, Nat.le_refl _, rfl, .inl rfl, (fun a ha => nomatch ha), by simp⟩
  · simp only [List.cons.injEq, and_true] at hc
    subst hc
    rw [hk] at hE
    have hwt : ∀ x, x = (elems.length + rest.length) * P.bytesOf e ∨ x ∈ DataW.weightsAll P e (elems.map (·.1)) → x ≤ reachBytes := by
      intro x hx
      apply hw
      rw [hy]
      simp only [DataW.weights, hT, List.mem_cons, List.mem_append, List.length_map]
      rcases hx with rfl | hx
      · exact .inl rfl
      · exact .inr (.inl hx)
    have hel2 : ∀ i, i < len → ∃ a, (∃ b o, ad.add (i * k) = ⟨b, o, none⟩ ∧ ∀ (j : Nat) (v : Value), (ec a)[j]? = some v → W.cell? ⟨b, o + j, none⟩ = some v) ∧ Q a := by
      intro i hi
      have h1 := hE i hi
      obtain ⟨y, hy⟩ : ∃ y, elems[i]? = some y := ⟨elems[i]'(by rw [hel]; exact hi), List.getElem?_eq_getElem _⟩
      rw [hy] at h1
      obtain ⟨cs, hcs, ht⟩ := Option.bind_eq_some_iff.1 h1
      obtain ⟨a, rfl, hq⟩ := ih f' cs y ht (fun x hx => hwt x (.inr (wAll_mem (i := i) (d := y.1) (by simp [hy]) x hx)))
      obtain ⟨b, o, hb, _, hcc⟩ := cells_at hcs hk0
      exact ⟨a, ⟨b, o, hb, hcc⟩, hq⟩
    obtain ⟨l, hl, hr⟩ := choose_list len hel2
    have hbytes : len * P.bytesOf e ≤ reachBytes := Nat.le_trans (Nat.mul_le_mul_right _ (by omega)) (hwt _ (.inl rfl))
    refine ⟨some ad, len, cap, l, rfl, hlc, hl, ?_, fun a ha => ?_, hbytes⟩
    · by_cases h0 : len = 0
      · left
        rw [List.eq_nil_of_length_eq_zero (by omega : l.length = 0)]
        rfl
      · right
        obtain ⟨a0, ha0⟩ : ∃ a, l[0]? = some a := ⟨_, List.getElem?_eq_getElem (by omega)⟩
        obtain ⟨⟨b, o, hb, hc0⟩, _⟩ := hr 0 a0 ha0
        have had : ad = ⟨b, o, none⟩ := by
          have : ad.add (0 * k) = ad := by simp [Addr.add]
          rw [← this, hb]
        have hlt : b < W.heap.size := by
          obtain ⟨v, hv⟩ : ∃ v, (ec a0)[0]? = some v := ⟨_, List.getElem?_eq_getElem (by rw [hec]; exact hk0)⟩
          exact World.block_lt_of_cell? W _ (hc0 0 v hv)
        refine ⟨b, o, by rw [had], hlt, fun j v hj => ?_⟩
        have hjl := (List.getElem?_eq_some_iff.1 hj).1
        rw [flat_len hec] at hjl
        have hdiv : j / k < l.length := Nat.div_lt_of_lt_mul (by rw [Nat.mul_comm]; exact hjl)
        obtain ⟨x, hx⟩ : ∃ x, l[j / k]? = some x := ⟨_, List.getElem?_eq_getElem hdiv⟩
        have hmod := Nat.mod_lt j hk0
        have hjk : j = j / k * k + j % k := by rw [Nat.mul_comm]; exact (Nat.div_add_mod j k).symm
        rw [hjk, flat_at hec l (j / k) x hx _ hmod] at hj
        obtain ⟨⟨b', o', hb', hcx⟩, _⟩ := hr (j / k) x hx
        rw [had, Addr.add_lit] at hb'
        simp only [Addr.mk.injEq, and_true] at hb'
        obtain ⟨rfl, rfl⟩ := hb'
        have := hcx _ _ hj
        rw [Nat.add_assoc, ← hjk] at this
        exact this
    · obtain ⟨i, hi⟩ := List.getElem?_of_mem ha
      exact (hr i a hi).2

theorem cellsInt : Tryz.prog.cellsOf 3 = 1 := by kernel_rfl
theorem cellsOp : Tryz.prog.cellsOf 44 = 1 := by kernel_rfl
theorem cellsStr : Tryz.prog.cellsOf 9 = 1 := by kernel_rfl
theorem cellsIns : Tryz.prog.cellsOf 46 = 5 := by kernel_rfl
theorem cellsFun : Tryz.prog.cellsOf 43 = 6 := by kernel_rfl
theorem cellsPrg : Tryz.prog.cellsOf 25 = 2 := by kernel_rfl
theorem cellsSl1 : Tryz.prog.cellsOf 30 = 1 := by kernel_rfl
theorem cellsSl2 : Tryz.prog.cellsOf 41 = 1 := by kernel_rfl
theorem cellsSl3 : Tryz.prog.cellsOf 22 = 1 := by kernel_rfl
theorem cellsSl4 : Tryz.prog.cellsOf 23 = 1 := by kernel_rfl
theorem bytesIns : Tryz.prog.bytesOf 46 = 48 := by kernel_rfl
theorem bytesFun : Tryz.prog.bytesOf 43 = 88 := by kernel_rfl
theorem bytesInt : Tryz.prog.bytesOf 3 = 8 := by kernel_rfl
theorem bytesStr : Tryz.prog.bytesOf 9 = 16 := by kernel_rfl

section
variable {H : Type} {enc : TypeId × Value → H} {W : World} {sp : Nat → Bool} {held : Bool}
theorem int_of {fuel : Nat} {T : TypeId} {cs : List Value} {r : DataW H × List MemPlace} (hT : Tryz.prog.underlying T = some (.int .i64)) (h : DataW.trod enc Tryz.prog W 0 sp held fuel T cs = some r) : ∃ n, cs = [.int .i64 n] ∧ okI n := by
  obtain ⟨n, hn, _, wn⟩ := DataW.trod_int hT h
  exact ⟨n, hn, okI_wf wn⟩
theorem str_of {fuel : Nat} {cs : List Value} {r : DataW H × List MemPlace} (h : DataW.trod enc Tryz.prog W 0 sp held fuel 9 cs = some r) (hw : ∀ x ∈ r.1.weights Tryz.prog 9, x ≤ reachBytes) : ∃ s, cs = [.string s] ∧ s.size ≤ 140737488351232 := by
  obtain ⟨s, hs, hy, _⟩ := DataW.trod_string Tryz.underlying9 h
  refine ⟨s, hs, ?_⟩
  have := hw s.data.toList.length (by rw [hy]; simp [DataW.weights])
  simpa [reachBytes] using this
theorem each_le {T : TypeId} {fs : Array Field} (hT : Tryz.prog.underlying T = some (.struct fs)) {xs : List (DataW H × List MemPlace)} (hw : ∀ x ∈ (DataW.agg (xs.map (·.1)) : DataW H).weights Tryz.prog T, x ≤ reachBytes) {j : Nat} {ty : TypeId} {y : DataW H × List MemPlace} (ht : (fs.toList.map (·.type))[j]? = some ty) (hy : xs[j]? = some y) : ∀ x ∈ y.1.weights Tryz.prog ty, x ≤ reachBytes := by
  intro x hx
  apply hw
  simp only [DataW.weights, hT]
  exact DataW.weights_mem_each (j := j) (t := ty) (d := y.1) ht (by simp [hy]) x hx
theorem ints_row {fuel : Nat} {v : Value} {r : DataW H × List MemPlace} (h : DataW.trod enc Tryz.prog W 0 sp held fuel 30 [v] = some r) (hw : ∀ x ∈ r.1.weights Tryz.prog 30, x ≤ reachBytes) :
    ∃ (A : Option Addr) (cap : Nat) (l : List Int), v = .slice A l.length cap ∧ l.length ≤ cap ∧ RowIs W W.heap.size A (l.map (Value.int .i64)) ∧ (∀ t ∈ l, okI t) ∧ l.length ≤ 140737488351232 := by
  obtain ⟨A, n, cap, l, rfl, hc, rfl, hr, hq, hb⟩ := slice_row Tryz.underlying30 cellsInt (by decide) (fun n : Int => [Value.int .i64 n]) (fun _ => rfl) okI h hw (fun f cs y hy _ => int_of Tryz.underlying3 hy)
  refine ⟨A, cap, l, rfl, hc, ?_, hq, ?_⟩
  · rw [List.map_eq_flatMap]; exact hr
  · rw [bytesInt] at hb; unfold reachBytes at hb; omega
theorem strs_row {fuel : Nat} {v : Value} {r : DataW H × List MemPlace} (h : DataW.trod enc Tryz.prog W 0 sp held fuel 23 [v] = some r) (hw : ∀ x ∈ r.1.weights Tryz.prog 23, x ≤ reachBytes) :
    ∃ (A : Option Addr) (cap : Nat) (l : List ByteArray), v = .slice A l.length cap ∧ l.length ≤ cap ∧ RowIs W W.heap.size A (l.map Value.string) ∧ (∀ s ∈ l, s.size ≤ 140737488351232) ∧ l.length ≤ 140737488351232 := by
  obtain ⟨A, n, cap, l, rfl, hc, rfl, hr, hq, hb⟩ := slice_row Tryz.underlying23 cellsStr (by decide) (fun s : ByteArray => [Value.string s]) (fun _ => rfl) (fun s => s.size ≤ 140737488351232) h hw (fun f cs y hy hw => str_of hy hw)
  refine ⟨A, cap, l, rfl, hc, ?_, hq, ?_⟩
  · rw [List.map_eq_flatMap]; exact hr
  · rw [bytesStr] at hb; unfold reachBytes at hb; omega
set_option maxRecDepth 100000 in
theorem ins_of {fuel : Nat} {cs : List Value} {r : DataW H × List MemPlace} (h : DataW.trod enc Tryz.prog W 0 sp held fuel 46 cs = some r) (hw : ∀ x ∈ r.1.weights Tryz.prog 46, x ≤ reachBytes) : ∃ x : Ci, cs = insCells x ∧ CiOk x := by
  obtain ⟨xs, f, rfl, rfl, hlen, hxl, hf⟩ := DataW.trod_struct Tryz.underlying46 h
  rw [cellsIns] at hlen
  obtain ⟨c0, c1, c2, c3, c4, rfl⟩ : ∃ c0 c1 c2 c3 c4, cs = [c0, c1, c2, c3, c4] := by
    match cs, hlen with
    | [a, b, c, d, e], _ => exact ⟨a, b, c, d, e, rfl⟩
  have f0 : DataW.trod enc Tryz.prog W 0 sp held f 44 [c0] = xs[0]? := by have := hf 0 _ rfl; simpa [cellsOp] using this
  have f1 : DataW.trod enc Tryz.prog W 0 sp held f 3 [c1] = xs[1]? := by have := hf 1 _ rfl; simpa [cellsInt] using this
  have f2 : DataW.trod enc Tryz.prog W 0 sp held f 3 [c2] = xs[2]? := by have := hf 2 _ rfl; simpa [cellsInt] using this
  have f3 : DataW.trod enc Tryz.prog W 0 sp held f 9 [c3] = xs[3]? := by have := hf 3 _ rfl; simpa [cellsStr] using this
  have f4 : DataW.trod enc Tryz.prog W 0 sp held f 3 [c4] = xs[4]? := by have := hf 4 _ rfl; simpa [cellsInt] using this
  have hx : ∀ i, i < 5 → ∃ y, xs[i]? = some y := fun i hi => ⟨xs[i]'(by rw [hxl]; exact hi), List.getElem?_eq_getElem _⟩
  obtain ⟨y0, e0⟩ := hx 0 (by omega)
  obtain ⟨y1, e1⟩ := hx 1 (by omega)
  obtain ⟨y2, e2⟩ := hx 2 (by omega)
  obtain ⟨y3, e3⟩ := hx 3 (by omega)
  obtain ⟨y4, e4⟩ := hx 4 (by omega)
  rw [e0] at f0
  rw [e1] at f1
  rw [e2] at f2
  rw [e3] at f3
  rw [e4] at f4
  obtain ⟨o, ho, ok0⟩ := int_of Tryz.underlying44 f0
  obtain ⟨a, ha, ok1⟩ := int_of Tryz.underlying3 f1
  obtain ⟨b, hb, ok2⟩ := int_of Tryz.underlying3 f2
  obtain ⟨s, hs, ok3⟩ := str_of f3 (each_le Tryz.underlying46 hw (j := 3) rfl e3)
  obtain ⟨t, ht, ok4⟩ := int_of Tryz.underlying3 f4
  simp only [List.cons.injEq, and_true] at ho ha hb hs ht
  subst ho ha hb hs ht
  exact ⟨⟨o, a, b, s, t⟩, rfl, ok0, ok1, ok2, ok4, ok3⟩
theorem inss_row {fuel : Nat} {v : Value} {r : DataW H × List MemPlace} (h : DataW.trod enc Tryz.prog W 0 sp held fuel 41 [v] = some r) (hw : ∀ x ∈ r.1.weights Tryz.prog 41, x ≤ reachBytes) :
    ∃ (A : Option Addr) (cap : Nat) (l : List Ci), v = .slice A l.length cap ∧ l.length ≤ cap ∧ RowIs W W.heap.size A (l.flatMap insCells) ∧ (∀ x ∈ l, CiOk x) ∧ l.length ≤ 140737488351232 := by
  obtain ⟨A, n, cap, l, rfl, hc, rfl, hr, hq, hb⟩ := slice_row Tryz.underlying41 cellsIns (by decide) insCells ins_len CiOk h hw (fun f cs y hy hw => ins_of hy hw)
  exact ⟨A, cap, l, rfl, hc, hr, hq, by rw [bytesIns] at hb; unfold reachBytes at hb; omega⟩
set_option maxRecDepth 100000 in
theorem fun_of {fuel : Nat} {cs : List Value} {r : DataW H × List MemPlace} (h : DataW.trod enc Tryz.prog W 0 sp held fuel 43 cs = some r) (hw : ∀ x ∈ r.1.weights Tryz.prog 43, x ≤ reachBytes) : ∃ x : Cf × Fv, cs = fnCells x ∧ (LiesF W W.heap.size x ∧ CfOk x.1) := by
  obtain ⟨xs, f, rfl, rfl, hlen, hxl, hf⟩ := DataW.trod_struct Tryz.underlying43 h
  rw [cellsFun] at hlen
  obtain ⟨c0, c1, c2, c3, c4, c5, rfl⟩ : ∃ c0 c1 c2 c3 c4 c5, cs = [c0, c1, c2, c3, c4, c5] := by
    match cs, hlen with
    | [a, b, c, d, e, f], _ => exact ⟨a, b, c, d, e, f, rfl⟩
  have f0 : DataW.trod enc Tryz.prog W 0 sp held f 9 [c0] = xs[0]? := by have := hf 0 _ rfl; simpa [cellsStr] using this
  have f1 : DataW.trod enc Tryz.prog W 0 sp held f 3 [c1] = xs[1]? := by have := hf 1 _ rfl; simpa [cellsInt] using this
  have f2 : DataW.trod enc Tryz.prog W 0 sp held f 3 [c2] = xs[2]? := by have := hf 2 _ rfl; simpa [cellsInt] using this
  have f3 : DataW.trod enc Tryz.prog W 0 sp held f 30 [c3] = xs[3]? := by have := hf 3 _ rfl; simpa [cellsSl1] using this
  have f4 : DataW.trod enc Tryz.prog W 0 sp held f 3 [c4] = xs[4]? := by have := hf 4 _ rfl; simpa [cellsInt] using this
  have f5 : DataW.trod enc Tryz.prog W 0 sp held f 41 [c5] = xs[5]? := by have := hf 5 _ rfl; simpa [cellsSl2] using this
  have hx : ∀ i, i < 6 → ∃ y, xs[i]? = some y := fun i hi => ⟨xs[i]'(by rw [hxl]; exact hi), List.getElem?_eq_getElem _⟩
  obtain ⟨y0, e0⟩ := hx 0 (by omega)
  obtain ⟨y1, e1⟩ := hx 1 (by omega)
  obtain ⟨y2, e2⟩ := hx 2 (by omega)
  obtain ⟨y3, e3⟩ := hx 3 (by omega)
  obtain ⟨y4, e4⟩ := hx 4 (by omega)
  obtain ⟨y5, e5⟩ := hx 5 (by omega)
  rw [e0] at f0
  rw [e1] at f1
  rw [e2] at f2
  rw [e3] at f3
  rw [e4] at f4
  rw [e5] at f5
  obtain ⟨s, hs, ok0⟩ := str_of f0 (each_le Tryz.underlying43 hw (j := 0) rfl e0)
  obtain ⟨a, ha, ok1⟩ := int_of Tryz.underlying3 f1
  obtain ⟨b, hb, ok2⟩ := int_of Tryz.underlying3 f2
  obtain ⟨ta, tc, tl, ht, hc3, hr3, hq3, hb3⟩ := ints_row f3 (each_le Tryz.underlying43 hw (j := 3) rfl e3)
  obtain ⟨t, htt, ok4⟩ := int_of Tryz.underlying3 f4
  obtain ⟨ca, cc, cl, hcl, hc5, hr5, hq5, hb5⟩ := inss_row f5 (each_le Tryz.underlying43 hw (j := 5) rfl e5)
  simp only [List.cons.injEq, and_true] at hs ha hb htt
  subst hs ha hb htt ht hcl
  exact ⟨(⟨s, a, b, tl, t, cl⟩, ⟨ta, tc, ca, cc⟩), rfl, ⟨hr3, hr5, hc3, hc5⟩, ok0, ok1, ok2, ok4, hb3, hb5, hq3, hq5⟩
set_option maxRecDepth 100000 in
theorem prog_of {fuel : Nat} {cs : List Value} {r : DataW H × List MemPlace} (h : DataW.trod enc Tryz.prog W 0 sp held fuel 25 cs = some r) (hw : ∀ x ∈ r.1.weights Tryz.prog 25, x ≤ reachBytes) : ∃ (p : Cp) (c0 c1 : Value), cs = [c0, c1] ∧ LiesC W W.heap.size p (.agg #[c0, c1]) ∧ CpOk p := by
  obtain ⟨xs, f, rfl, rfl, hlen, hxl, hf⟩ := DataW.trod_struct Tryz.underlying25 h
  rw [cellsPrg] at hlen
  obtain ⟨c0, c1, rfl⟩ : ∃ c0 c1, cs = [c0, c1] := by
    match cs, hlen with
    | [a, b], _ => exact ⟨a, b, rfl⟩
  have f0 : DataW.trod enc Tryz.prog W 0 sp held f 22 [c0] = xs[0]? := by have := hf 0 _ rfl; simpa [cellsSl3] using this
  have f1 : DataW.trod enc Tryz.prog W 0 sp held f 23 [c1] = xs[1]? := by have := hf 1 _ rfl; simpa [cellsSl4] using this
  have hx : ∀ i, i < 2 → ∃ y, xs[i]? = some y := fun i hi => ⟨xs[i]'(by rw [hxl]; exact hi), List.getElem?_eq_getElem _⟩
  obtain ⟨y0, e0⟩ := hx 0 (by omega)
  obtain ⟨y1, e1⟩ := hx 1 (by omega)
  rw [e0] at f0
  rw [e1] at f1
  obtain ⟨fa, n, fc, l, rfl, hc0, rfl, hr0, hq0, hb0⟩ := slice_row Tryz.underlying22 cellsFun (by decide) fnCells fn_len (fun x => LiesF W W.heap.size x ∧ CfOk x.1) f0 (each_le Tryz.underlying25 hw (j := 0) rfl e0) (fun f cs y hy hw => fun_of hy hw)
  obtain ⟨ga, gc, gl, rfl, hc1, hr1, hq1, hb1⟩ := strs_row f1 (each_le Tryz.underlying25 hw (j := 1) rfl e1)
  rw [bytesFun] at hb0
  refine ⟨⟨l.map Prod.fst, gl⟩, _, _, rfl, ⟨fa, fc, ga, gc, l, rfl, by simp, hr0, hr1, by simpa using hc0, hc1, fun x hx => (hq0 x hx).1⟩, by simp; unfold reachBytes at hb0; omega, hb1, fun f hf => ?_, hq1⟩
  obtain ⟨x, hx, rfl⟩ := List.mem_map.1 hf
  exact (hq0 x hx).2
end
set_option maxRecDepth 100000 in
theorem prog_arg {H : Type} {enc : TypeId × Value → H} {W : World} {b0 : Nat} {v : Value} {d : DataW H} {p : List MemPlace} (hv : Value.okWide Tryz.prog W .any b0 25 v)
    (h : DataW.Trod enc Tryz.prog W 0 (fun _ => true) true 25 v d p) (hw : ∀ x ∈ d.weights Tryz.prog 25, x ≤ reachBytes) : ∃ q : Cp, LiesC W W.heap.size q v ∧ CpOk q := by
  obtain ⟨cs, rfl, hsz⟩ := okWide_struct Tryz.underlying25 hv
  obtain ⟨fuel, hf⟩ := h
  obtain ⟨q, c0, c1, e, hl, hok⟩ := prog_of (enc := enc) (W := W) (sp := fun _ => true) (held := true) (fuel := fuel) (cs := cs.toList) (r := (d, p)) hf hw
  have e' : cs = #[c0, c1] := by
    apply Array.toList_inj.1
    exact e
  subst e'
  exact ⟨q, hl, hok⟩
end Go.Proofs.YtdjbkppdppdcgaaGreatDoor
