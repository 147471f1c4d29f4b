/- guiseref2.told, guiseref2.Order: the first nodes of a tree, a node ahead of its kids. -/
import Derived.Test.YtjpmghgmmeemkaaGreatDoorLay
namespace Go.Proofs.YtjpmghgmmeemkaaGreatDoor
open Go.RowKit

/-- All blocks that were there, but for the row v's own, are as they were; the row v' is that one or a new one. -/
structure GB (w : World) (v : Value) (w' : World) (v' : Value) : Prop where
  g : w.grownBy w' v.ownBlock
  o : ∀ k, v'.ownBlock = some k → v.ownBlock = some k ∨ w.heap.size ≤ k

theorem GB.refl (w : World) (v : Value) : GB w v w v := ⟨⟨rfl, rfl, rfl, Nat.le_refl _, fun _ _ _ => rfl⟩, fun _ h => .inl h⟩
theorem GB.trans {a b c : World} {u v x : Value} (h : GB a u b v) (h' : GB b v c x) : GB a u c x :=
  ⟨⟨h'.g.os.trans h.g.os, h'.g.tape.trans h.g.tape, h'.g.output.trans h.g.output, Nat.le_trans h.g.size h'.g.size, fun k hk hne =>
    (h'.g.block k (Nat.lt_of_lt_of_le hk h.g.size) (fun e => by
      rcases h.o k e.symm with h1 | h1
      · exact hne h1.symm
      · omega)).trans (h.g.block k hk hne)⟩,
   fun k hk => by
    rcases h'.o k hk with h1 | h1
    · exact h.o k h1
    · exact .inr (Nat.le_trans h.g.size h1)⟩
theorem GB.alloc {a b : World} {u v : Value} (h : GB a u b v) (o : Obj) : GB a u (b.alloc o) v :=
  h.trans ⟨World.grownBy_alloc b o _, fun _ h => .inl h⟩
theorem GB.block {a b : World} {u v : Value} (h : GB a u b v) {k : Nat} (hk : k < a.heap.size) (hne : u.ownBlock ≠ some k) : b.heap[k]? = a.heap[k]? := h.g.block k hk (fun e => hne e.symm)
theorem GB.below {a b : World} {u v : Value} {B : Nat} (h : GB a u b v) (hB : B ≤ a.heap.size) (hu : ∀ k, u.ownBlock = some k → B ≤ k) : Below B a b :=
  ⟨h.g.os, h.g.tape, h.g.output, h.g.size, fun k hk => h.block (by omega) (fun e => by have := hu k e; omega)⟩

theorem info49 : (Tryz.prog.info? 49).map (fun i => (i.zero, i.size, i.bytes)) = some (some (.agg #[.int .i64 0, .int .i64 0, .string ⟨#[]⟩, .int .i64 0, .int .i64 0, .slice none 0 0]), 6, 72) := by kernel_rfl

theorem Tl.news2 (x : Tl) (W : World) (e : TypeId) : ∀ j u, x.cells[j]? = some u → (W.alloc (.cells #[.int .i64 x.deep, .int .i64 x.k, .string x.s, .int .i64 x.n, .int .i64 x.a, .slice none 0 0] e)).cell? ((⟨W.heap.size, 0, none⟩ : Addr).add j) = some u := by
  intro j u hj
  have hj' : j < 6 := by have := (List.getElem?_eq_some_iff.1 hj).1; simpa [Tl.cells] using this
  unfold Tl.cells at hj
  have e : j = 0 ∨ j = 1 ∨ j = 2 ∨ j = 3 ∨ j = 4 ∨ j = 5 := by omega
  rcases e with rfl | rfl | rfl | rfl | rfl | rfl <;> simpa [Addr.add] using hj

set_option maxRecDepth 100000 in
set_option maxHeartbeats 1000000 in
theorem told_ord (M : Nat) (hM : (M : Int) ≤ 1000000) : ∀ (t : Nd) (v lv : Value) (xs : List Tl) (deep : Int) (B : Nat) (w : World), Lies w B t v → B ≤ w.heap.size → w.ownsRow B 49 6 lv xs.length (tlCells xs) → (xs.length : Int) ≤ M → 1 ≤ deep → deep ≤ xs.length + 1 →
    Calls Tryz.prog 33 #[lv, v, .int .i64 deep, .int .i64 M] w fun e w' => ∃ v', e = .returned v' ∧ w'.ownsRow B 49 6 v' (xs ++ t.lay M xs.length deep).length (tlCells (xs ++ t.lay M xs.length deep)) ∧ GB w lv w' v' := by
  refine Nd.induct (fun k s n a ks ih => ?_)
  intro v lv xs deep B w hl hB hown hxs hd1 hd2
  unfold Lies at hl
  obtain ⟨A, cap, rfl, hk, hn, ha, hs, hlc, hcap, hl⟩ := hl
  clear hk hn ha hs
  have IH := Lib.hid ih
  clear ih
  have HL := Lib.hid hl
  clear hl
  obtain ⟨LA, lcap, rfl, hlc1, hlc2⟩ := row_form hown
  have HO := Lib.hid hown
  clear hown
  obtain ⟨R, hR⟩ : ∃ R, xs ++ (Nd.mk k s n a ks).lay M xs.length deep = R := ⟨_, rfl⟩
  rw [hR]
  by_cases hfull : (M : Int) ≤ xs.length
  · rw [Nd.lay_full _ _ (by omega), List.append_nil] at hR
    have HF := Lib.hid hR
    clear hR
    go_enter Tryz.func33, Tryz.ntmps33
    go_wp2_with fail
    go_ret
    exact ⟨_, rfl, by rw [← HF.out]; exact HO.out.alloc _, (GB.refl _ _).alloc _⟩
  have hfin : (xs ++ [⟨deep, k, s, n, a⟩]) ++ layL M ks (xs ++ [(⟨deep, k, s, n, a⟩ : Tl)]).length (deep + 1) = R := by
    rw [← hR]; unfold Nd.lay; rw [if_neg (by omega)]; simp
  have HF := Lib.hid hfin
  clear hfin hR
  obtain ⟨i0, hi, hz0, hz1, hz2⟩ := info_parts info49
  have HW0 := Lib.hid ((GB.refl (w.alloc (.cells #[.int .i64 k, .string s, .int .i64 n, .int .i64 a, .slice A ks.length cap] 24)) (.slice LA xs.length lcap)))
  go_enter Tryz.func33, Tryz.ntmps33
  go_wp2_with (at_builtin; refine wpList_append_lies _ rfl _ _ 42 rfl B 49 i0 _ 6 72 Tryz.underlying42 hi hz0 hz1 hz2 rfl (by decide) _ _ _ rfl ((HO.out.alloc _).alloc _ |>.alloc _) ⟨w.heap.size + 1 + 1, 0, none⟩ 1 1 (Tl.cells ⟨deep, k, s, n, a⟩) rfl rfl (by simpa using Tl.news2 ⟨deep, k, s, n, a⟩ ((w.alloc _).alloc _) _) (Tl.one _) (by omega) (by unfold maxLen; omega) (by omega) (by simp; omega) _ rfl ?_)
  intro g1 lcap1 w1 hown1 hgrow1 hat1 hlt1
  have hlt := HO.out.lt
  have hgb1 : GB (w.alloc (.cells #[.int .i64 k, .string s, .int .i64 n, .int .i64 a, .slice A ks.length cap] 24)) (.slice LA xs.length lcap) w1 (.slice (some ⟨g1, 0, none⟩) (xs.length + 1) lcap1) :=
    ((HW0.out.alloc _).alloc _).trans ⟨hgrow1, fun j hj => by
      have e : g1 = j := by simpa [Value.ownBlock] using hj
      subst e
      rcases hat1 with h | h
      · exact .inl h
      · exact .inr (by rw [h]; simp)⟩
  have hbox : ∀ W u, GB (w.alloc (.cells #[.int .i64 k, .string s, .int .i64 n, .int .i64 a, .slice A ks.length cap] 24)) (.slice LA xs.length lcap) W u → W.cell? ⟨w.heap.size, 4, none⟩ = some (.slice A ks.length cap) ∧ Below B w W ∧ GB w (.slice LA xs.length lcap) W u := fun W u h => by
    have hne : (Value.slice LA xs.length lcap).ownBlock ≠ some w.heap.size := fun e => Nat.lt_irrefl _ (hlt _ e).2
    have h0 : GB w (.slice LA xs.length lcap) W u := ((GB.refl _ _).alloc _).trans h
    refine ⟨?_, h0.below hB (fun j e => (hlt j e).1), h0⟩
    have h1 := h.block (k := w.heap.size) (by simp) hne
    rw [heap_alloc_new w _] at h1
    exact cell_of_row W _ _ _ _ _ h1
  have HBOX := Lib.hid hbox
  have hlc3 := (row_form hown1)
  have HO1 := Lib.hid hown1
  have HGB1 := Lib.hid hgb1
  clear hown1 hgrow1 hlt hi hz0 hz1 hz2 hlc1 hlc2 HO hbox hgb1 hat1 HW0
  go_wp2_with fail
  go_loopw [0, 10] (fun l i wr => ∃ (j : Nat) (ys : List Tl) (A' : Option Addr) (cap' : Nat), j ≤ ks.length ∧ i = .int .i64 j ∧ l = .slice A' ys.length cap' ∧ wr.ownsRow B 49 6 l ys.length (tlCells ys) ∧ Hid (ys ++ layL M (ks.drop j) ys.length (deep + 1) = R) ∧
      GB (w.alloc (.cells #[.int .i64 k, .string s, .int .i64 n, .int .i64 a, .slice A ks.length cap] 24)) (.slice LA xs.length lcap) wr l ∧ (ys.length : Int) ≤ M ∧ deep ≤ ys.length) (fun _ i _ => ks.length - (intOf i).toNat)
  case atStart =>
    refine ⟨0, xs ++ [⟨deep, k, s, n, a⟩], some ⟨g1, 0, none⟩, lcap1, by omega, rfl, ?_, ?_, Lib.hid HF.out, HGB1.out, ?_, ?_⟩
    · simp
    · rw [tlCells_append, tlCells_one]; simpa using HO1.out
    · simp; omega
    · simp; omega
  case round =>
    obtain ⟨j, ys, A', cap', hj, rfl, rfl, ho, hR, hgb, hy1, hy2⟩ := hrel
    have HO := Lib.hid ho
    have HGB := Lib.hid hgb
    obtain ⟨c4, hb, hgb0⟩ := HBOX.out _ _ hgb
    have HGB0 := Lib.hid hgb0
    clear ho hgb hgb0
    by_cases hlt : j < ks.length
    · rcases HL.out with h | ⟨b, o, rfl, hbl, hLL⟩
      · subst h; simp at hlt
      obtain ⟨k', s', n', a', A2, cap2, ks', ht, d0, d1, d2, d3, d4, hLt⟩ := LiesL.get j hlt (LiesL.below hb hbl hLL)
      have HLt := Lib.hid hLt
      have HT := Lib.hid ht
      have HLL := Lib.hid hLL
      clear hLt ht hLL
      have hd := hR.out
      rw [drop_cons HT.out] at hd
      have hd' : (ys ++ (Nd.mk k' s' n' a' ks').lay M ys.length (deep + 1)) ++ layL M (ks.drop (j + 1)) (ys ++ (Nd.mk k' s' n' a' ks').lay M ys.length (deep + 1)).length (deep + 1) = R := by
        rw [← hd, List.append_assoc, List.length_append]; rfl
      have hlen := Nd.lay_length (most := M) (Nd.mk k' s' n' a' ks') ys.length (deep + 1) (by omega)
      have hlen' : ((ys ++ (Nd.mk k' s' n' a' ks').lay M ys.length (deep + 1)).length : Int) ≤ M ∧ ys.length ≤ (ys ++ (Nd.mk k' s' n' a' ks').lay M ys.length (deep + 1)).length := by simp only [List.length_append]; omega
      obtain ⟨zs, hzs⟩ : ∃ zs, ys ++ (Nd.mk k' s' n' a' ks').lay M ys.length (deep + 1) = zs := ⟨_, rfl⟩
      have hcall := IH.out _ (List.mem_of_getElem? HT.out) _ _ ys (deep + 1) B wr HLt.out (by have := hb.size; omega) HO.out hy1 (by omega) (by omega)
      rw [hzs] at hd' hlen' hcall
      have HD := Lib.hid hd'
      have HC := Lib.hid hcall
      clear hd hd' hlen hcall hR hzs
      have hM' := hM
      go_wp2_with fail
      refine HC.out.mono ?_
      rintro e w' ⟨v', rfl, ho', hb'⟩
      obtain ⟨A3, cap3, rfl, hc3, hc4⟩ := row_form ho'
      have HO' := Lib.hid ho'
      have HGB' := Lib.hid (HGB.out.trans hb')
      clear ho' HC HO hb'
      go_wp2_with fail
      go_roundw
      case rel => exact ⟨j + 1, zs, A3, cap3, by omega, by go_num, rfl, HO'.out, HD, HGB'.out, by omega, by omega⟩
      case measure => simp [intOf]; omega
    · obtain rfl : j = ks.length := by omega
      have hd := hR.out
      rw [List.drop_length] at hd
      unfold layL at hd
      rw [List.append_nil] at hd
      have HD := Lib.hid hd
      clear hd hR
      go_wp2_with fail
      go_ret
      exact ⟨_, rfl, by rw [← HD.out]; exact HO.out, HGB0.out⟩

set_option maxRecDepth 100000 in
set_option maxHeartbeats 1000000 in
theorem Order_any (M : Nat) (hM : (M : Int) ≤ 1000000) (t : Nd) (v : Value) (w : World) (h : Lies w w.heap.size t v) :
    Calls Tryz.prog 18 #[v, .int .i64 M] w fun e w' => ∃ v', e = .returned v' ∧ w'.ownsRow w.heap.size 49 6 v' (t.lay M 0 1).length (tlCells (t.lay M 0 1)) ∧ Below w.heap.size w w' := by
  have HX := Lib.hid h
  obtain ⟨k, s, n, a, ks⟩ := t
  unfold Lies at h
  obtain ⟨A, cap, rfl, -⟩ := h
  have hb0 : Below w.heap.size w (w.alloc (.cells #[.int .i64 k, .string s, .int .i64 n, .int .i64 a, .slice A ks.length cap] 24)) := (Below.refl _ _).alloc (Nat.le_refl _) _
  have HC := Lib.hid (told_ord M hM _ _ (.slice none 0 0) [] 1 w.heap.size _ (HX.out.below hb0) (by simp) (World.ownsRow_nil _ _ _ _) (by simp) (by omega) (by simp))
  have HB := Lib.hid hb0
  clear hb0
  go_enter Tryz.func18, Tryz.ntmps18
  go_wp2_with fail
  refine HC.out.mono ?_
  rintro e w' ⟨v', rfl, ho, hg⟩
  go_wp2_with fail
  go_ret
  exact ⟨_, rfl, by simpa using ho, HB.out.trans (hg.below (by simp) (fun j e => by cases e))⟩
end Go.Proofs.YtjpmghgmmeemkaaGreatDoor
