/- What tree.All gives: the nodes of a tree, a node ahead of its kids: plain laws. tree.lay, guiseref2.told: the nodes of a tree are laid down, a node ahead of its kids. -/
import Derived.Laws.AppendOwn
import Derived.Deep.AppendLies
import Derived.OwnWalk
import Derived.Test.YtjpmghgmmeemkaaGreatDoorNd
import Derived.Test.YtjpmghgmmeemkaaGreatDoorCount
namespace Go.Proofs.YtjpmghgmmeemkaaGreatDoor

/-- A node as All tells it. -/
structure Tl where
  deep : Int
  k : Int
  s : ByteArray
  n : Int
  a : Int

mutual
/-- What is laid down of a tree when so many lie there already. -/
def Nd.lay (most : Nat) : Nd → Nat → Int → List Tl
  | .mk k s n a ks, len, deep => if most ≤ len then [] else ⟨deep, k, s, n, a⟩ :: layL most ks (len + 1) (deep + 1)
def layL (most : Nat) : List Nd → Nat → Int → List Tl
  | [], _, _ => []
  | t :: ts, len, deep => t.lay most len deep ++ layL most ts (len + (t.lay most len deep).length) deep
end

mutual
theorem Nd.lay_full {most : Nat} : ∀ (t : Nd) {len : Nat} (deep : Int), most ≤ len → t.lay most len deep = []
  | .mk _ _ _ _ _, len, deep, h => by unfold Nd.lay; rw [if_pos h]
theorem layL_full {most : Nat} : ∀ (ts : List Nd) {len : Nat} (deep : Int), most ≤ len → layL most ts len deep = []
  | [], _, _, _ => by unfold layL; rfl
  | t :: ts, len, deep, h => by
    unfold layL
    rw [Nd.lay_full t deep h, layL_full ts deep (by simpa using h)]
    rfl
end

mutual
def Nd.size : Nd → Nat
  | .mk _ _ _ _ ks => 1 + sizeL ks
def sizeL : List Nd → Nat
  | [] => 0
  | t :: ts => t.size + sizeL ts
end

mutual
theorem Nd.lay_length {most : Nat} : ∀ (t : Nd) (len : Nat) (deep : Int), len ≤ most → (t.lay most len deep).length = min t.size (most - len)
  | .mk k s n a ks, len, deep, h => by
    unfold Nd.lay Nd.size
    split
    · simp; omega
    · have := layL_length (most := most) ks (len + 1) (deep + 1) (by omega)
      simp only [List.length_cons, this]
      omega
theorem layL_length {most : Nat} : ∀ (ts : List Nd) (len : Nat) (deep : Int), len ≤ most → (layL most ts len deep).length = min (sizeL ts) (most - len)
  | [], _, _, _ => by unfold layL sizeL; simp
  | t :: ts, len, deep, h => by
    unfold layL sizeL
    have h1 := Nd.lay_length (most := most) t len deep h
    have h2 := layL_length (most := most) ts (len + (t.lay most len deep).length) deep (by omega)
    rw [List.length_append, h2, h1]
    omega
end

mutual
theorem Nd.lay_deep {most : Nat} : ∀ (t : Nd) (len : Nat) (deep : Int), ∀ x ∈ t.lay most len deep, deep ≤ x.deep
  | .mk k s n a ks, len, deep, x, hx => by
    unfold Nd.lay at hx
    split at hx
    · cases hx
    · rcases List.mem_cons.1 hx with rfl | hx
      · exact Int.le_refl _
      · have := layL_deep ks (len + 1) (deep + 1) x hx
        omega
theorem layL_deep {most : Nat} : ∀ (ts : List Nd) (len : Nat) (deep : Int), ∀ x ∈ layL most ts len deep, deep ≤ x.deep
  | [], _, _, x, hx => by unfold layL at hx; cases hx
  | t :: ts, len, deep, x, hx => by
    unfold layL at hx
    rcases List.mem_append.1 hx with hx | hx
    · exact Nd.lay_deep t len deep x hx
    · exact layL_deep ts _ deep x hx
end

mutual
theorem Nd.lay_bd {most : Nat} : ∀ (t : Nd) (len : Nat) (deep : Int), deep ≤ len + 1 → ∀ x ∈ t.lay most len deep, x.deep ≤ most
  | .mk k s n a ks, len, deep, h, x, hx => by
    unfold Nd.lay at hx
    split at hx
    · cases hx
    · rcases List.mem_cons.1 hx with rfl | hx
      · show deep ≤ (most : Int); omega
      · exact layL_bd ks (len + 1) (deep + 1) (by omega) x hx
theorem layL_bd {most : Nat} : ∀ (ts : List Nd) (len : Nat) (deep : Int), deep ≤ len + 1 → ∀ x ∈ layL most ts len deep, x.deep ≤ most
  | [], _, _, _, x, hx => by unfold layL at hx; cases hx
  | t :: ts, len, deep, h, x, hx => by
    unfold layL at hx
    rcases List.mem_append.1 hx with hx | hx
    · exact Nd.lay_bd t len deep h x hx
    · exact layL_bd ts _ deep (by omega) x hx
end

mutual
theorem Nd.count_size : ∀ (t : Nd) (left : Int), 0 ≤ left → t.count left = min (t.size : Int) (left + 1)
  | .mk k s n a ks, left, h => by
    have := countL_size ks left 1 (by omega) (by omega)
    unfold Nd.count Nd.size
    rw [this]; omega
theorem countL_size : ∀ (ks : List Nd) (left many : Int), 1 ≤ many → many ≤ left + 1 → countL ks left many = min (many + sizeL ks) (left + 1)
  | [], left, many, h, h' => by unfold countL sizeL; omega
  | k :: ks, left, many, h, h' => by
    unfold countL sizeL
    split
    · omega
    · have h1 := Nd.count_size k (left - many) (by omega)
      have h2 := Nd.count_bd k (left - many) (by omega)
      rw [countL_size ks left _ (by omega) (by omega), h1]
      omega
end

theorem Nd.size_pos : ∀ t : Nd, 1 ≤ t.size
  | .mk _ _ _ _ _ => by unfold Nd.size; omega

/-- The first is as deep as is said, those behind it are deeper. -/
theorem Nd.lay_deeps {most : Nat} (t : Nd) (deep : Int) (i : Nat) (x : Tl) (h : (t.lay most 0 deep)[i]? = some x) : deep ≤ x.deep ∧ (i = 0 → x.deep = deep) ∧ (0 < i → deep < x.deep) := by
  obtain ⟨k, s, n, a, ks⟩ := t
  unfold Nd.lay at h
  split at h
  · simp at h
  · cases i with
    | zero => simp at h; subst h; simp
    | succ i =>
      simp only [List.getElem?_cons_succ] at h
      have := layL_deep ks _ _ x (List.mem_of_getElem? h)
      refine ⟨by omega, by omega, by omega⟩

/-! ### A tree with a leaf more, or with another Text -/
def Nd.more : Nd → Nd | .mk k s n a ks => .mk k s n a (ks ++ [.mk 16 ⟨#[]⟩ 0 0 []])
theorem sizeL_append : ∀ (a b : List Nd), sizeL (a ++ b) = sizeL a + sizeL b
  | [], b => by simp [sizeL]
  | t :: a, b => by simp only [List.cons_append, sizeL, sizeL_append a b]; omega
theorem Nd.more_size (t : Nd) : t.more.size = t.size + 1 := by
  obtain ⟨k, s, n, a, ks⟩ := t
  unfold Nd.more Nd.size
  rw [sizeL_append]
  simp [sizeL, Nd.size]; omega
theorem Nd.more_same (t : Nd) : t.same t.more = false := by
  obtain ⟨k, s, n, a, ks⟩ := t
  unfold Nd.more Nd.same
  simp
mutual
theorem Nd.same_refl : ∀ t : Nd, t.same t = true
  | .mk k s n a ks => by unfold Nd.same; simp [sameL_refl ks]
theorem sameL_refl : ∀ ts : List Nd, sameL ts ts = true
  | [] => by unfold sameL; rfl
  | t :: ts => by unfold sameL; rw [Nd.same_refl t, sameL_refl ts]; rfl
end
def Nd.texted (x : ByteArray) : Nd → Nd | .mk k s n a ks => .mk k (s ++ x) n a ks
theorem Nd.texted_count (t : Nd) (x : ByteArray) (left : Int) : (t.texted x).count left = t.count left := by
  obtain ⟨k, s, n, a, ks⟩ := t
  unfold Nd.texted Nd.count; rfl
theorem Nd.texted_same (t : Nd) (x : ByteArray) : t.same (t.texted x) = (x.toList == []) := by
  obtain ⟨k, s, n, a, ks⟩ := t
  unfold Nd.texted Nd.same
  have h : (s ++ x).toList = s.toList ++ x.toList := by simp [ByteArray.toList_eq]
  rw [h, sameL_refl]
  have e : (s.toList == s.toList ++ x.toList) = (x.toList == []) := by
    rw [Bool.eq_iff_iff]
    simp
  simp [e]
end Go.Proofs.YtjpmghgmmeemkaaGreatDoor

namespace Go.Proofs.YtjpmghgmmeemkaaGreatDoor
open Go.RowKit

def Tl.cells (x : Tl) : List Value := [.int .i64 x.deep, .int .i64 x.k, .string x.s, .int .i64 x.n, .int .i64 x.a, .slice none 0 0]
def tlCells (l : List Tl) : List Value := l.flatMap Tl.cells
theorem tlCells_append (a b : List Tl) : tlCells (a ++ b) = tlCells a ++ tlCells b := by simp [tlCells]
theorem tlCells_one (x : Tl) : tlCells [x] = x.cells := by simp [tlCells]

theorem row_form {w : World} {B : Nat} {e : TypeId} {s : Nat} {v : Value} {n : Nat} {xs : List Value} (h : w.ownsRow B e s v n xs) : ∃ A cap, v = .slice A n cap ∧ n ≤ cap ∧ cap ≤ 9223372036854775807 := by
  rcases h.2 with ⟨rfl, rfl⟩ | ⟨g, cap, cur, rfl, _, _, h1, h2, _⟩
  · exact ⟨none, 0, rfl, Nat.le_refl _, by omega⟩
  · exact ⟨_, cap, rfl, h1, by simpa [maxLen] using h2⟩

theorem row_some {w : World} {B : Nat} {e : TypeId} {s : Nat} {A : Option Addr} {n cap : Nat} {xs : List Value} (h : w.ownsRow B e s (.slice A n cap) n xs) (hn : 0 < n) : ∃ b, A = some ⟨b, 0, none⟩ ∧ B ≤ b ∧ b < w.heap.size := by
  obtain ⟨g, cap', e, h1, h2⟩ := h.form hn
  simp at e
  exact ⟨g, e.1, h1, h2⟩

theorem grown_below {B : Nat} {w w1 w2 : World} {e : TypeId} {s : Nat} {v : Value} {n : Nat} {xs : List Value} (hb : Below B w w1) (ho : w1.ownsRow B e s v n xs) (hB : B ≤ w1.heap.size) (hg : w1.grownBy w2 v.ownBlock) : Below B w w2 :=
  hb.trans ⟨hg.os, hg.tape, hg.output, hg.size, fun k hk => hg.block k (by omega) (fun e => by have := (ho.lt k e.symm).1; omega)⟩

theorem info78 : (Tryz.prog.info? 78).map (fun i => (i.zero, i.size, i.bytes)) = some (some (.agg #[.int .i64 0, .int .i64 0, .string ⟨#[]⟩, .int .i64 0, .int .i64 0, .slice none 0 0]), 6, 72) := by kernel_rfl

theorem Tl.one (x : Tl) : ∀ u ∈ x.cells, u.oneCell' = true := by
  intro u hu
  unfold Tl.cells at hu
  simp at hu
  rcases hu with rfl | rfl | rfl | rfl | rfl | rfl <;> rfl
theorem Tl.news (x : Tl) (W : World) : ∀ j u, x.cells[j]? = some u → (W.alloc (.cells #[.int .i64 x.deep, .int .i64 x.k, .string x.s, .int .i64 x.n, .int .i64 x.a, .slice none 0 0] 78)).cell? ((⟨W.heap.size, 0, none⟩ : Addr).add j) = some u := by
  intro j u hj
  have hj' : j < 6 := by have := (List.getElem?_eq_some_iff.1 hj).1; simpa [Tl.cells] using this
  unfold Tl.cells at hj
  have e : j = 0 ∨ j = 1 ∨ j = 2 ∨ j = 3 ∨ j = 4 ∨ j = 5 := by omega
  rcases e with rfl | rfl | rfl | rfl | rfl | rfl <;> simpa [Addr.add] using hj

set_option maxRecDepth 100000 in
set_option maxHeartbeats 1000000 in
theorem lay_any : ∀ (t : Nd) (v lv : Value) (xs : List Tl) (deep : Int) (B : Nat) (w : World), Lies w B t v → B ≤ w.heap.size → w.ownsRow B 78 6 lv xs.length (tlCells xs) → xs.length ≤ 1000000 → 1 ≤ deep → deep ≤ xs.length + 1 →
    Calls Tryz.prog 35 #[lv, v, .int .i64 deep] w fun e w' => ∃ v', e = .returned v' ∧ w'.ownsRow B 78 6 v' (xs ++ t.lay 1000000 xs.length deep).length (tlCells (xs ++ t.lay 1000000 xs.length deep)) ∧ Below B w w' := by
  refine Nd.induct (fun k s n a ks ih => ?_)
  intro v lv xs deep B w hl hB hown hxs hd1 hd2
  unfold Lies at hl
  obtain ⟨A, cap, rfl, hk, hn, ha, hs, hlc, hcap, hl⟩ := hl
  clear hk hn ha hs
  have IH := Lib.hid ih
  clear ih
  have HL := Lib.hid hl
  clear hl
  obtain ⟨LA, lcap, rfl, hlc1, hlc2⟩ := row_form hown
  have HO := Lib.hid hown
  clear hown
  obtain ⟨R, hR⟩ : ∃ R, xs ++ (Nd.mk k s n a ks).lay 1000000 xs.length deep = R := ⟨_, rfl⟩
  rw [hR]
  have hxi : (xs.length : Int) ≤ 1000000 := by omega
  by_cases hfull : (1000000 : Int) ≤ xs.length
  · rw [Nd.lay_full _ _ (by omega), List.append_nil] at hR
    have HF := Lib.hid hR
    clear hR hxs
    go_enter Tryz.func35, Tryz.ntmps35
    go_wp2_with fail
    go_ret
    exact ⟨_, rfl, by rw [← HF.out]; exact HO.out.alloc _, (Below.refl _ _).alloc hB _⟩
  have hfin : (xs ++ [⟨deep, k, s, n, a⟩]) ++ layL 1000000 ks (xs ++ [(⟨deep, k, s, n, a⟩ : Tl)]).length (deep + 1) = R := by
    rw [← hR]; unfold Nd.lay; rw [if_neg (by omega)]; simp
  have HF := Lib.hid hfin
  clear hfin hR hxs
  obtain ⟨i0, hi, hz0, hz1, hz2⟩ := info_parts info78
  go_enter Tryz.func35, Tryz.ntmps35
  go_wp2_with (at_builtin; refine wpList_append_own _ rfl _ _ 75 rfl B 78 i0 _ 6 72 Tryz.underlying75 hi hz0 hz1 hz2 rfl (by decide) _ _ _ rfl ((HO.out.alloc _).alloc _ |>.alloc _) ⟨w.heap.size + 1 + 1, 0, none⟩ 1 1 (Tl.cells ⟨deep, k, s, n, a⟩) rfl rfl (by simpa using Tl.news ⟨deep, k, s, n, a⟩ ((w.alloc _).alloc _)) (Tl.one _) (by unfold maxLen; omega) (by omega) (by simp; omega) ?_)
  intro v' w1 hown1 hgrow1 _
  obtain ⟨LA1, lcap1, rfl, hlc3, hlc4⟩ := row_form hown1
  have hlt := HO.out.lt
  have hb1 : Below B w w1 := grown_below (((Below.refl _ _).alloc hB _).alloc (by simp; omega) _ |>.alloc (by simp; omega) _) ((HO.out.alloc _).alloc _ |>.alloc _) (by simp; omega) hgrow1
  have c4 : w1.cell? ⟨w.heap.size, 4, none⟩ = some (.slice A ks.length cap) := hgrow1.cell (a := ⟨w.heap.size, 4, none⟩) (v := .slice A ks.length cap) (by rw [World.cell?_alloc_past _ _ _ (by simp; omega), World.cell?_alloc_past _ _ _ (by simp), World.cell?_alloc_at _ _ _ _ rfl]; rfl) (fun e => Nat.lt_irrefl _ (hlt _ e.symm).2)
  have hsz : B ≤ w1.heap.size := Nat.le_trans hB hb1.size
  have HO1 := Lib.hid hown1
  clear hown1 hgrow1 hlt hi hz0 hz1 hz2 hlc1 hlc2 HO
  go_wp2_with fail
  go_loopw [0, 25] (fun l i wr => ∃ (j : Nat) (ys : List Tl) (A' : Option Addr) (cap' : Nat), j ≤ ks.length ∧ i = .int .i64 j ∧ l = .slice A' ys.length cap' ∧ ys.length ≤ cap' ∧ cap' ≤ 9223372036854775807 ∧ wr.ownsRow B 78 6 l ys.length (tlCells ys) ∧ Hid (ys ++ layL 1000000 (ks.drop j) ys.length (deep + 1) = R) ∧
      Below B w wr ∧ (ys.length : Int) ≤ 1000000 ∧ deep ≤ ys.length) (fun _ i _ => ks.length - (intOf i).toNat)
  case atStart =>
    refine ⟨0, xs ++ [⟨deep, k, s, n, a⟩], LA1, lcap1, by omega, rfl, ?_, ?_, hlc4, ?_, Lib.hid HF.out, hb1, ?_, ?_⟩
    · simp
    · simpa using hlc3
    · rw [tlCells_append, tlCells_one]; simpa using HO1.out
    · simp; omega
    · simp; omega
  case round =>
    obtain ⟨j, ys, A', cap', hj, rfl, rfl, hc1, hc2, ho, hR, hb, hy1, hy2⟩ := hrel
    have HO := Lib.hid ho
    clear ho
    by_cases hlt : j < ks.length
    · rcases HL.out with h | ⟨b, o, rfl, hbl, hLL⟩
      · subst h; simp at hlt
      obtain ⟨k', s', n', a', A2, cap2, ks', ht, d0, d1, d2, d3, d4, hLt⟩ := LiesL.get j hlt (LiesL.below hb hbl hLL)
      have HLt := Lib.hid hLt
      have HT := Lib.hid ht
      have HLL := Lib.hid hLL
      clear hLt ht hLL
      have hd := hR.out
      rw [drop_cons HT.out] at hd
      by_cases hfull2 : (1000000 : Int) ≤ ys.length
      · rw [layL_full _ _ (by omega), List.append_nil] at hd
        have HD := Lib.hid hd
        clear hd
        go_wp2_with fail
        go_ret
        exact ⟨_, rfl, by rw [← HD.out]; exact HO.out.alloc _, hb.alloc (by have := hb.size; omega) _⟩
      · have hd' : (ys ++ (Nd.mk k' s' n' a' ks').lay 1000000 ys.length (deep + 1)) ++ layL 1000000 (ks.drop (j + 1)) (ys ++ (Nd.mk k' s' n' a' ks').lay 1000000 ys.length (deep + 1)).length (deep + 1) = R := by
          rw [← hd, List.append_assoc, List.length_append]; rfl
        have hlen := Nd.lay_length (most := 1000000) (Nd.mk k' s' n' a' ks') ys.length (deep + 1) (by omega)
        have hlen' : ((ys ++ (Nd.mk k' s' n' a' ks').lay 1000000 ys.length (deep + 1)).length : Int) ≤ 1000000 ∧ ys.length ≤ (ys ++ (Nd.mk k' s' n' a' ks').lay 1000000 ys.length (deep + 1)).length := by simp only [List.length_append]; omega
        obtain ⟨zs, hzs⟩ : ∃ zs, ys ++ (Nd.mk k' s' n' a' ks').lay 1000000 ys.length (deep + 1) = zs := ⟨_, rfl⟩
        have hcall := IH.out _ (List.mem_of_getElem? HT.out) _ _ _ (deep + 1) B (wr.alloc (.cells #[.int .i64 k', .string s', .int .i64 n', .int .i64 a', .slice A2 ks'.length cap2] 24)) ((HLt.out).below ((Below.refl _ _).alloc (by have := hb.size; omega) _)) (by have := hb.size; simp; omega) (HO.out.alloc _) (by omega) (by omega) (by omega)
        rw [hzs] at hd' hlen' hcall
        have HD := Lib.hid hd'
        have HC := Lib.hid hcall
        clear hd hd' hlen hcall hR hzs
        go_wp2_with fail
        refine HC.out.mono ?_
        rintro e w' ⟨v', rfl, ho', hb'⟩
        obtain ⟨A3, cap3, rfl, hc3, hc4⟩ := row_form ho'
        have HO' := Lib.hid ho'
        clear ho' HC HO
        go_wp2_with fail
        go_roundw
        case rel => exact ⟨j + 1, zs, A3, cap3, by omega, by go_num, rfl, hc3, hc4, HO'.out, HD, (hb.alloc (by have := hb.size; omega) _).trans hb', by omega, by omega⟩
        case measure => simp [intOf]; omega
    · obtain rfl : j = ks.length := by omega
      have hd := hR.out
      rw [List.drop_length] at hd
      unfold layL at hd
      rw [List.append_nil] at hd
      have HD := Lib.hid hd
      clear hd hR
      go_wp2_with fail
      go_ret
      exact ⟨_, rfl, by rw [← HD.out]; exact HO.out, hb⟩
end Go.Proofs.YtjpmghgmmeemkaaGreatDoor
