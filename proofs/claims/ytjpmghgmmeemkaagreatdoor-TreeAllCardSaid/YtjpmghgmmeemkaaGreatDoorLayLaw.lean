/- What tree.All gives: the nodes of a tree, a node ahead of its kids: plain laws. -/
import Derived.Test.YtjpmghgmmeemkaaGreatDoorNd
namespace Go.Proofs.YtjpmghgmmeemkaaGreatDoor

/-- A node as All tells it. -/
structure Tl where
  deep : Int
  k : Int
  s : ByteArray
  n : Int
  a : Int

mutual
/-- What is laid down of a tree when so many lie there already. -/
def Nd.lay (most : Nat) : Nd → Nat → Int → List Tl
  | .mk k s n a ks, len, deep => if most ≤ len then [] else ⟨deep, k, s, n, a⟩ :: layL most ks (len + 1) (deep + 1)
def layL (most : Nat) : List Nd → Nat → Int → List Tl
  | [], _, _ => []
  | t :: ts, len, deep => t.lay most len deep ++ layL most ts (len + (t.lay most len deep).length) deep
end

mutual
theorem Nd.lay_full {most : Nat} : ∀ (t : Nd) {len : Nat} (deep : Int), most ≤ len → t.lay most len deep = []
  | .mk _ _ _ _ _, len, deep, h => by unfold Nd.lay; rw [if_pos h]
theorem layL_full {most : Nat} : ∀ (ts : List Nd) {len : Nat} (deep : Int), most ≤ len → layL most ts len deep = []
  | [], _, _, _ => by unfold layL; rfl
  | t :: ts, len, deep, h => by
    unfold layL
    rw [Nd.lay_full t deep h, layL_full ts deep (by simpa using h)]
    rfl
end

mutual
def Nd.size : Nd → Nat
  | .mk _ _ _ _ ks => 1 + sizeL ks
def sizeL : List Nd → Nat
  | [] => 0
  | t :: ts => t.size + sizeL ts
end

mutual
theorem Nd.lay_length {most : Nat} : ∀ (t : Nd) (len : Nat) (deep : Int), len ≤ most → (t.lay most len deep).length = min t.size (most - len)
  | .mk k s n a ks, len, deep, h => by
    unfold Nd.lay Nd.size
    split
    · simp; omega
    · have := layL_length (most := most) ks (len + 1) (deep + 1) (by omega)
      simp only [List.length_cons, this]
      omega
theorem layL_length {most : Nat} : ∀ (ts : List Nd) (len : Nat) (deep : Int), len ≤ most → (layL most ts len deep).length = min (sizeL ts) (most - len)
  | [], _, _, _ => by unfold layL sizeL; simp
  | t :: ts, len, deep, h => by
    unfold layL sizeL
    have h1 := Nd.lay_length (most := most) t len deep h
    have h2 := layL_length (most := most) ts (len + (t.lay most len deep).length) deep (by omega)
    rw [List.length_append, h2, h1]
    omega
end

mutual
theorem Nd.lay_deep {most : Nat} : ∀ (t : Nd) (len : Nat) (deep : Int), ∀ x ∈ t.lay most len deep, deep ≤ x.deep
  | .mk k s n a ks, len, deep, x, hx => by
    unfold Nd.lay at hx
    split at hx
    · cases hx
    · rcases List.mem_cons.1 hx with rfl | hx
      · exact Int.le_refl _
      · have := layL_deep ks (len + 1) (deep + 1) x hx
        omega
theorem layL_deep {most : Nat} : ∀ (ts : List Nd) (len : Nat) (deep : Int), ∀ x ∈ layL most ts len deep, deep ≤ x.deep
  | [], _, _, x, hx => by unfold layL at hx; cases hx
  | t :: ts, len, deep, x, hx => by
    unfold layL at hx
    rcases List.mem_append.1 hx with hx | hx
    · exact Nd.lay_deep t len deep x hx
    · exact layL_deep ts _ deep x hx
end

mutual
theorem Nd.lay_bd {most : Nat} : ∀ (t : Nd) (len : Nat) (deep : Int), deep ≤ len + 1 → ∀ x ∈ t.lay most len deep, x.deep ≤ most
  | .mk k s n a ks, len, deep, h, x, hx => by
    unfold Nd.lay at hx
    split at hx
    · cases hx
    · rcases List.mem_cons.1 hx with rfl | hx
      · show deep ≤ (most : Int); omega
      · exact layL_bd ks (len + 1) (deep + 1) (by omega) x hx
theorem layL_bd {most : Nat} : ∀ (ts : List Nd) (len : Nat) (deep : Int), deep ≤ len + 1 → ∀ x ∈ layL most ts len deep, x.deep ≤ most
  | [], _, _, _, x, hx => by unfold layL at hx; cases hx
  | t :: ts, len, deep, h, x, hx => by
    unfold layL at hx
    rcases List.mem_append.1 hx with hx | hx
    · exact Nd.lay_bd t len deep h x hx
    · exact layL_bd ts _ deep (by omega) x hx
end

mutual
theorem Nd.count_size : ∀ (t : Nd) (left : Int), 0 ≤ left → t.count left = min (t.size : Int) (left + 1)
  | .mk k s n a ks, left, h => by
    have := countL_size ks left 1 (by omega) (by omega)
    unfold Nd.count Nd.size
    rw [this]; omega
theorem countL_size : ∀ (ks : List Nd) (left many : Int), 1 ≤ many → many ≤ left + 1 → countL ks left many = min (many + sizeL ks) (left + 1)
  | [], left, many, h, h' => by unfold countL sizeL; omega
  | k :: ks, left, many, h, h' => by
    unfold countL sizeL
    split
    · omega
    · have h1 := Nd.count_size k (left - many) (by omega)
      have h2 := Nd.count_bd k (left - many) (by omega)
      rw [countL_size ks left _ (by omega) (by omega), h1]
      omega
end

theorem Nd.size_pos : ∀ t : Nd, 1 ≤ t.size
  | .mk _ _ _ _ _ => by unfold Nd.size; omega

/-- The first is as deep as is said, those behind it are deeper. -/
theorem Nd.lay_deeps {most : Nat} (t : Nd) (deep : Int) (i : Nat) (x : Tl) (h : (t.lay most 0 deep)[i]? = some x) : deep ≤ x.deep ∧ (i = 0 → x.deep = deep) ∧ (0 < i → deep < x.deep) := by
  obtain ⟨k, s, n, a, ks⟩ := t
  unfold Nd.lay at h
  split at h
  · simp at h
  · cases i with
    | zero => simp at h; subst h; simp
    | succ i =>
      simp only [List.getElem?_cons_succ] at h
      have := layL_deep ks _ _ x (List.mem_of_getElem? h)
      refine ⟨by omega, by omega, by omega⟩

/-! ### A tree with a leaf more, or with another Text -/
def Nd.more : Nd → Nd | .mk k s n a ks => .mk k s n a (ks ++ [.mk 16 ⟨#[]⟩ 0 0 []])
theorem sizeL_append : ∀ (a b : List Nd), sizeL (a ++ b) = sizeL a + sizeL b
  | [], b => by simp [sizeL]
  | t :: a, b => by simp only [List.cons_append, sizeL, sizeL_append a b]; omega
theorem Nd.more_size (t : Nd) : t.more.size = t.size + 1 := by
  obtain ⟨k, s, n, a, ks⟩ := t
  unfold Nd.more Nd.size
  rw [sizeL_append]
  simp [sizeL, Nd.size]; omega
theorem Nd.more_same (t : Nd) : t.same t.more = false := by
  obtain ⟨k, s, n, a, ks⟩ := t
  unfold Nd.more Nd.same
  simp
mutual
theorem Nd.same_refl : ∀ t : Nd, t.same t = true
  | .mk k s n a ks => by unfold Nd.same; simp [sameL_refl ks]
theorem sameL_refl : ∀ ts : List Nd, sameL ts ts = true
  | [] => by unfold sameL; rfl
  | t :: ts => by unfold sameL; rw [Nd.same_refl t, sameL_refl ts]; rfl
end
def Nd.texted (x : ByteArray) : Nd → Nd | .mk k s n a ks => .mk k (s ++ x) n a ks
theorem Nd.texted_count (t : Nd) (x : ByteArray) (left : Int) : (t.texted x).count left = t.count left := by
  obtain ⟨k, s, n, a, ks⟩ := t
  unfold Nd.texted Nd.count; rfl
theorem Nd.texted_same (t : Nd) (x : ByteArray) : t.same (t.texted x) = (x.toList == []) := by
  obtain ⟨k, s, n, a, ks⟩ := t
  unfold Nd.texted Nd.same
  have h : (s ++ x).toList = s.toList ++ x.toList := by simp [ByteArray.toList_eq]
  rw [h, sameL_refl]
  have e : (s.toList == s.toList ++ x.toList) = (x.toList == []) := by
    rw [Bool.eq_iff_iff]
    simp
  simp [e]
end Go.Proofs.YtjpmghgmmeemkaaGreatDoor
