/- What tree.look says of a tree, in plain Lean. -/
import Derived.Test.YtjpmghgmmeemkaaGreatDoorRight3
import Derived.Test.YtjpmghgmmeemkaaGreatDoorMay
namespace Go.Proofs.YtjpmghgmmeemkaaGreatDoor
open Go.RowKit

structure Wr where
  code : Int
  at_ : Int
  name : ByteArray

def firstNone (k : Nd) : Bool := k.kind == 27 && (match k.kids with | [] => false | x :: _ => x.kind == 16)
def isCase (st : Int) (k : Nd) : Bool := (st == 19 || st == 20) && firstNone k

mutual
def Nd.look (iB fB : ByteArray → Bool) : Nd → Int → Int → Int → Int × Option Wr
  | .mk k s n a ks, deep, q, seen =>
    if 20000 ≤ seen then (seen, some ⟨22, a, shortB s⟩)
    else if 60 < deep then (seen, some ⟨21, a, shortB s⟩)
    else if mayB k s q = false ∨ textB iB fB k s q = false ∨ numberB k n = false then (seen, some ⟨20, a, shortB s⟩)
    else if (ks.length : Int) < (shapeOf k s ks q).least then (seen + 1, some ⟨20, a, shortB s⟩)
    else if 0 ≤ (shapeOf k s ks q).most ∧ (shapeOf k s ks q).most < (ks.length : Int) then (seen + 1, some ⟨(shapeOf k s ks q).many, a, shortB s⟩)
    else lookL iB fB ks (shapeOf k s ks q) 0 deep 0 (seen + 1)
def lookL (iB fB : ByteArray → Bool) : List Nd → Shp → Nat → Int → Int → Int → Int × Option Wr
  | [], _, _, _, _, seen => (seen, none)
  | t :: ts, sh, i, deep, d, seen =>
    if isCase (sh.at_ i) t = true ∧ 1 ≤ d ∧ seen < 20000 ∧ deep < 60 then (seen, some ⟨20, t.at_, shortB t.text⟩)
    else match t.look iB fB (deep + 1) (sh.at_ i) seen with
      | (seen', some e) => (seen', some e)
      | (seen', none) => lookL iB fB ts sh (i + 1) deep (if isCase (sh.at_ i) t = true then d + 1 else d) seen'
end

mutual
theorem Nd.look_bd (iB fB : ByteArray → Bool) : ∀ (t : Nd) (deep q seen : Int), seen ≤ 20000 → seen ≤ (t.look iB fB deep q seen).1 ∧ (t.look iB fB deep q seen).1 ≤ 20000
  | .mk k s n a ks, deep, q, seen, h => by
    unfold Nd.look
    split
    · exact ⟨Int.le_refl _, h⟩
    · split
      · exact ⟨Int.le_refl _, h⟩
      · split
        · exact ⟨Int.le_refl _, h⟩
        · split
          · simp; omega
          · split
            · simp; omega
            · have := lookL_bd iB fB ks (shapeOf k s ks q) 0 deep 0 (seen + 1) (by omega)
              omega
theorem lookL_bd (iB fB : ByteArray → Bool) : ∀ (ts : List Nd) (sh : Shp) (i : Nat) (deep d seen : Int), seen ≤ 20000 → seen ≤ (lookL iB fB ts sh i deep d seen).1 ∧ (lookL iB fB ts sh i deep d seen).1 ≤ 20000
  | [], sh, i, deep, d, seen, h => by unfold lookL; exact ⟨Int.le_refl _, h⟩
  | t :: ts, sh, i, deep, d, seen, h => by
    unfold lookL
    split
    · exact ⟨Int.le_refl _, h⟩
    · have h1 := Nd.look_bd iB fB t (deep + 1) (sh.at_ i) seen h
      split
      · rename_i x e he
        rw [he] at h1
        exact h1
      · rename_i x he
        rw [he] at h1
        have h2 := lookL_bd iB fB ts sh (i + 1) deep (if isCase (sh.at_ i) t = true then d + 1 else d) x h1.2
        omega
end

mutual
def Nd.Each (p : Nd → Prop) : Nd → Prop
  | .mk k s n a ks => p (.mk k s n a ks) ∧ EachL p ks
def EachL (p : Nd → Prop) : List Nd → Prop
  | [] => True
  | t :: ts => t.Each p ∧ EachL p ts
end
theorem EachL.get {p : Nd → Prop} : ∀ {ts : List Nd} {i : Nat} {t : Nd}, EachL p ts → ts[i]? = some t → t.Each p
  | [], i, t, _, h => by simp at h
  | x :: ts, 0, t, he, h => by unfold EachL at he; simp at h; subst h; exact he.1
  | x :: ts, i + 1, t, he, h => by unfold EachL at he; exact EachL.get he.2 (by simpa using h)

def Shp.Bd (sh : Shp) : Prop := (∀ x ∈ sh.first, 0 ≤ x ∧ x ≤ 29) ∧ 0 ≤ sh.rest ∧ sh.rest ≤ 29
theorem Shp.Bd.at_ {sh : Shp} (h : sh.Bd) (i : Nat) : 0 ≤ sh.at_ i ∧ sh.at_ i ≤ 29 := by
  unfold Shp.at_
  cases hx : sh.first[i]? with
  | none => simpa using h.2
  | some x => simpa using h.1 x (List.mem_of_getElem? hx)
theorem lastOf_bd (ks : List Nd) : 0 ≤ lastOf ks ∧ lastOf ks ≤ 29 := by
  unfold lastOf
  split <;> omega
theorem bd_ite {p : Prop} [Decidable p] {a b : Shp} (ha : a.Bd) (hb : b.Bd) : (if p then a else b).Bd := by
  by_cases h : p
  · rw [if_pos h]; exact ha
  · rw [if_neg h]; exact hb
theorem stmtShape_bd (k q : Int) (ty : Bool) : (stmtShape k q ty).Bd := by
  unfold stmtShape
  repeat' (refine bd_ite ?_ ?_)
  all_goals (simp only [Shp.Bd, rwS, fx]; decide)
theorem shapeOf_bd (k : Int) (s : ByteArray) (ks : List Nd) (q : Int) : (shapeOf k s ks q).Bd := by
  have hl := lastOf_bd ks
  unfold shapeOf
  repeat' (refine bd_ite ?_ ?_)
  all_goals first
    | exact stmtShape_bd _ _ _
    | (simp only [Shp.Bd, rwS, fx, lim]; decide)
    | (simp only [Shp.Bd, fx]; refine ⟨fun x hx => ?_, by decide, by decide⟩; simp only [List.mem_cons, List.not_mem_nil, or_false] at hx; omega)

theorem lookL_dup (iB fB : ByteArray → Bool) {ks : List Nd} {sh : Shp} {i : Nat} {deep d seen : Int} {t : Nd} (ht : ks[i]? = some t) (hc : isCase (sh.at_ i) t = true) (hd : 1 ≤ d) (hs : seen < 20000) (hp : deep < 60) :
    lookL iB fB (ks.drop i) sh i deep d seen = (seen, some ⟨20, t.at_, shortB t.text⟩) := by
  rw [drop_cons ht]
  unfold lookL
  rw [if_pos ⟨hc, hd, hs, hp⟩]
theorem lookL_err (iB fB : ByteArray → Bool) {ks : List Nd} {sh : Shp} {i : Nat} {deep d seen s' : Int} {t : Nd} {x : Wr} (ht : ks[i]? = some t) (hn : ¬ (isCase (sh.at_ i) t = true ∧ 1 ≤ d ∧ seen < 20000 ∧ deep < 60))
    (hr : t.look iB fB (deep + 1) (sh.at_ i) seen = (s', some x)) : lookL iB fB (ks.drop i) sh i deep d seen = (s', some x) := by
  rw [drop_cons ht]
  unfold lookL
  rw [if_neg hn, hr]
theorem lookL_next (iB fB : ByteArray → Bool) {ks : List Nd} {sh : Shp} {i : Nat} {deep d d' seen s' : Int} {t : Nd} (ht : ks[i]? = some t) (hn : ¬ (isCase (sh.at_ i) t = true ∧ 1 ≤ d ∧ seen < 20000 ∧ deep < 60))
    (hr : t.look iB fB (deep + 1) (sh.at_ i) seen = (s', none)) (hd : (if isCase (sh.at_ i) t = true then d + 1 else d) = d') : lookL iB fB (ks.drop i) sh i deep d seen = lookL iB fB (ks.drop (i + 1)) sh (i + 1) deep d' s' := by
  rw [drop_cons ht]
  conv => lhs; unfold lookL
  rw [if_neg hn, hr, hd]
theorem lookL_end (iB fB : ByteArray → Bool) {ks : List Nd} {sh : Shp} {i : Nat} {deep d seen : Int} (h : ks.length ≤ i) : lookL iB fB (ks.drop i) sh i deep d seen = (seen, none) := by
  rw [List.drop_eq_nil_of_le h]
  unfold lookL
  rfl

section
variable (iB fB : ByteArray → Bool) {k : Int} {s : ByteArray} {n a : Int} {ks : List Nd} {deep q seen : Int}
theorem look_many (h : 20000 ≤ seen) : Nd.look iB fB (.mk k s n a ks) deep q seen = (seen, some ⟨22, a, shortB s⟩) := by unfold Nd.look; rw [if_pos h]
theorem look_deep (h : seen < 20000) (h2 : 60 < deep) : Nd.look iB fB (.mk k s n a ks) deep q seen = (seen, some ⟨21, a, shortB s⟩) := by unfold Nd.look; rw [if_neg (by omega), if_pos h2]
theorem look_kind (h : seen < 20000) (h2 : deep ≤ 60) (h3 : mayB k s q = false ∨ textB iB fB k s q = false ∨ numberB k n = false) : Nd.look iB fB (.mk k s n a ks) deep q seen = (seen, some ⟨20, a, shortB s⟩) := by
  unfold Nd.look; rw [if_neg (by omega), if_neg (by omega), if_pos h3]
theorem look_in (h : seen < 20000) (h2 : deep ≤ 60) (h3 : mayB k s q = true) (h4 : textB iB fB k s q = true) (h5 : numberB k n = true) {sh : Shp} (hs : shapeOf k s ks q = sh) :
    Nd.look iB fB (.mk k s n a ks) deep q seen = if (ks.length : Int) < sh.least then (seen + 1, some ⟨20, a, shortB s⟩)
    else if 0 ≤ sh.most ∧ sh.most < (ks.length : Int) then (seen + 1, some ⟨sh.many, a, shortB s⟩)
    else lookL iB fB ks sh 0 deep 0 (seen + 1) := by
  unfold Nd.look; rw [if_neg (by omega), if_neg (by omega), if_neg (by simp [h3, h4, h5]), hs]
end

theorem isCase_cases {st k : Int} {s : ByteArray} {n a : Int} {ks : List Nd} {c : Bool} (h : isCase st (.mk k s n a ks) = c) :
    ((st == 19) = false ∧ (st == 20) = false ∧ c = false) ∨ ((st = 19 ∨ st = 20) ∧ (((k == 27) = false ∧ c = false) ∨ (k = 27 ∧ ks = [] ∧ c = false) ∨ (k = 27 ∧ ∃ y ys, ks = y :: ys ∧ (y.kind == 16) = false ∧ c = false) ∨ (k = 27 ∧ ∃ y ys, ks = y :: ys ∧ y.kind = 16 ∧ c = true))) := by
  subst h
  by_cases h1 : st = 19 ∨ st = 20
  · refine .inr ⟨h1, ?_⟩
    by_cases h2 : k = 27
    · subst h2
      cases ks with
      | nil => exact .inr (.inl ⟨rfl, rfl, by simp [isCase, firstNone, Nd.kids]⟩)
      | cons y ys =>
        by_cases h3 : y.kind = 16
        · exact .inr (.inr (.inr ⟨rfl, y, ys, rfl, h3, by show ((st == 19 || st == 20) && ((27 : Int) == 27 && (y.kind == 16))) = true; simp [h1, h3]⟩))
        · exact .inr (.inr (.inl ⟨rfl, y, ys, rfl, by simp [h3], by simp [isCase, firstNone, Nd.kids, h3]⟩))
    · exact .inl ⟨by simp [h2], by simp [isCase, firstNone, Nd.kind, h2]⟩
  · have h19 : ¬ st = 19 := fun e => h1 (.inl e)
    have h20 : ¬ st = 20 := fun e => h1 (.inr e)
    exact .inl ⟨by simp [h19], by simp [h20], by simp [isCase, h19, h20]⟩
end Go.Proofs.YtjpmghgmmeemkaaGreatDoor
