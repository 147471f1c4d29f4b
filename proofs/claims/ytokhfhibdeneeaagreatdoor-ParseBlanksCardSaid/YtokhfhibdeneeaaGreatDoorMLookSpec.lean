/- What tree.look says of a tree, in plain Lean. tree.shaped at the kinds 47, 40, 38; the leaf of the statement arm. tree.shaped: the shape of every node. -/
import Derived.Test.YtokhfhibdeneeaaGreatDoorRight3
import Derived.Test.YtokhfhibdeneeaaGreatDoorMay
namespace Go.Proofs.YtokhfhibdeneeaaGreatDoor
open Go.RowKit

structure Wr where
  code : Int
  at_ : Int
  name : ByteArray

def firstNone (k : Nd) : Bool := k.kind == 27 && (match k.kids with | [] => false | x :: _ => x.kind == 16)
def isCase (st : Int) (k : Nd) : Bool := (st == 19 || st == 20) && firstNone k

mutual
def Nd.look (iB fB : ByteArray → Bool) : Nd → Int → Int → Int → Int × Option Wr
  | .mk k s n a ks, deep, q, seen =>
    if 20000 ≤ seen then (seen, some ⟨22, a, shortB s⟩)
    else if 60 < deep then (seen, some ⟨21, a, shortB s⟩)
    else if mayB k s q = false ∨ textB iB fB k s q = false ∨ numberB k n = false then (seen, some ⟨20, a, shortB s⟩)
    else if (ks.length : Int) < (shapeOf k s ks q).least then (seen + 1, some ⟨20, a, shortB s⟩)
    else if 0 ≤ (shapeOf k s ks q).most ∧ (shapeOf k s ks q).most < (ks.length : Int) then (seen + 1, some ⟨(shapeOf k s ks q).many, a, shortB s⟩)
    else lookL iB fB ks (shapeOf k s ks q) 0 deep 0 (seen + 1)
def lookL (iB fB : ByteArray → Bool) : List Nd → Shp → Nat → Int → Int → Int → Int × Option Wr
  | [], _, _, _, _, seen => (seen, none)
  | t :: ts, sh, i, deep, d, seen =>
    if isCase (sh.at_ i) t = true ∧ 1 ≤ d ∧ seen < 20000 ∧ deep < 60 then (seen, some ⟨20, t.at_, shortB t.text⟩)
    else match t.look iB fB (deep + 1) (sh.at_ i) seen with
      | (seen', some e) => (seen', some e)
      | (seen', none) => lookL iB fB ts sh (i + 1) deep (if isCase (sh.at_ i) t = true then d + 1 else d) seen'
end

mutual
theorem Nd.look_bd (iB fB : ByteArray → Bool) : ∀ (t : Nd) (deep q seen : Int), seen ≤ 20000 → seen ≤ (t.look iB fB deep q seen).1 ∧ (t.look iB fB deep q seen).1 ≤ 20000
  | .mk k s n a ks, deep, q, seen, h => by
    unfold Nd.look
    split
    · exact ⟨Int.le_refl _, h⟩
    · split
      · exact ⟨Int.le_refl _, h⟩
      · split
        · exact ⟨Int.le_refl _, h⟩
        · split
          · simp; omega
          · split
            · simp; omega
            · have := lookL_bd iB fB ks (shapeOf k s ks q) 0 deep 0 (seen + 1) (by omega)
              omega
theorem lookL_bd (iB fB : ByteArray → Bool) : ∀ (ts : List Nd) (sh : Shp) (i : Nat) (deep d seen : Int), seen ≤ 20000 → seen ≤ (lookL iB fB ts sh i deep d seen).1 ∧ (lookL iB fB ts sh i deep d seen).1 ≤ 20000
  | [], sh, i, deep, d, seen, h => by unfold lookL; exact ⟨Int.le_refl _, h⟩
  | t :: ts, sh, i, deep, d, seen, h => by
    unfold lookL
    split
    · exact ⟨Int.le_refl _, h⟩
    · have h1 := Nd.look_bd iB fB t (deep + 1) (sh.at_ i) seen h
      split
      · rename_i x e he
        rw [he] at h1
        exact h1
      · rename_i x he
        rw [he] at h1
        have h2 := lookL_bd iB fB ts sh (i + 1) deep (if isCase (sh.at_ i) t = true then d + 1 else d) x h1.2
        omega
end

mutual
def Nd.Each (p : Nd → Prop) : Nd → Prop
  | .mk k s n a ks => p (.mk k s n a ks) ∧ EachL p ks
def EachL (p : Nd → Prop) : List Nd → Prop
  | [] => True
  | t :: ts => t.Each p ∧ EachL p ts
end
theorem EachL.get {p : Nd → Prop} : ∀ {ts : List Nd} {i : Nat} {t : Nd}, EachL p ts → ts[i]? = some t → t.Each p
  | [], i, t, _, h => by simp at h
  | x :: ts, 0, t, he, h => by unfold EachL at he; simp at h; subst h; exact he.1
  | x :: ts, i + 1, t, he, h => by unfold EachL at he; exact EachL.get he.2 (by simpa using h)

def Shp.Bd (sh : Shp) : Prop := (∀ x ∈ sh.first, 0 ≤ x ∧ x ≤ 29) ∧ 0 ≤ sh.rest ∧ sh.rest ≤ 29
theorem Shp.Bd.at_ {sh : Shp} (h : sh.Bd) (i : Nat) : 0 ≤ sh.at_ i ∧ sh.at_ i ≤ 29 := by
  unfold Shp.at_
  cases hx : sh.first[i]? with
  | none => simpa using h.2
  | some x => simpa using h.1 x (List.mem_of_getElem? hx)
theorem lastOf_bd (ks : List Nd) : 0 ≤ lastOf ks ∧ lastOf ks ≤ 29 := by
  unfold lastOf
  split <;> omega
theorem bd_ite {p : Prop} [Decidable p] {a b : Shp} (ha : a.Bd) (hb : b.Bd) : (if p then a else b).Bd := by
  by_cases h : p
  · rw [if_pos h]; exact ha
  · rw [if_neg h]; exact hb
theorem stmtShape_bd (k q : Int) (ty : Bool) : (stmtShape k q ty).Bd := by
  unfold stmtShape
  repeat' (refine bd_ite ?_ ?_)
  all_goals (simp only [Shp.Bd, rwS, fx]; decide)
theorem shapeOf_bd (k : Int) (s : ByteArray) (ks : List Nd) (q : Int) : (shapeOf k s ks q).Bd := by
  have hl := lastOf_bd ks
  unfold shapeOf
  repeat' (refine bd_ite ?_ ?_)
  all_goals first
    | exact stmtShape_bd _ _ _
    | (simp only [Shp.Bd, rwS, fx, lim]; decide)
    | (simp only [Shp.Bd, fx]; refine ⟨fun x hx => ?_, by decide, by decide⟩; simp only [List.mem_cons, List.not_mem_nil, or_false] at hx; omega)

theorem lookL_dup (iB fB : ByteArray → Bool) {ks : List Nd} {sh : Shp} {i : Nat} {deep d seen : Int} {t : Nd} (ht : ks[i]? = some t) (hc : isCase (sh.at_ i) t = true) (hd : 1 ≤ d) (hs : seen < 20000) (hp : deep < 60) :
    lookL iB fB (ks.drop i) sh i deep d seen = (seen, some ⟨20, t.at_, shortB t.text⟩) := by
  rw [drop_cons ht]
  unfold lookL
  rw [if_pos ⟨hc, hd, hs, hp⟩]
theorem lookL_err (iB fB : ByteArray → Bool) {ks : List Nd} {sh : Shp} {i : Nat} {deep d seen s' : Int} {t : Nd} {x : Wr} (ht : ks[i]? = some t) (hn : ¬ (isCase (sh.at_ i) t = true ∧ 1 ≤ d ∧ seen < 20000 ∧ deep < 60))
    (hr : t.look iB fB (deep + 1) (sh.at_ i) seen = (s', some x)) : lookL iB fB (ks.drop i) sh i deep d seen = (s', some x) := by
  rw [drop_cons ht]
  unfold lookL
  rw [if_neg hn, hr]
theorem lookL_next (iB fB : ByteArray → Bool) {ks : List Nd} {sh : Shp} {i : Nat} {deep d d' seen s' : Int} {t : Nd} (ht : ks[i]? = some t) (hn : ¬ (isCase (sh.at_ i) t = true ∧ 1 ≤ d ∧ seen < 20000 ∧ deep < 60))
    (hr : t.look iB fB (deep + 1) (sh.at_ i) seen = (s', none)) (hd : (if isCase (sh.at_ i) t = true then d + 1 else d) = d') : lookL iB fB (ks.drop i) sh i deep d seen = lookL iB fB (ks.drop (i + 1)) sh (i + 1) deep d' s' := by
  rw [drop_cons ht]
  conv => lhs; unfold lookL
  rw [if_neg hn, hr, hd]
theorem lookL_end (iB fB : ByteArray → Bool) {ks : List Nd} {sh : Shp} {i : Nat} {deep d seen : Int} (h : ks.length ≤ i) : lookL iB fB (ks.drop i) sh i deep d seen = (seen, none) := by
  rw [List.drop_eq_nil_of_le h]
  unfold lookL
  rfl

section
variable (iB fB : ByteArray → Bool) {k : Int} {s : ByteArray} {n a : Int} {ks : List Nd} {deep q seen : Int}
theorem look_many (h : 20000 ≤ seen) : Nd.look iB fB (.mk k s n a ks) deep q seen = (seen, some ⟨22, a, shortB s⟩) := by unfold Nd.look; rw [if_pos h]
theorem look_deep (h : seen < 20000) (h2 : 60 < deep) : Nd.look iB fB (.mk k s n a ks) deep q seen = (seen, some ⟨21, a, shortB s⟩) := by unfold Nd.look; rw [if_neg (by omega), if_pos h2]
theorem look_kind (h : seen < 20000) (h2 : deep ≤ 60) (h3 : mayB k s q = false ∨ textB iB fB k s q = false ∨ numberB k n = false) : Nd.look iB fB (.mk k s n a ks) deep q seen = (seen, some ⟨20, a, shortB s⟩) := by
  unfold Nd.look; rw [if_neg (by omega), if_neg (by omega), if_pos h3]
theorem look_in (h : seen < 20000) (h2 : deep ≤ 60) (h3 : mayB k s q = true) (h4 : textB iB fB k s q = true) (h5 : numberB k n = true) {sh : Shp} (hs : shapeOf k s ks q = sh) :
    Nd.look iB fB (.mk k s n a ks) deep q seen = if (ks.length : Int) < sh.least then (seen + 1, some ⟨20, a, shortB s⟩)
    else if 0 ≤ sh.most ∧ sh.most < (ks.length : Int) then (seen + 1, some ⟨sh.many, a, shortB s⟩)
    else lookL iB fB ks sh 0 deep 0 (seen + 1) := by
  unfold Nd.look; rw [if_neg (by omega), if_neg (by omega), if_neg (by simp [h3, h4, h5]), hs]
end

theorem isCase_cases {st k : Int} {s : ByteArray} {n a : Int} {ks : List Nd} {c : Bool} (h : isCase st (.mk k s n a ks) = c) :
    ((st == 19) = false ∧ (st == 20) = false ∧ c = false) ∨ ((st = 19 ∨ st = 20) ∧ (((k == 27) = false ∧ c = false) ∨ (k = 27 ∧ ks = [] ∧ c = false) ∨ (k = 27 ∧ ∃ y ys, ks = y :: ys ∧ (y.kind == 16) = false ∧ c = false) ∨ (k = 27 ∧ ∃ y ys, ks = y :: ys ∧ y.kind = 16 ∧ c = true))) := by
  subst h
  by_cases h1 : st = 19 ∨ st = 20
  · refine .inr ⟨h1, ?_⟩
    by_cases h2 : k = 27
    · subst h2
      cases ks with
      | nil => exact .inr (.inl ⟨rfl, rfl, by simp [isCase, firstNone, Nd.kids]⟩)
      | cons y ys =>
        by_cases h3 : y.kind = 16
        · exact .inr (.inr (.inr ⟨rfl, y, ys, rfl, h3, by show ((st == 19 || st == 20) && ((27 : Int) == 27 && (y.kind == 16))) = true; simp [h1, h3]⟩))
        · exact .inr (.inr (.inl ⟨rfl, y, ys, rfl, by simp [h3], by simp [isCase, firstNone, Nd.kids, h3]⟩))
    · exact .inl ⟨by simp [h2], by simp [isCase, firstNone, Nd.kind, h2]⟩
  · have h19 : ¬ st = 19 := fun e => h1 (.inl e)
    have h20 : ¬ st = 20 := fun e => h1 (.inr e)
    exact .inl ⟨by simp [h19], by simp [h20], by simp [isCase, h19, h20]⟩
end Go.Proofs.YtokhfhibdeneeaaGreatDoor

namespace Go.Proofs.YtokhfhibdeneeaaGreatDoor
open Go.RowKit


theorem CellsAt.setCell {w : World} {b : Nat} {p : Addr} {v : Value} (hb : p.block ≠ b) : ∀ {l : List Int} {j : Nat}, CellsAt w b l j → CellsAt (w.setCell p v) b l j
  | [], _, _ => trivial
  | y :: l, j, h => ⟨by rw [World.cell?_setCell_other (h := fun e => hb (by rw [e]))]; exact h.1, CellsAt.setCell hb h.2⟩

theorem shp_leafS (w w' : World) (A' : Option Addr) (cap' : Nat) (x1 x2 x3 x4 : Int) (z0 z1 z2 z3 z4 : Value) (l : List Int) (h : w'.heap[w.heap.size + 1]? = some (.cells #[z0, z1, z2, z3, z4] 99)) (hB : Below w.heap.size w w')
    (hlen : l.length ≤ 4) (hf : l = [] ∨ ∃ b, A' = some ⟨b, 0, none⟩ ∧ w.heap.size + 2 ≤ b ∧ b < w'.heap.size ∧ CellsAt w' b l 0)
    (tmps : Array Value) (h4 : tmps.getD 4 undef = .pointer (some ⟨w.heap.size + 1, 0, none⟩)) (r : Shp) (hr : r = ⟨l, x1, x2, x3, x4⟩) :
    bodyPost Tryz.prog Tryz.f69 (fun e w' => ∃ v, e = .returned v ∧ ShapeIs w.heap.size w' v r ∧ Below w.heap.size w w') .ret { tmps := tmps, defers := [] }
      (((((w'.setCell ⟨w.heap.size + 1, 0, none⟩ (.slice A' l.length cap')).setCell ⟨w.heap.size + 1, 1, none⟩ (.int .i64 x1)).setCell ⟨w.heap.size + 1, 2, none⟩ (.int .i64 x2)).setCell ⟨w.heap.size + 1, 3, none⟩ (.int .i64 x3)).setCell ⟨w.heap.size + 1, 4, none⟩ (.int .i64 x4)) := by
  subst hr
  have h5 := hrow_five w' (w.heap.size + 1) _ z0 z1 z2 z3 z4 (.slice A' l.length cap') (.int .i64 x1) (.int .i64 x2) (.int .i64 x3) (.int .i64 x4) h
  refine bodyPost_ret (results_cell_row rfl _ _ (w.heap.size + 1) 99 _ _ _ h4 h5 Tryz.underlying99 rfl (by kernel_rfl)) rfl
    ⟨_, rfl, ⟨A', cap', rfl, hlen, ?_⟩, ((((hB.setCell (p := ⟨w.heap.size + 1, 0, none⟩) (Nat.le_succ _) _).setCell (p := ⟨w.heap.size + 1, 1, none⟩) (Nat.le_succ _) _).setCell (p := ⟨w.heap.size + 1, 2, none⟩) (Nat.le_succ _) _).setCell (p := ⟨w.heap.size + 1, 3, none⟩) (Nat.le_succ _) _).setCell (p := ⟨w.heap.size + 1, 4, none⟩) (Nat.le_succ _) _⟩
  rcases hf with hf | ⟨b, hA, hb1, hb2, hc⟩
  · exact .inl hf
  · have hne : w.heap.size + 1 ≠ b := by omega
    exact .inr ⟨b, hA, by omega, by simpa using hb2, CellsAt.setCell hne (CellsAt.setCell hne (CellsAt.setCell hne (CellsAt.setCell hne (CellsAt.setCell hne hc))))⟩

set_option maxRecDepth 100000 in
set_option maxHeartbeats 2000000 in
theorem shaped_47 (s : ByteArray) (n a : Int) (A : Option Addr) (cap : Nat) (ks : List Nd) (q : Int) (w : World)
    (hl : Lies w w.heap.size (.mk 47 s n a ks) (.agg #[.int .i64 47, .string s, .int .i64 n, .int .i64 a, .slice A ks.length cap])) :
    Calls Tryz.prog 69 #[.agg #[.int .i64 47, .string s, .int .i64 n, .int .i64 a, .slice A ks.length cap], .int .i64 q] w fun e w' =>
      ∃ v, e = .returned v ∧ ShapeIs w.heap.size w' v (shapeOf 47 s ks q) ∧ Below w.heap.size w w' := by
  have hr0 : shapeOf 47 s ks q = fx [11, 12, 12, lastOf ks] := rfl
  rw [hr0]
  unfold Lies at hl
  obtain ⟨A', cap', he, _, _, _, _, hcl, hcc, hkids⟩ := hl
  simp only [Value.agg.injEq, Array.mk.injEq, List.cons.injEq, Value.slice.injEq, and_true, true_and] at he
  obtain ⟨rfl, rfl⟩ := he
  by_cases h4 : ks.length = 4
  · obtain ⟨b, o, c, rfl, hlt, hc, hlast⟩ : ∃ b o c, A = some ⟨b, o, none⟩ ∧ b < w.heap.size ∧ w.cell? ⟨b, o + 10, none⟩ = some (.int .i64 c) ∧ lastOf ks = if c = 16 then 29 else 12 := by
      rcases hkids with rfl | ⟨b, o, rfl, hlt, hkl⟩
      · simp at h4
      · obtain ⟨k1, s1, n1, a1, A1, cap1, ks1, hx, c0, _⟩ := LiesL.get 2 (by omega) hkl
        refine ⟨b, o, k1, rfl, hlt, c0, ?_⟩
        unfold lastOf
        rw [hx]
        by_cases hk1 : k1 = 16 <;> simp [h4, Nd.kind, hk1]
    have hc2 : ∀ v t v' t', ((w.alloc (.cells v t)).alloc (.cells v' t')).cell? ⟨b, o + 10, none⟩ = some (.int .i64 c) := fun v t v' t' => by
      rw [(((Below.refl w.heap.size w).alloc (Nat.le_refl _) (.cells v t)).alloc (by simp) (.cells v' t')).cell (p := ⟨b, o + 10, none⟩) hlt]; exact hc
    have hc3 : ∀ v t v' t' v'' t'', (((w.alloc (.cells v t)).alloc (.cells v' t')).alloc (.cells v'' t'')).cell? ⟨b, o + 10, none⟩ = some (.int .i64 c) := fun v t v' t' v'' t'' => by
      rw [((((Below.refl w.heap.size w).alloc (Nat.le_refl _) (.cells v t)).alloc (by simp) (.cells v' t')).alloc (by simp; omega) (.cells v'' t'')).cell (p := ⟨b, o + 10, none⟩) hlt]; exact hc
    rw [hlast]
    clear hlast hkids hc
    rw [h4] at hcl ⊢
    clear h4
    by_cases h16 : c = 16
    · subst h16
      go_enter Tryz.func69, Tryz.ntmps69
      go_wp2_with (first
        | (go_at_call 118; refine (fixed_any _ _ _ _).mono ?_; rintro e w' ⟨rfl, rfl⟩))
      exact shp_leaf4 w _ _ _ _ _ _ _ _ _ _ _ _ rfl _ rfl
    · have h16b : (c == 16) = false := by simp [h16]
      rw [if_neg h16]
      go_enter Tryz.func69, Tryz.ntmps69
      go_wp2_with (first
        | (go_at_call 118; refine (fixed_any _ _ _ _).mono ?_; rintro e w' ⟨rfl, rfl⟩))
      exact shp_leaf4 w _ _ _ _ _ _ _ _ _ _ _ _ rfl _ rfl
  · have hlast : lastOf ks = 12 := by simp [lastOf, h4]
    rw [hlast]
    have h4b : (((ks.length : Nat) : Int) == 4) = false := by simp; omega
    clear h4 hlast hkids
    go_enter Tryz.func69, Tryz.ntmps69
    go_wp2_with (first
      | (go_at_call 118; refine (fixed_any _ _ _ _).mono ?_; rintro e w' ⟨rfl, rfl⟩))
    exact shp_leaf4 w _ _ _ _ _ _ _ _ _ _ _ _ rfl _ rfl

set_option maxRecDepth 100000 in
set_option maxHeartbeats 2000000 in
theorem shaped_40 (s : ByteArray) (n a : Int) (A : Option Addr) (len cap : Nat) (ks : List Nd) (q : Int) (w : World) :
    Calls Tryz.prog 69 #[.agg #[.int .i64 40, .string s, .int .i64 n, .int .i64 a, .slice A len cap], .int .i64 q] w fun e w' =>
      ∃ v, e = .returned v ∧ ShapeIs w.heap.size w' v (shapeOf 40 s ks q) ∧ Below w.heap.size w w' := by
  have hr0 : shapeOf 40 s ks q = if q = 27 ∨ (q = 0 ∧ ¬ s.toList = []) then fx [11] else fx [11, 11] := rfl
  rw [hr0]
  have H1 : Hid (q = 27 → (if q = 27 ∨ (q = 0 ∧ ¬ s.toList = []) then fx [11] else fx [11, 11]) = fx [11]) := fun h => if_pos (.inl h)
  have H2 : Hid (q = 0 → (!s.toList.isEmpty) = true → (if q = 27 ∨ (q = 0 ∧ ¬ s.toList = []) then fx [11] else fx [11, 11]) = fx [11]) := fun h h' => if_pos (.inr ⟨h, by simpa using h'⟩)
  have H3 : Hid (¬ q = 27 → (!s.toList.isEmpty) = false → (if q = 27 ∨ (q = 0 ∧ ¬ s.toList = []) then fx [11] else fx [11, 11]) = fx [11, 11]) := fun h h' => if_neg (fun e => e.elim h (fun e => e.2 (by simpa using h')))
  have H4 : Hid (¬ q = 27 → ¬ q = 0 → (if q = 27 ∨ (q = 0 ∧ ¬ s.toList = []) then fx [11] else fx [11, 11]) = fx [11, 11]) := fun h h' => if_neg (fun e => e.elim h (fun e => h' e.1))
  obtain ⟨r, HF⟩ : ∃ r, Hid ((if q = 27 ∨ (q = 0 ∧ ¬ s.toList = []) then fx [11] else fx [11, 11]) = r) := ⟨_, rfl⟩
  rw [HF.out]
  go_enter Tryz.func69, Tryz.ntmps69
  go_wp2_with (first
    | (go_at_call 118; refine (fixed_any _ _ _ _).mono ?_; rintro e w' ⟨rfl, rfl⟩))
  all_goals first
    | exact shp_leaf1 w _ _ _ _ _ _ _ _ _ rfl _ (HF.out.symm.trans (H1.out (by assumption)))
    | exact shp_leaf1 w _ _ _ _ _ _ _ _ _ rfl _ (HF.out.symm.trans (H2.out (by assumption) (by assumption)))
    | exact shp_leaf2 w _ _ _ _ _ _ _ _ _ _ rfl _ (HF.out.symm.trans (H3.out (by assumption) (by assumption)))
    | exact shp_leaf2 w _ _ _ _ _ _ _ _ _ _ rfl _ (HF.out.symm.trans (H4.out (by assumption) (by assumption)))

theorem shp_leaf0b (w : World) (A C D : Obj) (x1 x2 x3 x4 : Int) (tmps : Array Value) (h4 : tmps.getD 4 undef = .pointer (some ⟨w.heap.size + 1, 0, none⟩)) (r : Shp) (hr : r = ⟨[], x1, x2, x3, x4⟩) :
    bodyPost Tryz.prog Tryz.f69 (fun e w' => ∃ v, e = .returned v ∧ ShapeIs w.heap.size w' v r ∧ Below w.heap.size w w') .ret { tmps := tmps, defers := [] }
      ((((w.alloc A).alloc (.cells #[.slice none 0 0, .int .i64 x1, .int .i64 x2, .int .i64 x3, .int .i64 x4] 99)).alloc C).alloc D) := by
  subst hr
  exact bodyPost_ret (results_cell_row rfl _ _ (w.heap.size + 1) 99 _ _ _ h4 (hrow_old2 _ _ _ _ _) Tryz.underlying99 rfl (by kernel_rfl)) rfl
    ⟨_, rfl, ⟨none, 0, rfl, by simp, .inl rfl⟩, ((((Below.refl _ _).alloc (Nat.le_refl _) _).alloc (by simp) _).alloc (by simp; omega) _).alloc (by simp; omega) _⟩

set_option maxRecDepth 100000 in
set_option maxHeartbeats 2000000 in
theorem shaped_38 (s : ByteArray) (n a : Int) (A : Option Addr) (len cap : Nat) (ks : List Nd) (q : Int) (w : World) :
    Calls Tryz.prog 69 #[.agg #[.int .i64 38, .string s, .int .i64 n, .int .i64 a, .slice A len cap], .int .i64 q] w fun e w' =>
      ∃ v, e = .returned v ∧ ShapeIs w.heap.size w' v (shapeOf 38 s ks q) ∧ Below w.heap.size w w' := by
  have hr0 : shapeOf 38 s ks q = if q = 22 then ⟨[], 23, 1, -1, 20⟩ else if q = 21 then ⟨[], 11, 1, -1, 20⟩ else rwS 11 [] := rfl
  rw [hr0]
  have H1 : Hid ((q == 22) = true → (if q = 22 then ⟨[], 23, 1, -1, 20⟩ else if q = 21 then ⟨[], 11, 1, -1, 20⟩ else rwS 11 [] : Shp) = ⟨[], 23, 1, -1, 20⟩) := fun h => if_pos (eq_of_beq h)
  have H2 : Hid ((q == 22) = false → (q == 21) = true → (if q = 22 then ⟨[], 23, 1, -1, 20⟩ else if q = 21 then ⟨[], 11, 1, -1, 20⟩ else rwS 11 [] : Shp) = ⟨[], 11, 1, -1, 20⟩) := fun h h' => by rw [if_neg (by simpa using h), if_pos (eq_of_beq h')]
  have H3 : Hid ((q == 22) = false → (q == 21) = false → (if q = 22 then ⟨[], 23, 1, -1, 20⟩ else if q = 21 then ⟨[], 11, 1, -1, 20⟩ else rwS 11 [] : Shp) = rwS 11 []) := fun h h' => by rw [if_neg (by simpa using h), if_neg (by simpa using h')]
  obtain ⟨r, HF⟩ : ∃ r, Hid ((if q = 22 then ⟨[], 23, 1, -1, 20⟩ else if q = 21 then ⟨[], 11, 1, -1, 20⟩ else rwS 11 [] : Shp) = r) := ⟨_, rfl⟩
  rw [HF.out]
  go_enter Tryz.func69, Tryz.ntmps69
  go_wp2_with (first
    | (go_at_call 117; refine (row_any _ _ _ _ _).mono ?_; rintro e w' ⟨rfl, rfl⟩))
  all_goals first
    | exact shp_leaf0b w _ _ _ _ _ _ _ _ rfl _ (HF.out.symm.trans (H1.out (by assumption)))
    | exact shp_leaf0b w _ _ _ _ _ _ _ _ rfl _ (HF.out.symm.trans (H2.out (by assumption) (by assumption)))
    | exact shp_leaf0b w _ _ _ _ _ _ _ _ rfl _ (HF.out.symm.trans (H3.out (by assumption) (by assumption)))

end Go.Proofs.YtokhfhibdeneeaaGreatDoor

namespace Go.Proofs.YtokhfhibdeneeaaGreatDoor
open Go.RowKit


set_option maxRecDepth 100000 in
set_option maxHeartbeats 8000000 in
theorem shaped_any (k : Int) (s : ByteArray) (n a : Int) (A : Option Addr) (cap : Nat) (ks : List Nd) (q : Int) (w : World) (h : Gl w)
    (hl : Lies w w.heap.size (.mk k s n a ks) (.agg #[.int .i64 k, .string s, .int .i64 n, .int .i64 a, .slice A ks.length cap])) :
    Calls Tryz.prog 69 #[.agg #[.int .i64 k, .string s, .int .i64 n, .int .i64 a, .slice A ks.length cap], .int .i64 q] w fun e w' =>
      ∃ v, e = .returned v ∧ ShapeIs w.heap.size w' v (shapeOf k s ks q) ∧ Below w.heap.size w w' := by
  by_cases e47 : k = 47
  · subst e47; exact shaped_47 s n a A cap ks q w hl
  by_cases e40 : k = 40
  · subst e40; exact shaped_40 s n a A ks.length cap ks q w
  by_cases e38 : k = 38
  · subst e38; exact shaped_38 s n a A ks.length cap ks q w
  have b47 : (k == 47) = false := by simp [e47]
  have b40 : (k == 40) = false := by simp [e40]
  have b38 : (k == 38) = false := by simp [e38]
  clear e47 e40 e38
  have h1 : k = 1 → shapeOf k s ks q = rwS 1 [] := fun h => by subst h; rfl
  have H1 := Lib.hid h1
  clear h1
  have h2 : k = 2 → shapeOf k s ks q = fx [5] := fun h => by subst h; rfl
  have H2 := Lib.hid h2
  clear h2
  have h3 : k = 3 → shapeOf k s ks q = lim 2 30 := fun h => by subst h; rfl
  have H3 := Lib.hid h3
  clear h3
  have h4 : k = 4 → shapeOf k s ks q = lim 3 60 := fun h => by subst h; rfl
  have H4 := Lib.hid h4
  clear h4
  have h5 : k = 5 → shapeOf k s ks q = fx [8, 9] := fun h => by subst h; rfl
  have H5 := Lib.hid h5
  clear h5
  have h43 : k = 43 → shapeOf k s ks q = fx [8, 9] := fun h => by subst h; rfl
  have H43 := Lib.hid h43
  clear h43
  have h6 : k = 6 → shapeOf k s ks q = fx [7, 8, 9] := fun h => by subst h; rfl
  have H6 := Lib.hid h6
  clear h6
  have h7 : k = 7 → shapeOf k s ks q = fx [11] := fun h => by subst h; rfl
  have H7 := Lib.hid h7
  clear h7
  have h18 : k = 18 → shapeOf k s ks q = fx [11] := fun h => by subst h; rfl
  have H18 := Lib.hid h18
  clear h18
  have h45 : k = 45 → shapeOf k s ks q = fx [11] := fun h => by subst h; rfl
  have H45 := Lib.hid h45
  clear h45
  have h50 : k = 50 → shapeOf k s ks q = fx [11] := fun h => by subst h; rfl
  have H50 := Lib.hid h50
  clear h50
  have h12 : k = 12 → shapeOf k s ks q = fx [6] := fun h => by subst h; rfl
  have H12 := Lib.hid h12
  clear h12
  have h13 : k = 13 → shapeOf k s ks q = lim 4 12 := fun h => by subst h; rfl
  have H13 := Lib.hid h13
  clear h13
  have h15 : k = 15 → shapeOf k s ks q = fx [4] := fun h => by subst h; rfl
  have H15 := Lib.hid h15
  clear h15
  have h42 : k = 42 → shapeOf k s ks q = fx [28] := fun h => by subst h; rfl
  have H42 := Lib.hid h42
  clear h42
  have h44 : k = 44 → shapeOf k s ks q = fx [25] := fun h => by subst h; rfl
  have H44 := Lib.hid h44
  clear h44
  have h46 : k = 46 → shapeOf k s ks q = fx [11, 11] := fun h => by subst h; rfl
  have H46 := Lib.hid h46
  clear h46
  have h51 : k = 51 → shapeOf k s ks q = fx [11, 11] := fun h => by subst h; rfl
  have H51 := Lib.hid h51
  clear h51
  have h49 : k = 49 → shapeOf k s ks q = fx [11, 24] := fun h => by subst h; rfl
  have H49 := Lib.hid h49
  clear h49
  have h48 : k = 48 → shapeOf k s ks q = rwS 11 [18] := fun h => by subst h; rfl
  have H48 := Lib.hid h48
  clear h48
  have h39 : k = 39 → shapeOf k s ks q = rwS 26 [] := fun h => by subst h; rfl
  have H39 := Lib.hid h39
  clear h39
  have h41 : k = 41 → shapeOf k s ks q = rwS 27 [] := fun h => by subst h; rfl
  have H41 := Lib.hid h41
  clear h41
  have h00 : (k == 1) = false → (k == 2) = false → (k == 3) = false → (k == 4) = false → (k == 5) = false → (k == 43) = false → (k == 6) = false → (k == 7) = false → (k == 18) = false → (k == 45) = false → (k == 50) = false → (k == 12) = false → (k == 13) = false → (k == 15) = false → (k == 42) = false → (k == 44) = false → (k == 46) = false → (k == 51) = false → (k == 49) = false → (k == 48) = false → (k == 39) = false → (k == 41) = false → (k == 47) = false → (k == 40) = false → (k == 38) = false → shapeOf k s ks q = stmtShape k q (typedB ks) := by
    intros
    simp_all [shapeOf]
  have H00 := Lib.hid h00
  clear h00
  obtain ⟨r, HF⟩ : ∃ r, Hid (shapeOf k s ks q = r) := ⟨_, rfl⟩
  rw [HF.out]
  have H := Lib.hid h
  have HL := Lib.hid hl
  clear h hl
  have hb0 : ∀ v t v' t', Below w.heap.size w ((w.alloc (.cells v t)).alloc (.cells v' t')) := fun v t v' t' => ((Below.refl _ _).alloc (Nat.le_refl _) _).alloc (by simp) _
  have HB := Lib.hid hb0
  clear hb0
  go_enter Tryz.func69, Tryz.ntmps69
  go_wp2_with (first
    | (go_at_call 118; refine (fixed_any _ _ _ _).mono ?_; rintro e w' ⟨rfl, rfl⟩)
    | (go_at_call 119; refine (limited_any _ _ _).mono ?_; rintro e w' ⟨rfl, rfl⟩)
    | (go_at_call 117; refine (row_any _ _ _ _ _).mono ?_; rintro e w' ⟨rfl, rfl⟩)
    | (go_at_call 120; refine (statement_any k s n a A cap ks q _ (H.out.up (HB.out _ _ _ _)) (HL.out.up (HB.out _ _ _ _))).mono ?_; rintro e w' ⟨v, rfl, ⟨A', cap', rfl, hlen, hfirst⟩, hb⟩
       have hrow : w'.heap[w.heap.size + 1]? = some (.cells #[.slice none 0 0, .int .i64 0, .int .i64 0, .int .i64 0, .int .i64 0] 99) := (hb.block _ (by simp)).trans (heap_alloc2_new _ _ _)
       have HROW := Lib.hid hrow
       have HFIRST := Lib.hid hfirst
       have e0 : ∀ i, w'.cell? ⟨w.heap.size + 1, i, none⟩ = (#[Value.slice none 0 0, .int .i64 0, .int .i64 0, .int .i64 0, .int .i64 0])[i]? := fun i => cell_of_row w' _ i _ _ _ hrow
       have c0 : w'.cell? ⟨w.heap.size + 1, 0, none⟩ = some (.slice none 0 0) := e0 0
       have c1 : w'.cell? ⟨w.heap.size + 1, 1, none⟩ = some (.int .i64 0) := e0 1
       have c2 : w'.cell? ⟨w.heap.size + 1, 2, none⟩ = some (.int .i64 0) := e0 2
       have c3 : w'.cell? ⟨w.heap.size + 1, 3, none⟩ = some (.int .i64 0) := e0 3
       have c4 : w'.cell? ⟨w.heap.size + 1, 4, none⟩ = some (.int .i64 0) := e0 4
       have f0 : ∀ i, w'.frozen? ⟨w.heap.size + 1, i, none⟩ = false := fun i => frozen_of_row w' _ i _ _ hrow
       have HBB := Lib.hid hb
       have HLEN := Lib.hid hlen
       clear hrow e0 hb hfirst hlen))
  all_goals first
    | (have hR := HROW.out
       have hBW := (HB.out _ _ _ _).trans (HBB.out.mono (by simp; omega))
       have hfi := HFIRST.out
       have hle := HLEN.out
       have hr := HF.out.symm.trans (H00.out (by assumption) (by assumption) (by assumption) (by assumption) (by assumption) (by assumption) (by assumption) (by assumption) (by assumption) (by assumption) (by assumption) (by assumption) (by assumption) (by assumption) (by assumption) (by assumption) (by assumption) (by assumption) (by assumption) (by assumption) (by assumption) (by assumption) (by assumption) (by assumption) (by assumption))
       simp only [World.size_alloc] at hfi
       rw [hr]
       exact shp_leafS w w' A' cap' _ _ _ _ _ _ _ _ _ _ hR hBW hle hfi _ rfl _ rfl)
    | (exact shp_leaf0 w _ _ _ _ _ _ _ rfl _ (HF.out.symm.trans (H1.out (eq_of_beq (by assumption)))))
    | (exact shp_leaf1 w _ _ _ _ _ _ _ _ _ rfl _ (HF.out.symm.trans (H2.out (eq_of_beq (by assumption)))))
    | (exact shp_leaf0 w _ _ _ _ _ _ _ rfl _ (HF.out.symm.trans (H3.out (eq_of_beq (by assumption)))))
    | (exact shp_leaf0 w _ _ _ _ _ _ _ rfl _ (HF.out.symm.trans (H4.out (eq_of_beq (by assumption)))))
    | (exact shp_leaf2 w _ _ _ _ _ _ _ _ _ _ rfl _ (HF.out.symm.trans (H5.out (eq_of_beq (by assumption)))))
    | (exact shp_leaf2 w _ _ _ _ _ _ _ _ _ _ rfl _ (HF.out.symm.trans (H43.out (eq_of_beq (by assumption)))))
    | (exact shp_leaf3 w _ _ _ _ _ _ _ _ _ _ _ rfl _ (HF.out.symm.trans (H6.out (eq_of_beq (by assumption)))))
    | (exact shp_leaf1 w _ _ _ _ _ _ _ _ _ rfl _ (HF.out.symm.trans (H7.out (eq_of_beq (by assumption)))))
    | (exact shp_leaf1 w _ _ _ _ _ _ _ _ _ rfl _ (HF.out.symm.trans (H18.out (eq_of_beq (by assumption)))))
    | (exact shp_leaf1 w _ _ _ _ _ _ _ _ _ rfl _ (HF.out.symm.trans (H45.out (eq_of_beq (by assumption)))))
    | (exact shp_leaf1 w _ _ _ _ _ _ _ _ _ rfl _ (HF.out.symm.trans (H50.out (eq_of_beq (by assumption)))))
    | (exact shp_leaf1 w _ _ _ _ _ _ _ _ _ rfl _ (HF.out.symm.trans (H12.out (eq_of_beq (by assumption)))))
    | (exact shp_leaf0 w _ _ _ _ _ _ _ rfl _ (HF.out.symm.trans (H13.out (eq_of_beq (by assumption)))))
    | (exact shp_leaf1 w _ _ _ _ _ _ _ _ _ rfl _ (HF.out.symm.trans (H15.out (eq_of_beq (by assumption)))))
    | (exact shp_leaf1 w _ _ _ _ _ _ _ _ _ rfl _ (HF.out.symm.trans (H42.out (eq_of_beq (by assumption)))))
    | (exact shp_leaf1 w _ _ _ _ _ _ _ _ _ rfl _ (HF.out.symm.trans (H44.out (eq_of_beq (by assumption)))))
    | (exact shp_leaf2 w _ _ _ _ _ _ _ _ _ _ rfl _ (HF.out.symm.trans (H46.out (eq_of_beq (by assumption)))))
    | (exact shp_leaf2 w _ _ _ _ _ _ _ _ _ _ rfl _ (HF.out.symm.trans (H51.out (eq_of_beq (by assumption)))))
    | (exact shp_leaf2 w _ _ _ _ _ _ _ _ _ _ rfl _ (HF.out.symm.trans (H49.out (eq_of_beq (by assumption)))))
    | (exact shp_leaf1 w _ _ _ _ _ _ _ _ _ rfl _ (HF.out.symm.trans (H48.out (eq_of_beq (by assumption)))))
    | (exact shp_leaf0 w _ _ _ _ _ _ _ rfl _ (HF.out.symm.trans (H39.out (eq_of_beq (by assumption)))))
    | (exact shp_leaf0 w _ _ _ _ _ _ _ rfl _ (HF.out.symm.trans (H41.out (eq_of_beq (by assumption)))))

end Go.Proofs.YtokhfhibdeneeaaGreatDoor
