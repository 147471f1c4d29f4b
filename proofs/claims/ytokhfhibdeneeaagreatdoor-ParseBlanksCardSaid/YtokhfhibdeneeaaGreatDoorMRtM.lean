/- The checking of a tree: where places are changed, what is told is told at the changed place. The three forms under moved places; trees that differ in their places alone. -/
import Derived.Test.YtokhfhibdeneeaaGreatDoorPsM
import Derived.Test.YtokhfhibdeneeaaGreatDoorMLookSpec
import Derived.Test.YtokhfhibdeneeaaGreatDoorMNd
namespace Go.Proofs.YtokhfhibdeneeaaGreatDoor

def Wr.mv (f : Int → Int) (x : Wr) : Wr := ⟨x.code, f x.at_, x.name⟩
section
variable {f : Int → Int}
@[simp] theorem mv_kids (x : Nd) : (x.mv f).kids = x.kids.map (Nd.mv f) := by cases x; rw [mv_mk]; rfl
@[simp] theorem mv_typedOne (x : Nd) : typedOne (x.mv f) = typedOne x := by simp [typedOne]
theorem mv_firstNone (x : Nd) : firstNone (x.mv f) = firstNone x := by
  unfold firstNone
  rw [mv_kind, mv_kids]
  cases x.kids with
  | nil => rfl
  | cons y l => simp
theorem mv_isCase (st : Int) (x : Nd) : isCase st (x.mv f) = isCase st x := by simp [isCase, mv_firstNone]
theorem mv_typedB (ks : List Nd) : typedB (ks.map (Nd.mv f)) = typedB ks := by
  cases ks with
  | nil => rfl
  | cons x l => simp [typedB, Function.comp_def]
theorem mv_lastOf (ks : List Nd) : lastOf (ks.map (Nd.mv f)) = lastOf ks := by
  unfold lastOf
  rw [List.length_map, List.getElem?_map, Option.map_map]
  congr 3
  cases ks[2]? with
  | none => rfl
  | some x => simp
theorem mv_shapeOf (k : Int) (s : ByteArray) (ks : List Nd) (q : Int) : shapeOf k s (ks.map (Nd.mv f)) q = shapeOf k s ks q := by
  unfold shapeOf
  rw [mv_lastOf, mv_typedB]
mutual
theorem look_mv (iB fB : ByteArray → Bool) : ∀ (t : Nd) (deep q seen : Int), (t.mv f).look iB fB deep q seen = ((t.look iB fB deep q seen).1, (t.look iB fB deep q seen).2.map (Wr.mv f))
  | .mk k s n a ks, deep, q, seen => by
    have ih := lookL_mv iB fB ks (shapeOf k s ks q) 0 deep 0 (seen + 1)
    rw [mv_mk, Nd.look, Nd.look, mv_shapeOf, List.length_map]
    split
    · rfl
    · split
      · rfl
      · split
        · rfl
        · split
          · rfl
          · split
            · rfl
            · exact ih
theorem lookL_mv (iB fB : ByteArray → Bool) : ∀ (ts : List Nd) (sh : Shp) (i : Nat) (deep d seen : Int), lookL iB fB (ts.map (Nd.mv f)) sh i deep d seen = ((lookL iB fB ts sh i deep d seen).1, (lookL iB fB ts sh i deep d seen).2.map (Wr.mv f))
  | [], sh, i, deep, d, seen => rfl
  | t :: ts, sh, i, deep, d, seen => by
    have h1 := look_mv iB fB t (deep + 1) (sh.at_ i) seen
    rw [List.map_cons, lookL, lookL, mv_isCase, h1, mv_at, mv_text]
    split
    · rfl
    · rcases t.look iB fB (deep + 1) (sh.at_ i) seen with ⟨sn, _ | e⟩
      · exact lookL_mv iB fB ts sh (i + 1) deep _ sn
      · rfl
end
end
end Go.Proofs.YtokhfhibdeneeaaGreatDoor

namespace Go.Proofs.YtokhfhibdeneeaaGreatDoor

def Nd.setAt (b : Int) : Nd → Nd | .mk k s n _ ks => .mk k s n b ks
section
variable {E : Env} {K : Kn} {f : Int → Int}
theorem setAt_push (b : Int) (x y : Nd) : (x.push y).setAt b = (x.setAt b).push y := by cases x; rfl
theorem at_stmtsL (b : Int) {stmt : Rs → Rr Nd} : ∀ n a s, stmtsL E stmt n (Nd.setAt b a) s = (stmtsL E stmt n a s).mv (Nd.setAt b)
  | 0, _, _ => rfl
  | n + 1, a, s => by
    have ih := fun (x : Nd) (s' : Rs) => at_stmtsL b (stmt := stmt) n (a.push x) s'
    simp only [setAt_push] at ih
    simp [stmtsL, ih]
theorem at_stmts (a b : Int) (s : Rs) : stmtsR E K b s = (stmtsR E K a s).mv (Nd.setAt b) := by
  have h := at_stmtsL (E := E) b (stmt := stmtR E K) K.fuel (.mk 17 (bs []) 0 a []) (endsS E s)
  exact h
theorem mv_formN (m k : Nat) : readR (E.mv f) (formN (E.mv f) m k) = (readR E (formN E m k)).mv (fun x => if k < 2 then x.mv f else (x.mv f).setAt 0) := by
  match k with
  | 0 => exact mv_read fun s => mv_program (mv_kn _) s
  | 1 => exact mv_read fun s => mv_exprForm (mv_kn _) s
  | k + 2 =>
    have h1 : ∀ s, stmtsFormR (E.mv f) (kn (E.mv f) m) s = ((stmtsFormR E (kn E m) s).mv (Nd.mv f)).mv (Nd.setAt 0) := fun s => by
      unfold stmtsFormR
      rw [at_stmts (f 0) 0, mv_stmts (mv_kn _)]
    show readR (E.mv f) (stmtsFormR (E.mv f) (kn (E.mv f) m)) = (readR E (stmtsFormR E (kn E m))).mv _
    unfold readR
    rw [h1]
    simp [show ¬ k + 2 < 2 by omega]
    rfl
theorem mv_form (k : Nat) : readR (E.mv f) (formR (E.mv f) k) = (readR E (formR E k)).mv (fun x => if k < 2 then x.mv f else (x.mv f).setAt 0) := by
  have h : rounds (E.mv f) = rounds E := rfl
  unfold formR
  rw [h]
  exact mv_formN _ _
end
section
variable {f g : Int → Int}
theorem mv_mv : ∀ x : Nd, (x.mv f).mv g = x.mv (fun a => g (f a)) := by
  refine Nd.induct fun k s n a ks ih => ?_
  rw [mv_mk, mv_mk, mv_mk, List.map_map]
  congr 1
  exact List.map_congr_left fun x hx => ih x hx
/-- A tree but for its places. -/
def Nd.nowhere (x : Nd) : Nd := x.mv fun _ => 0
theorem nowhere_mv (x : Nd) : (x.mv f).nowhere = x.nowhere := mv_mv x
theorem nowhere_setAt (b : Int) (x : Nd) : (x.setAt b).nowhere = x.nowhere := by cases x; simp [Nd.nowhere, Nd.setAt]
mutual
theorem same_mv : ∀ x y : Nd, (x.mv f).same (y.mv g) = x.same y
  | .mk k s n a ks, .mk k' s' n' a' ks' => by
    rw [mv_mk, mv_mk, Nd.same, Nd.same, sameL_mv ks ks', List.length_map, List.length_map]
theorem sameL_mv : ∀ x y : List Nd, sameL (x.map (Nd.mv f)) (y.map (Nd.mv g)) = sameL x y
  | [], [] => rfl
  | [], _ :: _ => rfl
  | _ :: _, [] => rfl
  | x :: l, y :: l' => by rw [List.map_cons, List.map_cons, sameL, sameL, same_mv x y, sameL_mv l l']
end
mutual
theorem count_mv : ∀ (x : Nd) (left : Int), (x.mv f).count left = x.count left
  | .mk k s n a ks, left => by rw [mv_mk, Nd.count, Nd.count, countL_mv ks]
theorem countL_mv : ∀ (x : List Nd) (left c : Int), countL (x.map (Nd.mv f)) left c = countL x left c
  | [], _, _ => rfl
  | x :: l, left, c => by rw [List.map_cons, countL, countL, count_mv x, countL_mv l]
end
theorem same_nowhere {x y : Nd} (h : x.nowhere = y.nowhere) : x.same y = true := by
  rw [← same_mv (f := fun _ => 0) (g := fun _ => 0) x y]
  show x.nowhere.same y.nowhere = true
  rw [h]
  exact Nd.same_refl _
theorem count_nowhere {x y : Nd} (h : x.nowhere = y.nowhere) (left : Int) : x.count left = y.count left := by
  rw [← count_mv (f := fun _ => 0) x, ← count_mv (f := fun _ => 0) y]
  show x.nowhere.count left = y.nowhere.count left
  rw [h]
end
end Go.Proofs.YtokhfhibdeneeaaGreatDoor
