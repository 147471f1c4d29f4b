/- What Right says is none of the parser's own codes. -/
import Derived.Test.YtokhfhibdeneeaaGreatDoorMLookSpec
namespace Go.Proofs.YtokhfhibdeneeaaGreatDoor
def ownC (c : Int) : Prop := c ≠ 0 ∧ c ≠ 30
theorem ownC_lit {c : Int} (h : (decide (c ≠ 0) && decide (c ≠ 30)) = true) : ownC c := by
  simp only [Bool.and_eq_true, decide_eq_true_eq] at h
  exact h
theorem many_own (k : Int) (s : ByteArray) (ks : List Nd) (q : Int) : ownC (shapeOf k s ks q).many := by
  have hi : ∀ {p : Prop} [Decidable p] {a b : Shp}, ownC a.many → ownC b.many → ownC (if p then a else b).many := fun {p} _ {a b} ha hb => by
    by_cases h : p
    · rw [if_pos h]; exact ha
    · rw [if_neg h]; exact hb
  have hs : ∀ ty, ownC (stmtShape k q ty).many := fun ty => by
    unfold stmtShape
    repeat' (refine hi ?_ ?_)
    all_goals exact ownC_lit rfl
  unfold shapeOf
  repeat' (refine hi ?_ ?_)
  all_goals first | exact hs _ | exact ownC_lit rfl
mutual
theorem look_own (iB fB : ByteArray → Bool) : ∀ (t : Nd) (deep q seen : Int) (x : Wr), (t.look iB fB deep q seen).2 = some x → ownC x.code
  | .mk k s n a ks, deep, q, seen, x, h => by
    unfold Nd.look at h
    split at h
    · injection h with h; subst h; exact ownC_lit rfl
    · split at h
      · injection h with h; subst h; exact ownC_lit rfl
      · split at h
        · injection h with h; subst h; exact ownC_lit rfl
        · split at h
          · injection h with h; subst h; exact ownC_lit rfl
          · split at h
            · injection h with h; subst h; exact many_own k s ks q
            · exact lookL_own iB fB ks _ _ _ _ _ x h
theorem lookL_own (iB fB : ByteArray → Bool) : ∀ (ts : List Nd) (sh : Shp) (i : Nat) (deep e seen : Int) (x : Wr), (lookL iB fB ts sh i deep e seen).2 = some x → ownC x.code
  | [], sh, i, deep, e, seen, x, h => by unfold lookL at h; cases h
  | t :: ts, sh, i, deep, e, seen, x, h => by
    unfold lookL at h
    split at h
    · injection h with h; subst h; exact ownC_lit rfl
    · split at h
      · rename_i s' y hy
        injection h with h
        subst h
        exact look_own iB fB t (deep + 1) (sh.at_ i) seen y (by rw [hy])
      · rename_i s' hy
        exact lookL_own iB fB ts sh (i + 1) deep _ s' x h
end
end Go.Proofs.YtokhfhibdeneeaaGreatDoor
