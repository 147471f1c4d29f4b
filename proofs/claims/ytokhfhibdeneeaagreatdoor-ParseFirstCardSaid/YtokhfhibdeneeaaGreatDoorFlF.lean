/- The plain law of ParseFirst. -/
import Derived.Test.YtokhfhibdeneeaaGreatDoorMQaF
import Derived.Test.YtokhfhibdeneeaaGreatDoorPsF
import Derived.Test.YtokhfhibdeneeaaGreatDoorFlC
namespace Go.Proofs.YtokhfhibdeneeaaGreatDoor

theorem ag_formN {E E' : Env} {i : Nat} (H : Agree E E' i) (m k : Nat) (s : Rs) : (formN E m k s).Ag i s.i (formN E' m k s) := by
  have hK := kAg H m
  match k with
  | 0 => exact ag_program H hK s
  | 1 => exact ag_exprForm H hK s
  | k + 2 => exact ag_stmts H hK 0 s
/-- Where the token behind the wrong one stands. -/
def cutOf : List Tok → Nat → Nat → Nat
  | [], _, n => n
  | t :: ts, a, n => if a < t.at_ then t.at_ else cutOf ts a n
theorem cutOf_spec {a n : Nat} : ∀ {ts : List Tok} {i : Nat} {tk : Tok}, ts.Pairwise (fun a b => a.at_ < b.at_) → ts[i]? = some tk → tk.at_ = a → (∀ t, ts[i + 1]? = some t → cutOf ts a n = t.at_) ∧ (ts[i + 1]? = none → cutOf ts a n = n)
  | [], i, _, _, h, _ => by simp at h
  | x :: ts, 0, tk, hp, h, ha => by
    obtain rfl : x = tk := by simpa using h
    have h1 : cutOf (x :: ts) a n = cutOf ts a n := by rw [cutOf, if_neg (by omega)]
    rw [h1]
    cases ts with
    | nil => exact ⟨fun t ht => by simp at ht, fun _ => rfl⟩
    | cons y ts =>
      have hlt := (List.pairwise_cons.1 hp).1 y (List.mem_cons_self ..)
      refine ⟨fun t ht => ?_, fun h => by simp at h⟩
      obtain rfl : y = t := by simpa using ht
      rw [cutOf, if_pos (by omega)]
  | x :: ts, i + 1, tk, hp, h, ha => by
    have h' : ts[i]? = some tk := by simpa using h
    have hlt := (List.pairwise_cons.1 hp).1 tk (List.mem_of_getElem? h')
    have h1 : cutOf (x :: ts) a n = cutOf ts a n := by rw [cutOf, if_neg (by omega)]
    rw [h1]
    have := cutOf_spec (a := a) (n := n) (List.pairwise_cons.1 hp).2 h' ha
    simpa using this
theorem cutOf_le {a n : Nat} : ∀ {ts : List Tok}, (∀ t ∈ ts, t.at_ ≤ n) → cutOf ts a n ≤ n
  | [], _ => Nat.le_refl _
  | t :: ts, h => by
    rw [cutOf]
    split
    · exact h t (List.mem_cons_self ..)
    · exact cutOf_le fun t ht => h t (List.mem_cons_of_mem _ ht)
/-- The first token that can't stand is told whatever follows it. -/
theorem first_law {k : Nat} {l : List UInt8} {ts : List Tok} {a : Nat} {nm : ByteArray} (hs : scanT l = .ok ts) (ho : parseT k l = .wrong 30 a nm) (ha : a < l.length) {y : List UInt8} {ts' : List Tok} (ht : scanT (l.take (cutOf ts a l.length) ++ 32 :: y) = .ok ts') :
    parseT k (l.take (cutOf ts a l.length) ++ 32 :: y) = .wrong 30 a nm := by
  obtain ⟨h1, h2, h3, h4⟩ := scanT_ok hs
  obtain ⟨g1, g2, _, _⟩ := scanT_ok ht
  rw [parseT, hs] at ho
  rw [parseT, ht]
  simp only at ho ⊢
  have hok : (envOf l ts).Ok := fun i hi => by rw [envOf_past hi]
  have hn : (envOf l ts).n ≤ 100000 := by show ts.length ≤ 100000; omega
  cases hr : readR (envOf l ts) (formR (envOf l ts) k) with
  | out => exact absurd hr (read_ne hok hn k)
  | ok t s =>
    exfalso
    rw [hr, outOf] at ho
    cases hw : rightW t with
    | none => rw [hw] at ho; cases ho
    | some x =>
      rw [hw] at ho
      injection ho with e1 _ _
      exact (look_own intB floatsB t 1 0 0 x hw).2 e1
  | bad i =>
    rw [hr, outOf] at ho
    injection ho with _ e2 e3
    rcases envOf_cases l ts i with ⟨tk, hk, hm, e⟩ | ⟨_, e⟩
    · rw [e] at e2 e3
      have hat : tk.at_ = a := by have : (tk.at_ : Int) = a := e2; omega
      have hnm : tkOf tk = (envOf l ts).tok i := e.symm
      obtain ⟨c1, c2⟩ := cutOf_spec (n := l.length) h4 hk hat
      have hcl : cutOf ts a l.length ≤ l.length := cutOf_le fun t ht => (h3 t ht).2
      have hac : a < cutOf ts a l.length := by
        cases hx : ts[i + 1]? with
        | none => rw [c2 hx]; exact ha
        | some t =>
          rw [c1 t hx]
          obtain ⟨hi, hi2⟩ := List.getElem?_eq_some_iff.1 hk
          obtain ⟨hj, hj2⟩ := List.getElem?_eq_some_iff.1 hx
          have := List.pairwise_iff_getElem.1 h4 i (i + 1) hi hj (Nat.lt_succ_self _)
          rw [hi2, hj2] at this
          omega
      have hlen : (l.take (cutOf ts a l.length)).length = cutOf ts a l.length := by rw [List.length_take]; omega
      have hsc : scanR 0 (l.take (cutOf ts a l.length) ++ l.drop (cutOf ts a l.length)) [] = .ok ts := by
        rw [List.take_append_drop]
        have := hs
        unfold scanT at this
        rwa [if_neg (by omega)] at this
      have hsc' : scanR 0 (l.take (cutOf ts a l.length) ++ 32 :: y) [] = .ok ts' := by
        have := ht
        unfold scanT at this
        rwa [if_neg (by omega)] at this
      have hag := scan_agree hk _ _ 0 [] rfl hsc hsc' (Nat.zero_le _) (by rw [hlen]; omega) (fun t ht => by rw [hlen, c1 t ht]; omega) (fun hx => by rw [c2 hx]; simp)
      have hget : ∀ j, j ≤ i → ts'[j]? = ts[j]? := fun j hj => by
        have := congrArg (fun l => l[j]?) hag
        simpa [List.getElem?_take, Nat.lt_succ_of_le hj] using this
      have hlt : i < ts.length := (List.getElem?_eq_some_iff.1 hk).1
      have hlt' : i < ts'.length := (List.getElem?_eq_some_iff.1 ((hget i (Nat.le_refl _)).trans hk)).1
      have hE : ∀ j, j ≤ i → (envOf (l.take (cutOf ts a l.length) ++ 32 :: y) ts').tok j = (envOf l ts).tok j := fun j hj => by
        have hx : ts[j]? = some (ts[j]'(by omega)) := List.getElem?_eq_getElem (by omega)
        rw [envOf_at hx, envOf_at ((hget j hj).trans hx)]
      have H : Agree (envOf l ts) (envOf (l.take (cutOf ts a l.length) ++ 32 :: y) ts') i := ⟨hlt, hlt', hE⟩
      have hfin : readR (envOf (l.take (cutOf ts a l.length) ++ 32 :: y) ts') (formR (envOf (l.take (cutOf ts a l.length) ++ 32 :: y) ts') k) = .bad i :=
        read_first H (ag_formN H (rounds (envOf l ts)) k ⟨0, false, false, false⟩) hr
      rw [hfin, outOf, hE i (Nat.le_refl _), e, e2, e3]
    · exfalso
      rw [e] at e2
      have : (l.length : Int) = a := e2
      omega
end Go.Proofs.YtokhfhibdeneeaaGreatDoor
