/- The parser's plain functions: the first token that can't stand is told whatever follows it. -/
import Derived.Test.YtokhfhibdeneeaaGreatDoorMNd
namespace Go.Proofs.YtokhfhibdeneeaaGreatDoor

/-- A reading ends at or behind a place. -/
def Rr.Ge {α : Type} (lo : Nat) : Rr α → Prop
  | .ok _ s => lo ≤ s.i
  | .bad j => lo ≤ j
  | .out => True
/-- Two readings that see the same tokens up to the place i: the first ends at or behind lo; where it ends at i or ahead of it, so does the other. -/
def Rr.Ag {α : Type} (i lo : Nat) (r r' : Rr α) : Prop :=
  match r with
  | .ok x s => lo ≤ s.i ∧ (s.i ≤ i → r' = .ok x s)
  | .bad j => lo ≤ j ∧ (j ≤ i → r' = .bad j)
  | .out => True
section
variable {α β : Type} {i lo lo' : Nat} {r r' r'' : Rr α} {k k' : α → Rs → Rr β}
theorem Rr.Ge.le (h : r.Ge lo) (hl : lo' ≤ lo) : r.Ge lo' := by
  cases r with
  | ok x s => exact Nat.le_trans hl h
  | bad j => exact Nat.le_trans hl h
  | out => exact h
theorem Rr.Ge.bind (h : r.Ge lo) (hk : ∀ x s, lo ≤ s.i → (k x s).Ge lo) : (r.bind k).Ge lo := by
  cases r with
  | ok x s => exact hk x s h
  | bad j => exact h
  | out => exact h
theorem Rr.Ge.ite {c : Prop} [Decidable c] (h : c → r.Ge lo) (h' : ¬c → r'.Ge lo) : (if c then r else r').Ge lo := by
  split
  · exact h ‹_›
  · exact h' ‹_›
theorem Rr.Ag.ge (h : r.Ag i lo r') : r.Ge lo := by
  cases r with
  | ok x s => exact h.1
  | bad j => exact h.1
  | out => exact h
/-- Behind i nothing is said of the other. -/
theorem Rr.Ge.ag (h : r.Ge lo') (h1 : i < lo') (hl : lo ≤ lo') : r.Ag i lo r' := by
  cases r with
  | ok x s => exact ⟨Nat.le_trans hl h, fun h' => absurd h' (by have h0 : lo' ≤ s.i := h; omega)⟩
  | bad j => exact ⟨Nat.le_trans hl h, fun h' => absurd h' (by have h0 : lo' ≤ j := h; omega)⟩
  | out => exact h
theorem Rr.Ag.le (h : r.Ag i lo r') (hl : lo' ≤ lo) : r.Ag i lo' r' := by
  cases r with
  | ok x s => exact ⟨Nat.le_trans hl h.1, h.2⟩
  | bad j => exact ⟨Nat.le_trans hl h.1, h.2⟩
  | out => exact h
theorem Rr.Ag.congr (h : r.Ag i lo r') (hx : lo ≤ i → r'' = r') : r.Ag i lo r'' := by
  rcases Nat.lt_or_ge i lo with hl | hl
  · cases r with
    | ok x s => exact ⟨h.1, fun h' => absurd h' (by have := h.1; omega)⟩
    | bad j => exact ⟨h.1, fun h' => absurd h' (by have := h.1; omega)⟩
    | out => exact h
  · rw [hx hl]; exact h
theorem Rr.Ag.bind (h : r.Ag i lo r') (hk : ∀ x s, lo ≤ s.i → (k x s).Ag i s.i (k' x s)) : (r.bind k).Ag i lo (r'.bind k') := by
  cases r with
  | ok x s =>
    have h1 := hk x s h.1
    refine Rr.Ag.le (Rr.Ag.congr h1 fun hs => ?_) h.1
    rw [h.2 hs]
    rfl
  | bad j => exact ⟨h.1, fun hj => by rw [h.2 hj]; rfl⟩
  | out => exact h
theorem Rr.Ag.okk {x x' : α} {s : Rs} (hl : lo ≤ s.i) (hx : s.i ≤ i → x' = x) : (Rr.ok x s).Ag i lo (.ok x' s) := ⟨hl, fun h => by rw [hx h]⟩
theorem Rr.Ag.badd {j : Nat} (hl : lo ≤ j) : (Rr.bad j : Rr α).Ag i lo (.bad j) := ⟨hl, fun _ => rfl⟩
theorem Rr.Ag.ite {c c' : Bool} {a a' b b' : Rr α} (hc : lo ≤ i → c' = c) (h : c = true → a.Ag i lo a') (h' : c = false → b.Ag i lo b') : (if c then a else b).Ag i lo (if c' then a' else b') := by
  cases c with
  | true => exact Rr.Ag.congr (h rfl) fun hl => by rw [hc hl]; rfl
  | false => exact Rr.Ag.congr (h' rfl) fun hl => by rw [hc hl]; rfl
theorem Rr.Ag.itep {c c' : Prop} [Decidable c] [Decidable c'] {a a' b b' : Rr α} (hc : lo ≤ i → (c' ↔ c)) (h : c → a.Ag i lo a') (h' : ¬c → b.Ag i lo b') : (if c then a else b).Ag i lo (if c' then a' else b') := by
  by_cases h0 : c
  · rw [if_pos h0]
    exact Rr.Ag.congr (h h0) fun hl => by rw [if_pos ((hc hl).2 h0)]
  · rw [if_neg h0]
    exact Rr.Ag.congr (h' h0) fun hl => by rw [if_neg fun e => h0 ((hc hl).1 e)]
end

/-- The same tokens up to the place i, which both have. -/
structure Agree (E E' : Env) (i : Nat) : Prop where
  lt : i < E.n
  lt' : i < E'.n
  tok : ∀ j, j ≤ i → E'.tok j = E.tok j
section
variable {E E' : Env} {i : Nat} (H : Agree E E' i)
include H
theorem Agree.cur (s : Rs) (h : s.i ≤ i) : cur E' s = cur E s := H.tok _ h
theorem Agree.isT (s : Rs) (w : List UInt8) (h : s.i ≤ i) : isT E' s w = isT E s w := by unfold Go.Proofs.YtokhfhibdeneeaaGreatDoor.isT; rw [H.cur s h]
theorem Agree.nxt (s : Rs) (h : s.i + 1 ≤ i) : nxt E' s = nxt E s := H.tok _ h
theorem ag_want (w : List UInt8) (s : Rs) : (wantR E w s).Ag i s.i (wantR E' w s) := by
  unfold wantR
  exact .ite (H.isT s w) (fun _ => .okk (Nat.le_succ _) fun h => H.cur s (Nat.le_of_succ_le h)) fun _ => .badd (Nat.le_refl _)
theorem ag_name (s : Rs) : (nameR E s).Ag i s.i (nameR E' s) := by
  unfold nameR
  exact .ite (fun h => by rw [H.cur s h]) (fun _ => .okk (Nat.le_succ _) fun h => by rw [H.cur s (Nat.le_of_succ_le h)]) fun _ => .badd (Nat.le_refl _)
theorem ag_endsN : ∀ f f' j, j + endsN E f j ≤ i → E.n ≤ j + f → E'.n ≤ j + f' → endsN E' f' j = endsN E f j
  | 0, _, j, h1, h2, _ => absurd H.lt (by simp [endsN] at h1; omega)
  | _ + 1, 0, j, h1, _, h3 => absurd H.lt' (by have : j ≤ i := by omega
                                               omega)
  | f + 1, f' + 1, j, h1, h2, h3 => by
    rw [endsN] at h1 ⊢
    rw [endsN, H.tok j (by omega)]
    split
    · next hk =>
      rw [if_pos hk] at h1
      rw [ag_endsN f f' (j + 1) (by omega) (by omega) (by omega)]
    · rfl
theorem ag_endsS (s : Rs) (h : (endsS E s).i ≤ i) : endsS E' s = endsS E s := by
  have h0 : s.i + endsN E (E.n - s.i) s.i ≤ i := h
  unfold endsS
  rw [ag_endsN H (E.n - s.i) (E'.n - s.i) s.i h0 (by omega) (by omega)]
/-- What goes on behind the ends. -/
theorem ag_ends {α : Type} {F F' : Rs → Rr α} (s : Rs) (h : (F (endsS E s)).Ag i (endsS E s).i (F' (endsS E s))) : (F (endsS E s)).Ag i s.i (F' (endsS E' s)) :=
  (Rr.Ag.congr h fun hl => by rw [ag_endsS H s hl]).le (endsS_ge s)
theorem ag_kind : ∀ (ws : List (List UInt8)) (s : Rs), (kindR E ws s).Ag i s.i (kindR E' ws s)
  | [], s => ag_name H s
  | w :: ws, s => by
    unfold kindR
    exact .ite (H.isT s w) (fun _ => .okk (Nat.le_succ _) fun h => by rw [H.cur s (Nat.le_of_succ_le h)]) fun _ => ag_kind ws s
theorem ag_typ1 (ws : List (List UInt8)) (s : Rs) : (typ1R E ws s).Ag i s.i (typ1R E' ws s) := by
  unfold typ1R
  refine .ite (H.isT s _) (fun _ => Rr.Ag.le (lo := s.i + 1) ?_ (Nat.le_succ _)) fun _ => ag_kind H ws s
  exact (ag_name H (adv s 1)).bind fun x s' h1 => .okk (Nat.le_refl _) fun h => by rw [H.cur s (by simp only [adv] at h1; omega)]
theorem ag_row {α : Type} (w : List UInt8) (part part' : α → Rs → Rr α) (hp : ∀ a s, (part a s).Ag i s.i (part' a s)) : ∀ f a (s : Rs), (rowR E w part f a s).Ag i s.i (rowR E' w part' f a s)
  | 0, _, _ => trivial
  | f + 1, a, s => by
    unfold rowR
    refine .ite (H.isT s w) (fun _ => .okk (Nat.le_refl _) fun _ => rfl) fun _ => (hp a s).bind fun a s' h1 => ?_
    exact .ite (H.isT s' _) (fun _ => (ag_row w part part' hp f a (adv s' 1)).le (Nat.le_succ _)) fun _ => .ite (H.isT s' w) (fun _ => ag_row w part part' hp f a s') fun _ => .badd (Nat.le_refl _)
theorem ag_open {α : Type} (b e : List UInt8) (within within' : α → Rs → Rr α) (a : α) (s : Rs) (hw : ∀ a s, (within a s).Ag i s.i (within' a s)) : (openR E b e within a s).Ag i s.i (openR E' b e within' a s) := by
  unfold openR
  refine (ag_want H b s).bind fun _ s1 h1 => (hw a { s1 with head := false, typ := false }).bind fun a s2 h2 => ?_
  exact (ag_want H e { s2 with head := s1.head, typ := s1.typ }).bind fun _ s3 h3 => .okk (Nat.le_refl _) fun _ => rfl

/-- What holds of two knots. -/
structure KAg (E E' : Env) (i : Nat) (K K' : Kn) : Prop where
  expr : ∀ s, (K.expr s).Ag i s.i (K'.expr s)
  unary : ∀ s, (K.unary s).Ag i s.i (K'.unary s)
  stmts : ∀ a s, (K.stmts a s).Ag i s.i (K'.stmts a s)
  branch : ∀ s, (K.branch s).Ag i s.i (K'.branch s)
  exprN : ∀ s, namedB (cur E s) = true → (K.expr s).Ge (s.i + 1)
  unaryN : ∀ s, namedB (cur E s) = true → (K.unary s).Ge (s.i + 1)
  fuel : K'.fuel = K.fuel
variable {K K' : Kn} (hK : KAg E E' i K K')
include hK
omit H in
theorem ag_exprPush (a : Nd) (s : Rs) : (exprPush K a s).Ag i s.i (exprPush K' a s) := (hK.expr s).bind fun _ _ _ => .okk (Nat.le_refl _) fun _ => rfl
omit hK in
theorem ag_namePush (a : Nd) (s : Rs) : (namePush E a s).Ag i s.i (namePush E' a s) := (ag_name H s).bind fun _ _ _ => .okk (Nat.le_refl _) fun _ => rfl
theorem ag_pair (a : Nd) (s : Rs) : (pairM E K a s).Ag i s.i (pairM E' K' a s) := by
  unfold pairM
  exact (ag_name H s).bind fun _ s1 _ => (ag_want H _ s1).bind fun _ s2 _ => (hK.expr s2).bind fun _ s3 _ => .okk (Nat.le_refl _) fun _ => rfl
theorem ag_make (a : Nd) (s : Rs) : (makeR E K a s).Ag i s.i (makeR E' K' a s) := by
  unfold makeR
  rw [hK.fuel]
  exact ag_open H _ _ _ _ _ s fun a s => ag_row H _ _ _ (fun a s => ag_pair H hK a s) K.fuel a s
theorem ag_map (a : Nd) (s : Rs) : (mapM E K a s).Ag i s.i (mapM E' K' a s) := by
  unfold mapM
  exact (hK.expr s).bind fun _ s1 h1 => (ag_want H _ s1).bind fun _ s2 h2 => (hK.expr s2).bind fun _ s3 h3 => .okk (Nat.le_refl _) fun h => by rw [H.cur s (by omega)]
theorem ag_index0 (a : Nd) (s : Rs) : (indexM E K a s).Ag i s.i (indexM E' K' a s) := by
  unfold indexM
  refine Rr.Ag.bind (lo := s.i) (.ite (H.isT s _) (fun _ => .okk (Nat.le_refl _) fun h => by unfold noneN; rw [H.cur s h]) fun _ => hK.expr s) fun x s1 h1 => ?_
  refine .ite (H.isT s1 _) (fun _ => Rr.Ag.le (lo := s1.i + 1) ?_ (Nat.le_succ _)) fun _ => .okk (Nat.le_refl _) fun _ => rfl
  refine .ite (H.isT (adv s1 1) _) (fun _ => .okk (Nat.le_refl _) fun h => by unfold noneN; rw [H.cur (adv s1 1) h]) fun _ => (hK.expr (adv s1 1)).bind fun y s2 h2 => ?_
  refine .ite (H.isT s2 _) (fun _ => ((hK.expr (adv s2 1)).bind fun z s3 h3 => .okk (Nat.le_refl _) fun _ => rfl).le (Nat.le_succ _)) fun _ => .okk (Nat.le_refl _) fun h => by unfold noneN; rw [H.cur s2 h]
theorem ag_index (a : Nd) (s : Rs) : (indexR E K a s).Ag i s.i (indexR E' K' a s) := by
  unfold indexR
  exact Rr.Ag.congr (ag_open H _ _ _ (indexM E' K') _ s fun a s => ag_index0 H hK a s) fun h => by rw [H.cur s h]
theorem ag_params (s : Rs) : (paramsR E K s).Ag i s.i (paramsR E' K' s) := by
  unfold paramsR
  rw [hK.fuel]
  exact Rr.Ag.congr (ag_open H _ _ _ (rowR E' _ (namePush E') K.fuel) _ s fun a s => ag_row H _ _ _ (fun a s => ag_namePush H a s) K.fuel a s) fun h => by rw [H.cur s h]
theorem ag_block (s : Rs) : (blockR E K s).Ag i s.i (blockR E' K' s) := by
  unfold blockR
  exact Rr.Ag.congr (ag_open H _ _ _ (fun _ s' => K'.stmts (cur E s).at_ s') _ s fun a s' => hK.stmts _ s') fun h => by rw [H.cur s h]
omit H hK in
theorem isT_text {s : Rs} {w : List UInt8} (h : isT E s w = true) : (cur E s).text = w := by
  simp only [isT, isW, Bool.and_eq_true, beq_iff_eq] at h
  exact h.2
omit H hK in
theorem named_kind {t : Tk} (h : namedB t = true) : t.kind = 2 := by
  simp only [namedB, Bool.and_eq_true, beq_iff_eq] at h
  exact h.1
omit H hK in
theorem named_isT {s : Rs} (h : namedB (cur E s) = true) (w : List UInt8) : isT E s w = false := by
  simp [isT, isW, named_kind h]
omit hK in
/-- Whether what stands here is one thing and the next one another; past the place i only if the first is so. -/
theorem ag_two {c : Tk → Bool} (s : Rs) (w : List UInt8) (hn : ¬(c (cur E s) = true ∧ i ≤ s.i)) (h : s.i ≤ i) : (c (cur E' s) && isW (nxt E' s) w) = (c (cur E s) && isW (nxt E s) w) := by
  rw [H.cur s h]
  cases hc : c (cur E s) with
  | false => rfl
  | true => rw [H.nxt s (by have : ¬ i ≤ s.i := fun e => hn ⟨hc, e⟩
                            omega)]
omit hK in
theorem ag_twoT {w' : List UInt8} (s : Rs) (w : List UInt8) (hn : ¬(isT E s w' = true ∧ i ≤ s.i)) (h : s.i ≤ i) : (isT E' s w' && isW (nxt E' s) w) = (isT E s w' && isW (nxt E s) w) :=
  ag_two H (c := fun t => isW t w') s w hn h
theorem ge_bracketed (s : Rs) (h : isT E s [110, 105, 108] = true ∨ isT E s [109, 97, 112] = true) : (bracketedR E K s).Ge (s.i + 1) := by
  have o1 : isT E s [40] = false := by rcases h with h | h <;> simp [isT, isW, isT_text h]
  have o2 : isT E s [91] = false := by rcases h with h | h <;> simp [isT, isW, isT_text h]
  have o3 : isT E s [102, 117, 110, 99] = false := by rcases h with h | h <;> simp [isT, isW, isT_text h]
  unfold bracketedR
  simp only [o1, o2, o3, Bool.false_eq_true, if_false]
  refine .ite (fun _ => ?_) fun hn => .ite (fun _ => Nat.le_refl _) fun hn2 => .ite (fun _ => ?_) fun hn3 => ?_
  · exact Rr.Ge.bind ((ag_typ1 H _ (adv s 2)).ge.le (by simp only [adv]; omega)) fun x s' h' => Rr.Ge.bind ((ag_want H _ s').ge.le h') fun _ _ h'' => h''
  · exact (ag_open H _ _ _ (rowR E' [125] (mapM E' K') K.fuel) _ (adv s 1) fun a s => ag_row H _ _ _ (fun a s => ag_map H hK a s) K.fuel a s).ge
  · exfalso
    simp only [Bool.or_eq_true, not_or] at hn2
    rcases h with h | h
    · exact hn2.2.2.1 h
    · exact hn3 h
theorem ag_bracketed (s : Rs) : (bracketedR E K s).Ag i s.i (bracketedR E' K' s) := by
  by_cases hp : (isT E s [110, 105, 108] = true ∨ isT E s [109, 97, 112] = true) ∧ i ≤ s.i
  · exact (ge_bracketed H hK s hp.1).ag (by omega) (by omega)
  have hp1 : ¬(isT E s [110, 105, 108] = true ∧ i ≤ s.i) := fun e => hp ⟨.inl e.1, e.2⟩
  have hp2 : ¬(isT E s [109, 97, 112] = true ∧ i ≤ s.i) := fun e => hp ⟨.inr e.1, e.2⟩
  unfold bracketedR
  rw [hK.fuel]
  refine .ite (H.isT s _) (fun _ => Rr.Ag.congr (ag_open H _ _ _ (fun _ s => K'.expr s) _ s fun _ s => hK.expr s) fun h => by rw [H.cur s h]) fun _ => ?_
  refine .ite (H.isT s _) (fun _ => Rr.Ag.congr (ag_open H _ _ _ (rowR E' [93] (exprPush K') K.fuel) _ s fun a s => ag_row H _ _ _ (fun a s => ag_exprPush hK a s) K.fuel a s) fun h => by rw [H.cur s h]) fun _ => ?_
  refine .ite (ag_twoT H s _ hp1) (fun _ => ?_) fun _ => ?_
  · refine Rr.Ag.le (lo := s.i + 2) ((ag_typ1 H _ (adv s 2)).bind fun x s1 h1 => (ag_want H _ s1).bind fun _ s2 h2 => .okk (Nat.le_refl _) fun h => by rw [H.cur s (by simp only [adv] at h1; omega)]) (by omega)
  refine .ite (fun h => by rw [H.isT s _ h, H.isT s _ h, H.isT s _ h, ag_twoT H s _ hp2 h]) (fun _ => .okk (Nat.le_succ _) fun h => by rw [H.cur s (Nat.le_of_succ_le h)]) fun _ => ?_
  refine .ite (H.isT s _) (fun _ => ?_) fun _ => ?_
  · refine Rr.Ag.le (lo := s.i + 1) ((ag_params H hK (adv s 1)).bind fun x s1 h1 => (ag_block H hK s1).bind fun _ s2 h2 => .okk (Nat.le_refl _) fun h => by rw [H.cur s (by simp only [adv] at h1; omega)]) (by omega)
  refine .ite (H.isT s _) (fun _ => ?_) fun _ => .badd (Nat.le_refl _)
  exact Rr.Ag.le (lo := s.i + 1) (Rr.Ag.congr (ag_open H _ _ _ (rowR E' [125] (mapM E' K') K.fuel) _ (adv s 1) fun a s => ag_row H _ _ _ (fun a s => ag_map H hK a s) K.fuel a s) fun h => by rw [H.cur s (by omega)]) (by omega)
omit H hK in
theorem name_named {s : Rs} (h : namedB (cur E s) = true) : nameR E s = .ok (.mk 14 (cur E s).str 0 (cur E s).at_ []) (adv s 1) := by rw [nameR, if_pos h]
theorem ge_prime (s : Rs) (h : namedB (cur E s) = true) : (primeR E K s).Ge (s.i + 1) := by
  have hk := named_kind h
  unfold primeR
  rw [name_named h]
  simp only [hk, Rr.bind]
  refine Rr.Ge.ite (fun e => absurd e (by decide)) fun _ => Rr.Ge.ite (fun e => absurd e (by decide)) fun _ => Rr.Ge.ite (fun e => absurd e (by decide)) fun _ => Rr.Ge.ite (fun _ => ?_) fun e => absurd rfl e
  exact .ite (fun _ => (ag_make H hK _ (adv s 1)).ge) fun _ => Nat.le_refl _
theorem ag_prime (s : Rs) : (primeR E K s).Ag i s.i (primeR E' K' s) := by
  have hk : ∀ k : Int, s.i ≤ i → ((cur E' s).kind == k) = ((cur E s).kind == k) := fun k h => by rw [H.cur s h]
  have hx : ∀ k : Int, (adv s 1).i ≤ i → Nd.mk k (cur E' s).str 0 (cur E' s).at_ [] = .mk k (cur E s).str 0 (cur E s).at_ [] := fun k h => by rw [H.cur s (Nat.le_of_succ_le h)]
  unfold primeR
  refine .ite (hk 4) (fun _ => .okk (Nat.le_succ _) (hx 35)) fun _ => .ite (hk 5) (fun _ => .okk (Nat.le_succ _) (hx 36)) fun _ => .ite (hk 6) (fun _ => .okk (Nat.le_succ _) (hx 37)) fun _ => ?_
  refine .ite (hk 2) (fun _ => (ag_name H s).bind fun x s1 _ => ?_) fun _ => ag_bracketed H hK s
  exact .ite (fun h => by rw [H.isT s1 _ h]) (fun _ => ag_make H hK x s1) fun _ => .okk (Nat.le_refl _) fun _ => rfl
theorem ag_postL : ∀ f a (s : Rs), (postL E K f a s).Ag i s.i (postL E' K' f a s)
  | 0, _, _ => trivial
  | f + 1, a, s => by
    have ih := ag_postL f
    have d1 : ∀ a', Rr.Ag i (s.i + 1) ((nameR E (adv s 1)).bind fun x s' => postL E K f (.mk 45 x.text 0 a' [a]) s') ((nameR E' (adv s 1)).bind fun x s' => postL E' K' f (.mk 45 x.text 0 a' [a]) s') := fun a' => (ag_name H (adv s 1)).bind fun x s1 _ => ih _ s1
    have d2 : ∀ a', Rr.Ag i (s.i + 2) (if s.typ && isT E (adv s 2) [116, 121, 112, 101] then (wantR E [41] (adv s 3)).bind fun _ s' => .ok a { s' with done := true } else
      (typ1R E [[109, 97, 112], [102, 117, 110, 99], [97, 110, 121]] (adv s 2)).bind fun x s' => (wantR E [41] s').bind fun _ s' => postL E K f (.mk 49 (bs []) 0 a' [a, x]) s')
      (if s.typ && isT E' (adv s 2) [116, 121, 112, 101] then (wantR E' [41] (adv s 3)).bind fun _ s' => .ok a { s' with done := true } else
      (typ1R E' [[109, 97, 112], [102, 117, 110, 99], [97, 110, 121]] (adv s 2)).bind fun x s' => (wantR E' [41] s').bind fun _ s' => postL E' K' f (.mk 49 (bs []) 0 a' [a, x]) s') := fun a' =>
      .ite (fun h => by rw [H.isT (adv s 2) _ h]) (fun _ => Rr.Ag.le (lo := s.i + 3) ((ag_want H _ (adv s 3)).bind fun _ s1 _ => .okk (Nat.le_refl _) fun _ => rfl) (by omega)) fun _ =>
        (ag_typ1 H _ (adv s 2)).bind fun x s1 _ => (ag_want H _ s1).bind fun _ s2 _ => ih _ s2
    unfold postL
    refine .ite (H.isT s _) (fun _ => (ag_index H hK a s).bind fun x s1 _ => ih x s1) fun _ => ?_
    refine .ite (H.isT s _) (fun _ => ?_) fun _ => ?_
    · rw [hK.fuel]
      exact Rr.Ag.bind (lo := s.i) (Rr.Ag.congr (ag_open H _ _ _ (rowR E' [41] (exprPush K') K.fuel) _ s fun a s => ag_row H _ _ _ (fun a s => ag_exprPush hK a s) K.fuel a s) fun h => by rw [H.cur s h]) fun x s1 _ => ih x s1
    by_cases hp : isT E s [46] = true ∧ i ≤ s.i
    · refine Rr.Ge.ag (lo' := s.i + 1) ?_ (by omega) (by omega)
      refine .ite (fun _ => (d2 _).ge.le (by omega)) fun _ => .ite (fun _ => (d1 _).ge) fun h => absurd hp.1 h
    · refine .ite (ag_twoT H s _ hp) (fun _ => (Rr.Ag.congr (d2 _) fun h => by rw [H.cur s (by omega)]).le (by omega)) fun _ => ?_
      exact .ite (H.isT s _) (fun _ => (Rr.Ag.congr (d1 _) fun h => by rw [H.cur s (by omega)]).le (by omega)) fun _ => .okk (Nat.le_refl _) fun _ => rfl
theorem ag_post (s : Rs) : (postR E K s).Ag i s.i (postR E' K' s) := by
  unfold postR
  rw [hK.fuel]
  exact (ag_prime H hK s).bind fun a s1 _ => ag_postL H hK K.fuel a s1
theorem ge_post (s : Rs) (h : namedB (cur E s) = true) : (postR E K s).Ge (s.i + 1) :=
  (ge_prime H hK s h).bind fun a s1 h1 => (ag_postL H hK K.fuel a s1).ge.le h1
theorem ag_unary (s : Rs) : (unaryR E K s).Ag i s.i (unaryR E' K' s) := by
  unfold unaryR
  refine .ite (fun h => by rw [H.cur s h]) (fun _ => ?_) fun _ => ag_post H hK s
  refine .ite (fun h => by rw [H.cur s h]) (fun _ => ?_) fun _ => .ite (fun h => by rw [H.cur s h]) (fun _ => ?_) fun _ => ag_post H hK s
  · exact Rr.Ag.le (lo := s.i + 1) ((hK.unary { adv s 1 with typ := false }).bind fun x s1 h1 => .okk (Nat.le_refl _) fun h => by rw [H.cur s (by simp only [adv] at h1; omega)]) (by omega)
  · exact Rr.Ag.le (lo := s.i + 1) ((ag_name H (adv s 1)).bind fun x s1 h1 => (ag_make H hK x s1).bind fun y s2 h2 => .okk (Nat.le_refl _) fun h => by rw [H.cur s (by simp only [adv] at h1; omega)]) (by omega)
theorem ge_unary (s : Rs) (h : namedB (cur E s) = true) : (unaryR E K s).Ge (s.i + 1) := by
  unfold unaryR
  rw [named_kind h]
  exact ge_post H hK s h
omit hK in
theorem ag_signs (next next' : Rs → Rr Nd) (ws : List (List UInt8)) (hn : ∀ s : Rs, (next s).Ag i s.i (next' s)) : ∀ f a (s : Rs), (signsR E next ws f a s).Ag i s.i (signsR E' next' ws f a s)
  | 0, _, _ => trivial
  | f + 1, a, s => by
    unfold signsR
    refine .ite (fun _ => rfl) (fun _ => .okk (Nat.le_refl _) fun _ => rfl) fun _ => ?_
    have hf : s.i ≤ i → ws.find? (isT E' s) = ws.find? (isT E s) := fun h => by rw [show isT E' s = isT E s from funext fun w => H.isT s w h]
    cases hw : ws.find? (isT E s) with
    | none => exact Rr.Ag.congr (r' := .ok a s) (.okk (Nat.le_refl _) fun _ => rfl) fun h => by rw [hf h, hw]
    | some w =>
      refine Rr.Ag.le (lo := s.i) (Rr.Ag.congr (r' := (next' { adv s 1 with typ := false }).bind fun x s' => signsR E' next' ws f (.mk 51 (bs w) 0 (cur E s).at_ [a, x]) s') ?_ fun h => by rw [hf h, hw, H.cur s h]) (Nat.le_refl _)
      exact Rr.Ag.le (lo := s.i + 1) ((hn { adv s 1 with typ := false }).bind fun x s1 _ => ag_signs next next' ws hn f _ s1) (by omega)
theorem ag_level : ∀ (l : List (List (List UInt8))) (s : Rs), (levelR E K l s).Ag i s.i (levelR E' K' l s)
  | [], s => hK.unary s
  | ws :: l, s => by
    unfold levelR
    rw [hK.fuel]
    exact (ag_level l s).bind fun a s1 _ => ag_signs H _ _ ws (ag_level l) K.fuel a s1
theorem ge_level : ∀ (l : List (List (List UInt8))) (s : Rs), namedB (cur E s) = true → (levelR E K l s).Ge (s.i + 1)
  | [], s, h => hK.unaryN s h
  | ws :: l, s, h => by
    unfold levelR
    exact (ge_level l s h).bind fun a s1 h1 => (ag_signs H _ _ ws (ag_level H hK l) K.fuel a s1).ge.le h1
theorem ag_twoR (s : Rs) : (twoR E K s).Ag i s.i (twoR E' K' s) := by
  unfold twoR
  refine (ag_name H s).bind fun x s1 h1 => (ag_want H _ s1).bind fun _ s2 h2 => (ag_name H s2).bind fun y s3 h3 => ?_
  refine Rr.Ag.bind (lo := s3.i) (.ite (H.isT s3 _) (fun _ => .okk (Nat.le_succ _) fun _ => rfl) fun _ => (ag_want H _ s3).bind fun _ s4 _ => .okk (Nat.le_refl _) fun _ => rfl) fun k s4 h4 => ?_
  exact (ag_post H hK s4).bind fun e s5 h5 => .ite (fun _ => rfl) (fun _ => .okk (Nat.le_refl _) fun h => by rw [H.cur s (by omega)]) fun _ => .badd (Nat.le_refl _)
theorem ge_twoR (s : Rs) (h : namedB (cur E s) = true) : (twoR E K s).Ge (s.i + 1) := by
  unfold twoR
  rw [name_named h]
  have h0 : Rr.Ag (α := Nd) i (s.i + 1) ((wantR E [44] (adv s 1)).bind fun _ s' => (nameR E s').bind fun y s' =>
    (if isT E s' [58, 61] then .ok (19 : Int) (adv s' 1) else (wantR E [61] s').bind fun _ s' => .ok 21 s').bind fun k s' =>
    (postR E K s').bind fun e s' => if e.kind == 46 || e.kind == 49 then .ok (.mk k (bs []) 0 (cur E s).at_ [.mk 14 (cur E s).str 0 (cur E s).at_ [], y, e]) s' else .bad s'.i)
    ((wantR E' [44] (adv s 1)).bind fun _ s' => (nameR E' s').bind fun y s' =>
    (if isT E' s' [58, 61] then .ok (19 : Int) (adv s' 1) else (wantR E' [61] s').bind fun _ s' => .ok 21 s').bind fun k s' =>
    (postR E' K' s').bind fun e s' => if e.kind == 46 || e.kind == 49 then .ok (.mk k (bs []) 0 (cur E s).at_ [.mk 14 (cur E s).str 0 (cur E s).at_ [], y, e]) s' else .bad s'.i) := by
    refine (ag_want H _ (adv s 1)).bind fun _ s2 h2 => (ag_name H s2).bind fun y s3 h3 => ?_
    refine Rr.Ag.bind (lo := s3.i) (.ite (H.isT s3 _) (fun _ => .okk (Nat.le_succ _) fun _ => rfl) fun _ => (ag_want H _ s3).bind fun _ s4 _ => .okk (Nat.le_refl _) fun _ => rfl) fun k s4 h4 => ?_
    exact (ag_post H hK s4).bind fun e s5 h5 => .ite (fun _ => rfl) (fun _ => .okk (Nat.le_refl _) fun _ => rfl) fun _ => .badd (Nat.le_refl _)
  exact h0.ge
theorem ag_simple (s : Rs) : (simpleR E K s).Ag i s.i (simpleR E' K' s) := by
  unfold simpleR
  refine Rr.Ag.bind (lo := s.i) (.ite (H.isT s _) (fun _ => hK.unary s) fun _ => ag_post H hK s) fun e s1 h1 => ?_
  have hc : ∀ {k : Nd}, s1.i ≤ i → True := fun _ => trivial
  refine .ite (fun _ => rfl) (fun _ => .okk (Nat.le_refl _) fun h => by rw [H.cur s (by omega)]) fun _ => ?_
  refine .ite (fun h => by rw [H.cur s1 h]) (fun _ => .badd (Nat.le_refl _)) fun _ => ?_
  refine .ite (fun h => by rw [H.cur s1 h]) (fun _ => .okk (Nat.le_succ _) fun h => by rw [H.cur s1 (Nat.le_of_succ_le h), H.cur s (by simp only [adv] at h; omega)]) fun _ => ?_
  refine .ite (fun h => by rw [H.cur s1 h]) (fun _ => ?_) fun _ => .badd (Nat.le_refl _)
  exact Rr.Ag.le (lo := s1.i + 1) ((hK.expr (adv s1 1)).bind fun v s2 h2 => .okk (Nat.le_refl _) fun h => by rw [H.cur s1 (by simp only [adv] at h2; omega), H.cur s (by simp only [adv] at h2; omega)]) (by omega)
theorem ge_simple (s : Rs) (h : namedB (cur E s) = true) : (simpleR E K s).Ge (s.i + 1) := by
  unfold simpleR
  rw [named_isT h]
  refine (ge_post H hK s h).bind fun e s1 h1 => ?_
  refine .ite (fun _ => h1) fun _ => .ite (fun _ => h1) fun _ => .ite (fun _ => Nat.le_succ_of_le h1) fun _ => .ite (fun _ => ?_) fun _ => h1
  have := ((hK.expr (adv s1 1)).bind (k := fun v s2 => .ok (Nd.mk 20 (cur E s1).str 0 (cur E s).at_ [e, v]) s2) (k' := fun v s2 => .ok (Nd.mk 20 (cur E s1).str 0 (cur E s).at_ [e, v]) s2) fun v s2 h2 => .okk (Nat.le_refl _) fun _ => rfl).ge
  exact this.le (by simp only [adv]; omega)
omit H hK in
theorem ag_within (form form' : Rs → Rr Nd) (typ : Bool) (s : Rs) {lo : Nat} (hf : ∀ s' : Rs, s'.i = s.i → (form s').Ag i lo (form' s')) : (withinR form typ s).Ag i lo (withinR form' typ s) :=
  (hf { s with head := true, typ := typ, done := false } rfl).bind fun _ _ _ => .okk (Nat.le_refl _) fun _ => rfl
omit H hK in
theorem ge_within (form : Rs → Rr Nd) (typ : Bool) (s : Rs) {lo : Nat} (hf : ∀ s' : Rs, s'.i = s.i → (form s').Ge lo) : (withinR form typ s).Ge lo :=
  (hf { s with head := true, typ := typ, done := false } rfl).bind fun _ _ h => h
omit H in
theorem ag_inHead (s : Rs) : (inHeadR K s).Ag i s.i (inHeadR K' s) :=
  (ag_within K.expr K'.expr false s fun s' h => by rw [← h]; exact hK.expr s').bind fun _ _ _ => .okk (Nat.le_refl _) fun _ => rfl
omit H in
theorem ge_inHead (s : Rs) (h : namedB (cur E s) = true) : (inHeadR K s).Ge (s.i + 1) :=
  (ge_within K.expr false s fun s' e => by rw [← e]; exact hK.exprN s' (by unfold cur; rw [e]; exact h)).bind fun _ _ h => h
theorem ag_branch (s : Rs) : (branchR E K s).Ag i s.i (branchR E' K' s) := by
  unfold branchR
  refine (ag_want H _ s).bind fun t s1 h1 => (ag_inHead hK s1).bind fun x s2 h2 => (ag_block H hK s2).bind fun y s3 h3 => ?_
  refine .ite (H.isT s3 _) (fun _ => ?_) fun _ => .okk (Nat.le_refl _) fun h => by unfold noneN; rw [H.cur s3 h]
  exact Rr.Ag.le (lo := s3.i + 1) (Rr.Ag.bind (lo := s3.i + 1) (.ite (H.isT (adv s3 1) _) (fun _ => hK.branch (adv s3 1)) fun _ => ag_block H hK (adv s3 1)) fun z s4 _ => .okk (Nat.le_refl _) fun _ => rfl) (by omega)
omit hK in
theorem ag_item (s : Rs) : (itemR E s).Ag i s.i (itemR E' s) := by
  unfold itemR
  exact .ite (fun h => by rw [H.cur s h]) (fun _ => .okk (Nat.le_succ _) fun h => by rw [H.cur s (Nat.le_of_succ_le h)]) fun _ => ag_name H s
omit hK in
theorem ag_more (part part' : Rs → Rr Nd) (hp : ∀ s : Rs, (part s).Ag i s.i (part' s)) : ∀ f a (s : Rs), (moreL E part f a s).Ag i s.i (moreL E' part' f a s)
  | 0, _, _ => trivial
  | f + 1, a, s => by
    unfold moreL
    refine .ite (H.isT s _) (fun _ => Rr.Ag.le (lo := s.i + 1) ?_ (by omega)) fun _ => .okk (Nat.le_refl _) fun _ => rfl
    exact .ite (H.isT (adv s 1) _) (fun _ => .okk (Nat.le_refl _) fun _ => rfl) fun _ => (hp (adv s 1)).bind fun x s1 _ => ag_more part part' hp f _ s1
theorem ag_cased (part part' : Rs → Rr Nd) (hp : ∀ s : Rs, (part s).Ag i s.i (part' s)) (s : Rs) : (casedR E K part s).Ag i s.i (casedR E' K' part' s) := by
  unfold casedR
  rw [hK.fuel]
  refine Rr.Ag.bind (lo := s.i) (.ite (H.isT s _) (fun _ => ?_) fun _ => ?_) fun p s1 h1 => (hK.stmts p.2 s1).bind fun b s2 h2 => .okk (Nat.le_refl _) fun h => by rw [H.cur s (by omega)]
  · exact Rr.Ag.le (lo := s.i + 1) ((ag_want H _ (adv s 1)).bind fun t s1 h1 => .okk (Nat.le_refl _) fun h => by unfold noneN; rw [H.cur (adv s 1) (by omega)]) (by omega)
  · refine (ag_want H _ s).bind fun _ s1 h1 => (hp s1).bind fun x s2 h2 => ?_
    refine Rr.Ag.bind (lo := s2.i) (Rr.Ag.congr (ag_more H part part' hp K.fuel _ s2) fun h => by rw [H.cur s1 (by omega)]) fun l s3 h3 => (ag_want H _ s3).bind fun _ s4 _ => .okk (Nat.le_refl _) fun _ => rfl
omit hK H in
theorem ag_cases {H : Agree E E' i} (cased cased' : Rs → Rr Nd) (hp : ∀ s : Rs, (cased s).Ag i s.i (cased' s)) : ∀ f a (s : Rs), (casesL E cased f a s).Ag i s.i (casesL E' cased' f a s)
  | 0, _, _ => trivial
  | f + 1, a, s => by
    unfold casesL
    exact .ite (H.isT s _) (fun _ => .okk (Nat.le_refl _) fun _ => rfl) fun _ => (hp s).bind fun x s1 _ => ag_cases (H := H) cased cased' hp f _ s1
theorem ag_body (a : Nd) (s : Rs) : (openR E [123] [125] (fun a s => casesL E (casedR E K (if a.kind == 26 then typ1R E [[109, 97, 112], [102, 117, 110, 99], [97, 110, 121], [110, 105, 108]] else K.expr)) K.fuel a (endsS E s)) a s).Ag i s.i
    (openR E' [123] [125] (fun a s => casesL E' (casedR E' K' (if a.kind == 26 then typ1R E' [[109, 97, 112], [102, 117, 110, 99], [97, 110, 121], [110, 105, 108]] else K'.expr)) K'.fuel a (endsS E' s)) a s) := by
  rw [hK.fuel]
  refine ag_open H _ _ _ _ _ s fun a s => ag_ends H (F := casesL E (casedR E K (if a.kind == 26 then typ1R E [[109, 97, 112], [102, 117, 110, 99], [97, 110, 121], [110, 105, 108]] else K.expr)) K.fuel a) (F' := casesL E' (casedR E' K' (if a.kind == 26 then typ1R E' [[109, 97, 112], [102, 117, 110, 99], [97, 110, 121], [110, 105, 108]] else K'.expr)) K.fuel a) s ?_
  refine ag_cases (H := H) _ _ (fun s => ag_cased H hK _ _ (fun s => ?_) s) K.fuel a _
  split
  · exact ag_typ1 H _ s
  · exact hK.expr s
theorem ag_choice (label label' : List UInt8) (at_ at' : Int) (s : Rs) (hl : s.i ≤ i → label' = label ∧ at' = at_) : (choiceR E K label at_ s).Ag i s.i (choiceR E' K' label' at' s) := by
  have c1 : Rr.Ag (α := Nd) i s.i ((nameR E s).bind fun v s => (wantR E [58, 61] s).bind fun _ s => (withinR (postR E K) true s).bind fun e s => if e.2 then .ok (.mk 26 (bs label) 0 at_ [v, e.1]) s else .bad s.i)
      ((nameR E' s).bind fun v s => (wantR E' [58, 61] s).bind fun _ s => (withinR (postR E' K') true s).bind fun e s => if e.2 then .ok (.mk 26 (bs label) 0 at_ [v, e.1]) s else .bad s.i) :=
    (ag_name H s).bind fun v s1 _ => (ag_want H _ s1).bind fun _ s2 _ => (ag_within (postR E K) (postR E' K') true s2 fun s' h => by rw [← h]; exact ag_post H hK s').bind fun e s3 _ => .ite (fun _ => rfl) (fun _ => .okk (Nat.le_refl _) fun _ => rfl) fun _ => .badd (Nat.le_refl _)
  have c2 : ∀ x, Rr.Ag (α := Nd) i s.i ((withinR K.expr true s).bind fun e s' => if e.2 then .ok (.mk 26 (bs label) 0 at_ [x, e.1]) s' else .ok (.mk 25 (bs label) 0 at_ [e.1]) s')
      ((withinR K'.expr true s).bind fun e s' => if e.2 then .ok (.mk 26 (bs label) 0 at_ [x, e.1]) s' else .ok (.mk 25 (bs label) 0 at_ [e.1]) s') := fun x =>
    (ag_within K.expr K'.expr true s fun s' h => by rw [← h]; exact hK.expr s').bind fun e s3 _ => .ite (fun _ => rfl) (fun _ => .okk (Nat.le_refl _) fun _ => rfl) fun _ => .okk (Nat.le_refl _) fun _ => rfl
  refine Rr.Ag.congr (r' := choiceR E' K' label at_ s) ?_ fun h => by rw [(hl h).1, (hl h).2]
  unfold choiceR
  refine Rr.Ag.bind (lo := s.i) ?_ fun a s1 _ => ag_body H hK a s1
  by_cases hp : namedB (cur E s) = true ∧ i ≤ s.i
  · refine Rr.Ge.ag (lo' := s.i + 1) ?_ (by omega) (by omega)
    rw [named_isT hp.1, name_named hp.1]
    refine .ite (fun _ => ?_) fun _ => ?_
    · have := ((ag_want H [58, 61] (adv s 1)).bind (k := fun _ s2 => (withinR (postR E K) true s2).bind fun e s => if e.2 then .ok (Nd.mk 26 (bs label) 0 at_ [.mk 14 (cur E s2).str 0 0 [], e.1]) s else .bad s.i) (k' := fun _ s2 => (withinR (postR E' K') true s2).bind fun e s => if e.2 then .ok (Nd.mk 26 (bs label) 0 at_ [.mk 14 (cur E s2).str 0 0 [], e.1]) s else .bad s.i) fun _ s2 _ => (ag_within (postR E K) (postR E' K') true s2 fun s' h => by rw [← h]; exact ag_post H hK s').bind fun e s3 _ => .ite (fun _ => rfl) (fun _ => .okk (Nat.le_refl _) fun _ => rfl) fun _ => .badd (Nat.le_refl _)).ge
      refine Rr.Ge.bind (r := wantR E [58, 61] (adv s 1)) (ag_want H [58, 61] (adv s 1)).ge fun _ s2 h2 => ?_
      refine (ge_within (postR E K) true s2 (lo := s2.i) fun s' h => by rw [← h]; exact (ag_post H hK s').ge).le h2 |>.bind fun e s3 h3 => ?_
      exact .ite (fun _ => h3) fun _ => h3
    · refine (ge_within K.expr true s fun s' e => by rw [← e]; exact hK.exprN s' (by unfold cur; rw [e]; exact hp.1)).bind fun e s3 h3 => ?_
      exact .ite (fun _ => h3) fun _ => h3
  · refine .ite (ag_two H (c := namedB) s _ hp) (fun _ => c1) fun _ => ?_
    exact .ite (H.isT s _) (fun _ => .okk (Nat.le_refl _) fun h => by unfold noneN; rw [H.cur s h]) fun _ => Rr.Ag.congr (c2 _) fun h => by unfold noneN; rw [H.cur s h]
theorem ag_labelled (label label' : List UInt8) (at_ at' : Int) (s : Rs) (hl : s.i ≤ i → label' = label ∧ at' = at_) : (labelledR E K label at_ s).Ag i s.i (labelledR E' K' label' at' s) := by
  refine Rr.Ag.congr (r' := labelledR E' K' label at_ s) ?_ fun h => by rw [(hl h).1, (hl h).2]
  unfold labelledR
  refine .ite (H.isT s _) (fun _ => (ag_choice H hK label label at_ at_ (adv s 1) fun _ => ⟨rfl, rfl⟩).le (Nat.le_succ _)) fun _ => (ag_want H _ s).bind fun _ s1 _ => ?_
  by_cases hp : namedB (cur E s1) = true ∧ i ≤ s1.i
  · have hk := named_kind hp.1
    refine Rr.Ge.ag (lo' := s1.i + 1) ?_ (by omega) (by omega)
    have hi : (itemR E s1) = .ok (.mk 14 (cur E s1).str 0 (cur E s1).at_ []) (adv s1 1) := by
      have ht : ((cur E s1).text == [95]) = false := by
        have := hp.1
        simp only [namedB, Bool.and_eq_true, Bool.not_eq_true'] at this
        exact this.2
      unfold itemR
      rw [ht, Bool.and_false]
      exact name_named hp.1
    rw [named_isT hp.1, hi]
    simp only [Rr.bind_ok]
    refine .ite (fun _ => ?_) fun _ => ?_
    · refine Rr.Ge.bind (lo := s1.i + 1) (.ite (fun _ => (ag_item H (adv (adv s1 1) 1)).ge.le (by simp only [adv]; omega)) fun _ => Nat.le_refl _) fun y s3 h3 => ?_
      refine Rr.Ge.bind ((ag_want H _ s3).ge.le h3) fun _ s4 h4 => Rr.Ge.bind ((ag_inHead hK s4).ge.le h4) fun _ s5 h5 => Rr.Ge.bind ((ag_block H hK s5).ge.le h5) fun _ s6 h6 => h6
    · exact Rr.Ge.bind (ge_inHead hK s1 hp.1) fun c s2 h2 => Rr.Ge.bind ((ag_block H hK s2).ge.le h2) fun _ s6 h6 => h6
  · have hc : s1.i ≤ i → ((cur E' s1).kind == 2 && ((cur E' s1).text == [95] || (isW (nxt E' s1) [44] || isW (nxt E' s1) [105, 110]))) = ((cur E s1).kind == 2 && ((cur E s1).text == [95] || (isW (nxt E s1) [44] || isW (nxt E s1) [105, 110]))) := fun h => by
      rw [H.cur s1 h]
      cases hk : ((cur E s1).kind == 2) with
      | false => rfl
      | true =>
        cases ht : ((cur E s1).text == [95]) with
        | true => rfl
        | false =>
          have hnm : namedB (cur E s1) = true := by simp [namedB, hk, ht]
          rw [H.nxt s1 (by have : ¬ i ≤ s1.i := fun e => hp ⟨hnm, e⟩
                           omega)]
    refine .ite hc (fun _ => ?_) fun _ => ?_
    · refine (ag_item H s1).bind fun x s2 _ => Rr.Ag.bind (lo := s2.i) (.ite (H.isT s2 _) (fun _ => (ag_item H (adv s2 1)).le (Nat.le_succ _)) fun _ => .okk (Nat.le_refl _) fun h => by unfold noneN; rw [H.cur s2 h]) fun y s3 _ => ?_
      exact (ag_want H _ s3).bind fun _ s4 _ => (ag_inHead hK s4).bind fun _ s5 _ => (ag_block H hK s5).bind fun _ s6 _ => .okk (Nat.le_refl _) fun _ => rfl
    · refine Rr.Ag.bind (lo := s1.i) (.ite (H.isT s1 _) (fun _ => .okk (Nat.le_refl _) fun h => by unfold noneN; rw [H.cur s1 h]) fun _ => ag_inHead hK s1) fun c s2 _ => ?_
      exact (ag_block H hK s2).bind fun _ s6 _ => .okk (Nat.le_refl _) fun _ => rfl
omit hK in
theorem ag_leave (k a a' : Int) (s : Rs) (ha : s.i ≤ i → a' = a) : (leaveR E k a s).Ag i s.i (leaveR E' k a' s) := by
  refine Rr.Ag.congr (r' := leaveR E' k a s) ?_ fun h => by rw [ha h]
  unfold leaveR
  exact .ite (fun h => by rw [H.cur s h]) (fun _ => .okk (Nat.le_succ _) fun h => by rw [H.cur s (Nat.le_of_succ_le h)]) fun _ => .okk (Nat.le_refl _) fun _ => rfl
omit hK in
theorem ag_stops (s : Rs) (h : s.i ≤ i) : stopsB E' s = stopsB E s := by
  have h1 := H.lt
  have h2 := H.lt'
  unfold stopsB
  rw [H.isT s _ h, H.isT s _ h, H.isT s _ h, decide_eq_false (by omega : ¬ E'.n ≤ s.i), decide_eq_false (by omega : ¬ E.n ≤ s.i)]
theorem ag_return (t t' : Tk) (s : Rs) (ht : s.i ≤ i → t' = t) : (returnR E K t s).Ag i s.i (returnR E' K' t' s) := by
  refine Rr.Ag.congr (r' := returnR E' K' t s) ?_ fun h => by rw [ht h]
  unfold returnR
  exact .ite (fun h => by rw [H.cur s h, ag_stops H s h]) (fun _ => .okk (Nat.le_refl _) fun h => by unfold noneN; rw [H.cur s h]) fun _ => (hK.expr s).bind fun _ _ _ => .okk (Nat.le_refl _) fun _ => rfl
theorem ge_stmt (s : Rs) (h : namedB (cur E s) = true) : (stmtR E K s).Ge (s.i + 1) := by
  unfold stmtR
  simp only [named_isT h, Bool.false_or, Bool.false_eq_true, if_false]
  refine .ite (fun _ => ?_) fun _ => .ite (fun _ => ge_twoR H hK s h) fun _ => .ite (fun _ => ?_) fun _ => ge_simple H hK s h
  · exact Rr.Ge.bind ((hK.expr (adv s 2)).ge.le (by simp only [adv]; omega)) fun _ _ h => h
  · exact .ite (fun _ => (ag_labelled H hK _ _ _ _ (adv s 2) fun _ => ⟨rfl, rfl⟩).ge.le (by simp only [adv]; omega)) fun _ => (by show s.i + 1 ≤ s.i + 2; omega)
theorem ag_stmt (s : Rs) : (stmtR E K s).Ag i s.i (stmtR E' K' s) := by
  by_cases hp : namedB (cur E s) = true ∧ i ≤ s.i
  · exact (ge_stmt H hK s hp.1).ag (by omega) (by omega)
  have h2 := fun w => ag_two H (c := namedB) s w hp
  unfold stmtR
  refine .ite (H.isT s _) (fun _ => ag_block H hK s) fun _ => ?_
  refine .ite (h2 _) (fun _ => Rr.Ag.le (lo := s.i + 2) ((hK.expr (adv s 2)).bind fun x s1 h1 => .okk (Nat.le_refl _) fun h => by rw [H.cur s (by simp only [adv] at h1; omega)]) (by omega)) fun _ => ?_
  refine .ite (h2 _) (fun _ => ag_twoR H hK s) fun _ => ?_
  refine .ite (h2 _) (fun _ => Rr.Ag.le (lo := s.i + 2) ?_ (by omega)) fun _ => ?_
  · exact .ite (fun h => by rw [H.isT (adv s 2) _ h, H.isT (adv s 2) _ h]) (fun _ => ag_labelled H hK _ _ _ _ (adv s 2) fun h => by rw [H.cur s (by simp only [adv] at h; omega)]; exact ⟨rfl, rfl⟩) fun _ => .badd (Nat.le_refl _)
  refine .ite (fun h => by rw [H.isT s _ h, H.isT s _ h]) (fun _ => ag_labelled H hK _ _ _ _ s fun h => by rw [H.cur s h]; exact ⟨rfl, rfl⟩) fun _ => ?_
  refine .ite (H.isT s _) (fun _ => hK.branch s) fun _ => ?_
  have c1 : ∀ h : s.i + 1 ≤ i, cur E' s = cur E s := fun h => H.cur s (by omega)
  refine .ite (H.isT s _) (fun _ => (ag_return H hK _ _ (adv s 1) c1).le (Nat.le_succ _)) fun _ => ?_
  refine .ite (H.isT s _) (fun _ => Rr.Ag.le (lo := s.i + 1) ((ag_post H hK (adv s 1)).bind fun x s1 h1 => .ite (fun _ => rfl) (fun _ => .okk (Nat.le_refl _) fun h => by rw [H.cur s (by simp only [adv] at h1; omega)]) fun _ => .badd (Nat.le_refl _)) (by omega)) fun _ => ?_
  refine .ite (H.isT s _) (fun _ => (ag_leave H _ _ _ (adv s 1) fun h => by rw [c1 h]).le (Nat.le_succ _)) fun _ => ?_
  refine .ite (H.isT s _) (fun _ => (ag_leave H _ _ _ (adv s 1) fun h => by rw [c1 h]).le (Nat.le_succ _)) fun _ => ?_
  exact .ite (H.isT s _) (fun _ => .okk (Nat.le_succ _) fun h => by rw [c1 h]) fun _ => ag_simple H hK s
omit hK in
theorem ag_stmtsL (stmt stmt' : Rs → Rr Nd) (hp : ∀ s : Rs, (stmt s).Ag i s.i (stmt' s)) : ∀ f a (s : Rs), (stmtsL E stmt f a s).Ag i s.i (stmtsL E' stmt' f a s)
  | 0, _, _ => trivial
  | f + 1, a, s => by
    unfold stmtsL
    refine .ite (ag_stops H s) (fun _ => .okk (Nat.le_refl _) fun _ => rfl) fun _ => (hp s).bind fun x s1 _ => ?_
    refine ag_ends H (F := fun s2 => if decide (s1.i < s2.i) || stopsB E s2 then stmtsL E stmt f (a.push x) s2 else .bad s2.i) (F' := fun s2 => if decide (s1.i < s2.i) || stopsB E' s2 then stmtsL E' stmt' f (a.push x) s2 else .bad s2.i) s1 ?_
    exact .ite (fun h => by rw [ag_stops H _ h]) (fun _ => ag_stmtsL stmt stmt' hp f _ _) fun _ => .badd (Nat.le_refl _)
theorem ag_stmts (a : Int) (s : Rs) : (stmtsR E K a s).Ag i s.i (stmtsR E' K' a s) := by
  unfold stmtsR
  rw [hK.fuel]
  exact ag_ends H (F := stmtsL E (stmtR E K) K.fuel (.mk 17 (bs []) 0 a [])) (F' := stmtsL E' (stmtR E' K') K.fuel (.mk 17 (bs []) 0 a [])) s (ag_stmtsL H _ _ (ag_stmt H hK) K.fuel _ _)
omit hK in
theorem ag_field (s : Rs) : (fieldR E s).Ag i s.i (fieldR E' s) := by
  unfold fieldR
  refine .ite (H.isT s _) (fun _ => ?_) fun _ => (ag_name H s).bind fun x s1 h1 => .okk (Nat.le_refl _) fun h => by rw [H.cur s (by omega)]
  refine Rr.Ag.le (lo := s.i + 1) (.ite (H.isT (adv s 1) _) (fun _ => Rr.Ag.le (lo := s.i + 2) ?_ (by omega)) fun _ => ?_) (by omega)
  · exact (ag_name H (adv s 2)).bind fun x s1 h1 => .okk (Nat.le_refl _) fun h => by rw [H.cur s (by simp only [adv] at h1; omega)]
  · exact (ag_name H (adv s 1)).bind fun x s1 h1 => .okk (Nat.le_refl _) fun h => by rw [H.cur s (by simp only [adv] at h1; omega)]
omit hK in
theorem ag_wish (s : Rs) : (wishR E s).Ag i s.i (wishR E' s) := by
  unfold wishR
  refine (ag_name H s).bind fun x s1 h1 => .ite (H.isT s1 _) (fun _ => Rr.Ag.le (lo := s1.i + 1) ?_ (by omega)) fun _ => .okk (Nat.le_refl _) fun h => by rw [H.cur s (by omega)]
  refine .ite (fun h => by rw [H.cur (adv s1 1) h]) (fun _ => Rr.Ag.le (lo := s1.i + 2) ?_ (by omega)) fun _ => .badd (Nat.le_refl _)
  exact (ag_want H _ (adv s1 2)).bind fun _ s2 h2 => .okk (Nat.le_refl _) fun h => by rw [H.cur s (by simp only [adv] at h2; omega), H.cur (adv s1 1) (by simp only [adv] at h2 ⊢; omega)]
omit hK in
theorem ag_itemsL (item item' : Rs → Rr Nd) (hp : ∀ s : Rs, (item s).Ag i s.i (item' s)) : ∀ f a (s : Rs), (itemsL E item f a s).Ag i s.i (itemsL E' item' f a s)
  | 0, _, _ => trivial
  | f + 1, a, s => by
    unfold itemsL
    refine .ite (H.isT s _) (fun _ => .okk (Nat.le_refl _) fun _ => rfl) fun _ => (hp s).bind fun x s1 _ => ?_
    refine ag_ends H (F := fun s2 => if decide (s1.i < s2.i) || isT E s2 [125] then itemsL E item f (a ++ [x]) s2 else .bad s2.i) (F' := fun s2 => if decide (s1.i < s2.i) || isT E' s2 [125] then itemsL E' item' f (a ++ [x]) s2 else .bad s2.i) s1 ?_
    exact .ite (fun h => by rw [H.isT _ _ h]) (fun _ => ag_itemsL item item' hp f _ _) fun _ => .badd (Nat.le_refl _)
theorem ag_items (item item' : Rs → Rr Nd) (hp : ∀ s : Rs, (item s).Ag i s.i (item' s)) (s : Rs) : (itemsR E K item s).Ag i s.i (itemsR E' K' item' s) := by
  unfold itemsR
  rw [hK.fuel]
  refine (ag_want H _ s).bind fun _ s1 _ => Rr.Ag.bind (lo := s1.i) (ag_ends H (F := itemsL E item K.fuel []) (F' := itemsL E' item' K.fuel []) s1 (ag_itemsL H item item' hp K.fuel _ _)) fun l s2 _ => ?_
  exact (ag_want H _ s2).bind fun _ s3 _ => .okk (Nat.le_refl _) fun _ => rfl
theorem ag_function (a a' : Int) (s : Rs) (ha : s.i ≤ i → a' = a) : (functionR E K a s).Ag i s.i (functionR E' K' a' s) := by
  refine Rr.Ag.congr (r' := functionR E' K' a s) ?_ fun h => by rw [ha h]
  unfold functionR
  refine .ite (H.isT s _) (fun _ => ?_) fun _ => (ag_name H s).bind fun x s1 _ => (ag_params H hK s1).bind fun p s2 _ => (ag_block H hK s2).bind fun b s3 _ => .okk (Nat.le_refl _) fun _ => rfl
  refine (ag_want H _ s).bind fun _ s1 _ => (ag_name H s1).bind fun me s2 _ => Rr.Ag.bind (lo := s2.i) (.ite (H.isT s2 _) (fun _ => Rr.Ag.le (lo := s2.i + 1) ?_ (by omega)) fun _ => ag_name H s2) fun k s3 _ => ?_
  · exact (ag_name H (adv s2 1)).bind fun x s3 h3 => .okk (Nat.le_refl _) fun h => by rw [H.cur s2 (by simp only [adv] at h3; omega)]
  · exact (ag_want H _ s3).bind fun _ s4 _ => (ag_name H s4).bind fun x s5 _ => (ag_params H hK s5).bind fun p s6 _ => (ag_block H hK s6).bind fun b s7 _ => .okk (Nat.le_refl _) fun _ => rfl
theorem ag_decl (s : Rs) : (declR E K s).Ag i s.i (declR E' K' s) := by
  have c1 : s.i + 1 ≤ i → cur E' s = cur E s := fun h => H.cur s (by omega)
  unfold declR
  refine .ite (H.isT s _) (fun _ => Rr.Ag.le (lo := s.i + 1) ?_ (by omega)) fun _ => ?_
  · refine (ag_name H (adv s 1)).bind fun x s1 h1 => .ite (H.isT s1 _) (fun _ => Rr.Ag.le (lo := s1.i + 1) ?_ (by omega)) fun _ => ?_
    · exact (ag_items H hK _ _ (ag_field H) (adv s1 1)).bind fun l s2 h2 => .okk (Nat.le_refl _) fun h => by rw [c1 (by simp only [adv] at h1 h2; omega)]
    · exact (ag_want H _ s1).bind fun _ s2 h2 => (ag_kind H _ s2).bind fun k s3 h3 => .okk (Nat.le_refl _) fun h => by rw [c1 (by simp only [adv] at h1; omega)]
  refine .ite (H.isT s _) (fun _ => Rr.Ag.le (lo := s.i + 1) ?_ (by omega)) fun _ => ?_
  · exact (ag_name H (adv s 1)).bind fun x s1 h1 => (ag_items H hK _ _ (ag_wish H) s1).bind fun l s2 h2 => .okk (Nat.le_refl _) fun h => by rw [c1 (by simp only [adv] at h1; omega)]
  refine .ite (H.isT s _) (fun _ => (ag_function H hK _ _ (adv s 1) fun h => by rw [c1 h]).le (Nat.le_succ _)) fun _ => ?_
  refine .ite (H.isT s _) (fun _ => Rr.Ag.le (lo := s.i + 1) ?_ (by omega)) fun _ => .badd (Nat.le_refl _)
  exact (ag_name H (adv s 1)).bind fun x s1 h1 => (ag_want H _ s1).bind fun _ s2 h2 => (hK.expr s2).bind fun e s3 h3 => .okk (Nat.le_refl _) fun h => by rw [c1 (by simp only [adv] at h1; omega)]
theorem ag_declsL : ∀ f a (s : Rs), (declsL E K f a s).Ag i s.i (declsL E' K' f a s)
  | 0, _, _ => trivial
  | f + 1, a, s => by
    have hl := H.lt
    have hl' := H.lt'
    unfold declsL
    refine .itep (fun h => by constructor <;> (intro _; omega)) (fun _ => .okk (Nat.le_refl _) fun _ => rfl) fun _ => (ag_decl H hK s).bind fun x s1 _ => ?_
    refine ag_ends H (F := fun s2 => if decide (s1.i < s2.i) || decide (E.n ≤ s2.i) then declsL E K f (a.push x) s2 else .bad s2.i) (F' := fun s2 => if decide (s1.i < s2.i) || decide (E'.n ≤ s2.i) then declsL E' K' f (a.push x) s2 else .bad s2.i) s1 ?_
    exact .ite (fun h => by rw [decide_eq_false (by omega : ¬ E'.n ≤ (endsS E s1).i), decide_eq_false (by omega : ¬ E.n ≤ (endsS E s1).i)]) (fun _ => ag_declsL f _ _) fun _ => .badd (Nat.le_refl _)
theorem ag_program (s : Rs) : (programR E K s).Ag i s.i (programR E' K' s) := by
  unfold programR
  rw [hK.fuel]
  refine Rr.Ag.congr (r' := declsL E' K' K.fuel (.mk 1 (bs []) 0 (cur E s).at_ []) (endsS E' s)) ?_ fun h => by rw [H.cur s h]
  exact ag_ends H (F := declsL E K K.fuel (.mk 1 (bs []) 0 (cur E s).at_ [])) (F' := declsL E' K' K.fuel (.mk 1 (bs []) 0 (cur E s).at_ [])) s (ag_declsL H hK K.fuel _ _)
theorem ag_exprForm (s : Rs) : (exprFormR E K s).Ag i s.i (exprFormR E' K' s) := by
  unfold exprFormR
  exact Rr.Ag.bind (lo := s.i) (ag_level H hK levels s) fun x s1 _ => ag_ends H (F := fun s2 => .ok x s2) (F' := fun s2 => .ok x s2) s1 (.okk (Nat.le_refl _) fun _ => rfl)
omit hK in
theorem kAg : ∀ m, KAg E E' i (kn E m) (kn E' m)
  | 0 => ⟨fun _ => trivial, fun _ => trivial, fun _ _ => trivial, fun _ => trivial, fun _ _ => trivial, fun _ _ => trivial, rfl⟩
  | m + 1 => by
    have ih := kAg m
    exact ⟨fun s => ag_level H ih levels s, fun s => ag_unary H ih s, fun a s => ag_stmts H ih a s, fun s => ag_branch H ih s, fun s h => ge_level H ih levels s h, fun s h => ge_unary H ih s h, rfl⟩
omit hK in
/-- A whole reading that gives up at the place i gives up there whatever follows. -/
theorem read_first {form form' : Rs → Rr Nd} (hf : (form ⟨0, false, false, false⟩).Ag i 0 (form' ⟨0, false, false, false⟩)) (h : readR E form = .bad i) : readR E' form' = .bad i := by
  unfold readR at h ⊢
  cases hr : form ⟨0, false, false, false⟩ with
  | ok x s =>
    rw [hr] at h hf
    simp only [Rr.bind] at h
    split at h
    · injection h with h
      have := hf.2 (by omega)
      rw [this]
      simp only [Rr.bind]
      rw [if_pos (by have := H.lt'; omega), h]
    · cases h
  | bad j =>
    rw [hr] at h hf
    simp only [Rr.bind] at h
    injection h with h
    subst h
    rw [hf.2 (Nat.le_refl _)]
    rfl
  | out =>
    rw [hr] at h
    cases h
end
end Go.Proofs.YtokhfhibdeneeaaGreatDoor
