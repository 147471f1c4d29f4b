/- The parser's plain functions: where the tokens' places are changed, the tree that is read is the same but for its places. -/
import Derived.Test.YtokhfhibdeneeaaGreatDoorMNd
namespace Go.Proofs.YtokhfhibdeneeaaGreatDoor

mutual
def Nd.mv (f : Int → Int) : Nd → Nd
  | .mk k s n a ks => .mk k s n (f a) (mvL f ks)
def mvL (f : Int → Int) : List Nd → List Nd
  | [] => []
  | x :: l => x.mv f :: mvL f l
end
def Rr.mv {α β : Type} (g : α → β) : Rr α → Rr β
  | .ok x s => .ok (g x) s
  | .bad i => .bad i
  | .out => .out
def Tk.mv (f : Int → Int) (t : Tk) : Tk := ⟨t.kind, t.text, f t.at_⟩
def Env.mv (f : Int → Int) (E : Env) : Env := ⟨fun j => (E.tok j).mv f, E.n⟩

section
variable {α β γ : Type} {f : Int → Int}
theorem mvL_map : ∀ l : List Nd, mvL f l = l.map (Nd.mv f)
  | [] => rfl
  | x :: l => by rw [mvL, mvL_map l]; rfl
@[simp] theorem mv_mk (k : Int) (s : ByteArray) (n a : Int) (ks : List Nd) : (Nd.mk k s n a ks).mv f = .mk k s n (f a) (ks.map (Nd.mv f)) := by rw [Nd.mv, mvL_map]
@[simp] theorem Rr.mv_ok (g : α → β) (x : α) (s : Rs) : (Rr.ok x s).mv g = .ok (g x) s := rfl
@[simp] theorem Rr.mv_bad (g : α → β) (i : Nat) : (Rr.bad i : Rr α).mv g = .bad i := rfl
@[simp] theorem Rr.mv_out (g : α → β) : (Rr.out : Rr α).mv g = .out := rfl
@[simp] theorem Rr.mv_bind (g : β → γ) (r : Rr α) (k : α → Rs → Rr β) : (r.bind k).mv g = r.bind fun x s => (k x s).mv g := by cases r <;> rfl
@[simp] theorem Rr.bind_mv (g : α → β) (r : Rr α) (k : β → Rs → Rr γ) : (r.mv g).bind k = r.bind fun x s => k (g x) s := by cases r <;> rfl
@[simp] theorem Rr.mv_ite (g : α → β) (c : Prop) [Decidable c] (r r' : Rr α) : (if c then r else r').mv g = if c then r.mv g else r'.mv g := by split <;> rfl
@[simp] theorem Rr.ok_bind (x : α) (s : Rs) (k : α → Rs → Rr β) : (Rr.ok x s).bind k = k x s := rfl
@[simp] theorem Rr.ite_bind (c : Prop) [Decidable c] (r r' : Rr α) (k : α → Rs → Rr β) : (if c then r else r').bind k = if c then r.bind k else r'.bind k := by split <;> rfl
@[simp] theorem Rr.bad_bind (i : Nat) (k : α → Rs → Rr β) : (Rr.bad i : Rr α).bind k = .bad i := rfl
@[simp] theorem Rr.bind_bind (r : Rr α) (k : α → Rs → Rr β) (k' : β → Rs → Rr γ) : (r.bind k).bind k' = r.bind fun x s => (k x s).bind k' := by cases r <;> rfl
@[simp] theorem mv_kind (x : Nd) : (x.mv f).kind = x.kind := by cases x; rw [mv_mk]; rfl
@[simp] theorem mv_text (x : Nd) : (x.mv f).text = x.text := by cases x; rw [mv_mk]; rfl
@[simp] theorem mv_at (x : Nd) : (x.mv f).at_ = f x.at_ := by cases x; rw [mv_mk]; rfl
@[simp] theorem mv_push (x y : Nd) : (x.push y).mv f = (x.mv f).push (y.mv f) := by cases x; simp [Nd.push]
@[simp] theorem mv_withKind (x : Nd) (k : Int) : (x.withKind k).mv f = (x.mv f).withKind k := by cases x; simp [Nd.withKind]
@[simp] theorem mv_withKids (x : Nd) (l : List Nd) : (x.withKids l).mv f = (x.mv f).withKids (l.map (Nd.mv f)) := by cases x; simp [Nd.withKids]
@[simp] theorem mv_placeB (x : Nd) : placeB (x.mv f) = placeB x := by simp [placeB]
end

section
variable {E : Env} {f : Int → Int}
@[simp] theorem mv_n : (E.mv f).n = E.n := rfl
@[simp] theorem mv_tok (j : Nat) : (E.mv f).tok j = (E.tok j).mv f := rfl
@[simp] theorem mv_tkind (t : Tk) : (t.mv f).kind = t.kind := rfl
@[simp] theorem mv_ttext (t : Tk) : (t.mv f).text = t.text := rfl
@[simp] theorem mv_tat (t : Tk) : (t.mv f).at_ = f t.at_ := rfl
@[simp] theorem mv_tstr (t : Tk) : (t.mv f).str = t.str := rfl
@[simp] theorem mv_isW (t : Tk) (w : List UInt8) : isW (t.mv f) w = isW t w := rfl
@[simp] theorem mv_namedB (t : Tk) : namedB (t.mv f) = namedB t := rfl
@[simp] theorem mv_cur (s : Rs) : cur (E.mv f) s = (cur E s).mv f := rfl
@[simp] theorem mv_nxt (s : Rs) : nxt (E.mv f) s = (nxt E s).mv f := rfl
@[simp] theorem mv_isT (s : Rs) (w : List UInt8) : isT (E.mv f) s w = isT E s w := rfl
@[simp] theorem mv_isTf (s : Rs) : isT (E.mv f) s = isT E s := rfl
@[simp] theorem mv_takeS (w : List UInt8) (s : Rs) : takeS (E.mv f) w s = takeS E w s := rfl
@[simp] theorem mv_stopsB (s : Rs) : stopsB (E.mv f) s = stopsB E s := rfl
@[simp] theorem mv_noneN (s : Rs) : noneN (E.mv f) s = (noneN E s).mv f := by simp [noneN]
theorem mv_endsN : ∀ n i, endsN (E.mv f) n i = endsN E n i
  | 0, _ => rfl
  | n + 1, i => by simp [endsN, mv_endsN n]
@[simp] theorem mv_endsS (s : Rs) : endsS (E.mv f) s = endsS E s := by simp [endsS, mv_endsN]
@[simp] theorem mv_want (w : List UInt8) (s : Rs) : wantR (E.mv f) w s = (wantR E w s).mv (Tk.mv f) := by simp [wantR] <;> rfl
@[simp] theorem mv_name (s : Rs) : nameR (E.mv f) s = (nameR E s).mv (Nd.mv f) := by simp [nameR] <;> rfl
@[simp] theorem mv_kindR : ∀ (ws : List (List UInt8)) (s : Rs), kindR (E.mv f) ws s = (kindR E ws s).mv (Nd.mv f)
  | [], s => mv_name s
  | w :: ws, s => by simp [kindR, mv_kindR ws]
@[simp] theorem mv_typ1 (ws : List (List UInt8)) (s : Rs) : typ1R (E.mv f) ws s = (typ1R E ws s).mv (Nd.mv f) := by simp [typ1R]
theorem mv_row {α β : Type} (g : α → β) (w : List UInt8) {part : α → Rs → Rr α} {part' : β → Rs → Rr β} (hp : ∀ a s, part' (g a) s = (part a s).mv g) : ∀ n a s, rowR (E.mv f) w part' n (g a) s = (rowR E w part n a s).mv g
  | 0, _, _ => rfl
  | n + 1, a, s => by simp [rowR, hp, mv_row g w hp n]
theorem mv_open {α β : Type} (g : α → β) (b e : List UInt8) {within : α → Rs → Rr α} {within' : β → Rs → Rr β} (hp : ∀ a s, within' (g a) s = (within a s).mv g) {a : α} {a' : β} (ha : a' = g a) (s : Rs) : openR (E.mv f) b e within' a' s = (openR E b e within a s).mv g := by
  subst ha
  simp [openR, hp]
theorem mv_namePush (a : Nd) (s : Rs) : namePush (E.mv f) (a.mv f) s = (namePush E a s).mv (Nd.mv f) := by simp [namePush]
theorem mv_signs {next next' : Rs → Rr Nd} (hn : ∀ s, next' s = (next s).mv (Nd.mv f)) (ws : List (List UInt8)) : ∀ n a s, signsR (E.mv f) next' ws n (a.mv f) s = (signsR E next ws n a s).mv (Nd.mv f)
  | 0, _, _ => rfl
  | n + 1, a, s => by
    have ih := fun (x : Nd) (s' : Rs) (w : List UInt8) => mv_signs hn ws n (.mk 51 (bs w) 0 (cur E s).at_ [a, x]) s'
    simp only [mv_mk, List.map] at ih
    simp only [signsR, mv_isTf]
    split
    · rfl
    · split
      · rfl
      · simp [hn, ih]
theorem mv_stmtsL {stmt stmt' : Rs → Rr Nd} (hn : ∀ s, stmt' s = (stmt s).mv (Nd.mv f)) : ∀ n a s, stmtsL (E.mv f) stmt' n (a.mv f) s = (stmtsL E stmt n a s).mv (Nd.mv f)
  | 0, _, _ => rfl
  | n + 1, a, s => by
    have ih := fun (x : Nd) (s' : Rs) => mv_stmtsL hn n (a.push x) s'
    simp only [mv_push] at ih
    simp [stmtsL, hn, ih] <;> rfl
theorem mv_moreL {part part' : Rs → Rr Nd} (hn : ∀ s, part' s = (part s).mv (Nd.mv f)) : ∀ n a s, moreL (E.mv f) part' n (a.mv f) s = (moreL E part n a s).mv (Nd.mv f)
  | 0, _, _ => rfl
  | n + 1, a, s => by
    have ih := fun (x : Nd) (s' : Rs) => mv_moreL hn n (a.push x) s'
    simp only [mv_push] at ih
    simp [moreL, hn, ih] <;> rfl
theorem mv_casesL {part part' : Rs → Rr Nd} (hn : ∀ s, part' s = (part s).mv (Nd.mv f)) : ∀ n a s, casesL (E.mv f) part' n (a.mv f) s = (casesL E part n a s).mv (Nd.mv f)
  | 0, _, _ => rfl
  | n + 1, a, s => by
    have ih := fun (x : Nd) (s' : Rs) => mv_casesL hn n (a.push x) s'
    simp only [mv_push] at ih
    simp [casesL, hn, ih] <;> rfl
theorem mv_itemsL {item item' : Rs → Rr Nd} (hn : ∀ s, item' s = (item s).mv (Nd.mv f)) : ∀ n a s, itemsL (E.mv f) item' n (a.map (Nd.mv f)) s = (itemsL E item n a s).mv (List.map (Nd.mv f))
  | 0, _, _ => rfl
  | n + 1, a, s => by
    have ih := fun (x : Nd) (s' : Rs) => mv_itemsL hn n (a ++ [x]) s'
    simp only [List.map_append, List.map] at ih
    simp [itemsL, hn, ih] <;> rfl
theorem mv_field (s : Rs) : fieldR (E.mv f) s = (fieldR E s).mv (Nd.mv f) := by simp [fieldR] <;> rfl
theorem mv_wish (s : Rs) : wishR (E.mv f) s = (wishR E s).mv (Nd.mv f) := by simp [wishR] <;> rfl
theorem mv_item (s : Rs) : itemR (E.mv f) s = (itemR E s).mv (Nd.mv f) := by simp [itemR] <;> rfl
theorem mv_leave (k a : Int) (s : Rs) : leaveR (E.mv f) k (f a) s = (leaveR E k a s).mv (Nd.mv f) := by simp [leaveR] <;> rfl

/-- What holds of two knots. -/
structure KMv (f : Int → Int) (K K' : Kn) : Prop where
  expr : ∀ s, K'.expr s = (K.expr s).mv (Nd.mv f)
  unary : ∀ s, K'.unary s = (K.unary s).mv (Nd.mv f)
  stmts : ∀ a s, K'.stmts (f a) s = (K.stmts a s).mv (Nd.mv f)
  branch : ∀ s, K'.branch s = (K.branch s).mv (Nd.mv f)
  fuel : K'.fuel = K.fuel
variable {K K' : Kn} (H : KMv f K K')
include H
theorem mv_exprPush (a : Nd) (s : Rs) : exprPush K' (a.mv f) s = (exprPush K a s).mv (Nd.mv f) := by simp [exprPush, H.expr]
theorem mv_level : ∀ (l : List (List (List UInt8))) s, levelR (E.mv f) K' l s = (levelR E K l s).mv (Nd.mv f)
  | [], s => H.unary s
  | ws :: l, s => by simp [levelR, mv_level l, mv_signs (mv_level l), H.fuel]
theorem mv_pair (a : Nd) (s : Rs) : pairM (E.mv f) K' (a.mv f) s = (pairM E K a s).mv (Nd.mv f) := by simp [pairM, H.expr]
theorem mv_mapM (a : Nd) (s : Rs) : mapM (E.mv f) K' (a.mv f) s = (mapM E K a s).mv (Nd.mv f) := by simp [mapM, H.expr]
theorem mv_make (a : Nd) (s : Rs) : makeR (E.mv f) K' (a.mv f) s = (makeR E K a s).mv (Nd.mv f) := by
  unfold makeR
  rw [H.fuel]
  exact mv_open _ _ _ (fun a s => mv_row _ _ (fun a s => mv_pair H a s) _ a s) (by simp) s
theorem mv_indexM (a : Nd) (s : Rs) : indexM (E.mv f) K' (a.mv f) s = (indexM E K a s).mv (Nd.mv f) := by simp [indexM, H.expr] <;> rfl
theorem mv_index (a : Nd) (s : Rs) : indexR (E.mv f) K' (a.mv f) s = (indexR E K a s).mv (Nd.mv f) :=
  mv_open _ _ _ (fun a s => mv_indexM H a s) (by simp) s
theorem mv_exprs (w : List UInt8) (n : Nat) (a : Nd) (s : Rs) : rowR (E.mv f) w (exprPush K') n (a.mv f) s = (rowR E w (exprPush K) n a s).mv (Nd.mv f) := mv_row _ _ (mv_exprPush H) n a s
theorem mv_params (s : Rs) : paramsR (E.mv f) K' s = (paramsR E K s).mv (Nd.mv f) := by
  unfold paramsR
  rw [H.fuel]
  exact mv_open _ _ _ (fun a s => mv_row _ _ mv_namePush _ a s) (by simp) s
theorem mv_block (s : Rs) : blockR (E.mv f) K' s = (blockR E K s).mv (Nd.mv f) := by
  simp [blockR, openR, H.stmts] <;> rfl
theorem mv_bracketed (s : Rs) : bracketedR (E.mv f) K' s = (bracketedR E K s).mv (Nd.mv f) := by
  have h1 : openR (E.mv f) [40] [41] (fun _ s => K'.expr s) (.mk 0 (cur E s).str 0 (f (cur E s).at_) []) s = _ := mv_open (E := E) (f := f) (Nd.mv f) [40] [41] (within := fun _ s => K.expr s) (fun _ s => H.expr s) (a := .mk 0 (cur E s).str 0 (cur E s).at_ []) (by simp) s
  have h2 : openR (E.mv f) [91] [93] (rowR (E.mv f) [93] (exprPush K') K.fuel) (.mk 38 (bs []) 0 (f (cur E s).at_) []) s = _ := mv_open (Nd.mv f) [91] [93] (fun a s => mv_exprs (E := E) H [93] K.fuel a s) (a := .mk 38 (bs []) 0 (cur E s).at_ []) (by simp) s
  have h3 : openR (E.mv f) [123] [125] (rowR (E.mv f) [125] (mapM (E.mv f) K') K.fuel) (.mk 39 (bs []) 0 (f (cur E s).at_) []) (adv s 1) = _ := mv_open (Nd.mv f) [123] [125] (fun a s => mv_row (E := E) (f := f) (Nd.mv f) [125] (fun a s => mv_mapM H a s) K.fuel a s) (a := .mk 39 (bs []) 0 (cur E s).at_ []) (by simp) (adv s 1)
  simp [bracketedR, H.fuel, h1, h2, h3, mv_params H, mv_block H] <;> rfl
theorem mv_prime (s : Rs) : primeR (E.mv f) K' s = (primeR E K s).mv (Nd.mv f) := by
  simp [primeR, mv_make H, mv_bracketed H] <;> rfl
theorem mv_postL : ∀ n a s, postL (E.mv f) K' n (a.mv f) s = (postL E K n a s).mv (Nd.mv f)
  | 0, _, _ => rfl
  | n + 1, a, s => by
    have h1 : openR (E.mv f) [40] [41] (rowR (E.mv f) [41] (exprPush K') K.fuel) (.mk 48 (bs []) 0 (f (cur E s).at_) [a.mv f]) s = _ := mv_open (Nd.mv f) [40] [41] (fun a s => mv_exprs (E := E) H [41] K.fuel a s) (a := .mk 48 (bs []) 0 (cur E s).at_ [a]) (by simp) s
    have ih1 := fun (x : Nd) (s' : Rs) => mv_postL n (.mk 49 (bs []) 0 (cur E s).at_ [a, x]) s'
    have ih2 := fun (x : ByteArray) (s' : Rs) => mv_postL n (.mk 45 x 0 (cur E s).at_ [a]) s'
    simp only [mv_mk, List.map] at ih1 ih2
    simp [postL, H.fuel, h1, mv_index H, ih1, ih2, mv_postL n] <;> rfl
theorem mv_post (s : Rs) : postR (E.mv f) K' s = (postR E K s).mv (Nd.mv f) := by simp [postR, mv_prime H, mv_postL H, H.fuel]
theorem mv_unary (s : Rs) : unaryR (E.mv f) K' s = (unaryR E K s).mv (Nd.mv f) := by simp [unaryR, H.unary, mv_make H, mv_post H] <;> rfl
theorem mv_expr (s : Rs) : exprR (E.mv f) K' s = (exprR E K s).mv (Nd.mv f) := mv_level H _ s
theorem mv_two (s : Rs) : twoR (E.mv f) K' s = (twoR E K s).mv (Nd.mv f) := by simp [twoR, mv_post H] <;> rfl
theorem mv_simple (s : Rs) : simpleR (E.mv f) K' s = (simpleR E K s).mv (Nd.mv f) := by simp [simpleR, H.unary, H.expr, mv_post H] <;> rfl
omit H in
theorem mv_within {form form' : Rs → Rr Nd} (h : ∀ s, form' s = (form s).mv (Nd.mv f)) (typ : Bool) (s : Rs) : withinR form' typ s = (withinR form typ s).mv (fun p => (p.1.mv f, p.2)) := by simp [withinR, h]
theorem mv_inHead (s : Rs) : inHeadR K' s = (inHeadR K s).mv (Nd.mv f) := by simp [inHeadR, mv_within H.expr]
theorem mv_branch (s : Rs) : branchR (E.mv f) K' s = (branchR E K s).mv (Nd.mv f) := by simp [branchR, mv_inHead H, mv_block H, H.branch] <;> rfl
theorem mv_cased {part part' : Rs → Rr Nd} (h : ∀ s, part' s = (part s).mv (Nd.mv f)) (s : Rs) : casedR (E.mv f) K' part' s = (casedR E K part s).mv (Nd.mv f) := by
  have ih := fun (x : Nd) (s1 s' : Rs) => mv_moreL (E := E) h K.fuel (.mk 38 (bs []) 0 (cur E s1).at_ [x]) s'
  simp only [mv_mk, List.map] at ih
  simp [casedR, h, H.fuel, ih, H.stmts] <;> rfl
theorem mv_return (t : Tk) (s : Rs) : returnR (E.mv f) K' (t.mv f) s = (returnR E K t s).mv (Nd.mv f) := by simp [returnR, H.expr] <;> rfl
theorem mv_items {item item' : Rs → Rr Nd} (h : ∀ s, item' s = (item s).mv (Nd.mv f)) (s : Rs) : itemsR (E.mv f) K' item' s = (itemsR E K item s).mv (List.map (Nd.mv f)) := by
  have ih := fun (s' : Rs) => mv_itemsL (E := E) h K.fuel [] s'
  simp only [List.map] at ih
  simp [itemsR, H.fuel, ih] <;> rfl
def choiceW (E : Env) (K : Kn) (a : Nd) (s : Rs) : Rr Nd := casesL E (casedR E K (if a.kind == 26 then typ1R E [[109, 97, 112], [102, 117, 110, 99], [97, 110, 121], [110, 105, 108]] else K.expr)) K.fuel a (endsS E s)
omit H in
theorem choice_eq (label : List UInt8) (at_ : Int) (s : Rs) : choiceR E K label at_ s =
    (if namedB (cur E s) && isW (nxt E s) [58, 61] then
      (nameR E s).bind fun v s => (wantR E [58, 61] s).bind fun _ s => (withinR (postR E K) true s).bind fun e s =>
      if e.2 then .ok (.mk 26 (bs label) 0 at_ [v, e.1]) s else .bad s.i
    else if isT E s [123] then .ok (.mk 25 (bs label) 0 at_ [noneN E s]) s else
      (withinR K.expr true s).bind fun e s' => if e.2 then .ok (.mk 26 (bs label) 0 at_ [noneN E s, e.1]) s' else .ok (.mk 25 (bs label) 0 at_ [e.1]) s').bind fun a s => openR E [123] [125] (choiceW E K) a s := rfl
theorem mv_choiceW (a : Nd) (s : Rs) : choiceW (E.mv f) K' (a.mv f) s = (choiceW E K a s).mv (Nd.mv f) := by
  unfold choiceW
  rw [H.fuel, mv_endsS, mv_kind]
  refine mv_casesL (fun s => mv_cased H (fun s => ?_) s) _ _ _
  split
  · exact mv_typ1 _ _
  · exact H.expr s
theorem mv_choice (label : List UInt8) (a : Int) (s : Rs) : choiceR (E.mv f) K' label (f a) s = (choiceR E K label a s).mv (Nd.mv f) := by
  have ho := fun (x : Nd) (s : Rs) => mv_open (E := E) (f := f) (Nd.mv f) [123] [125] (fun a s => mv_choiceW (E := E) H a s) (a := x) rfl s
  have h1 := fun (v e : Nd) => ho (.mk 26 (bs label) 0 a [v, e])
  have h2 := fun (e : Nd) => ho (.mk 25 (bs label) 0 a [e])
  have hw1 := fun s => mv_within (mv_post H (E := E)) true s
  have hw2 := fun s => mv_within H.expr true s
  have h3 := fun (s s' : Rs) (e : Nd) => h1 (noneN E s) e s'
  have h4 := fun (s s' : Rs) => h2 (noneN E s) s'
  simp only [mv_mk, List.map] at h1 h2 h3 h4
  rw [choice_eq, choice_eq]
  simp [hw1, hw2, h1, h2] <;> rfl
theorem mv_labelled (label : List UInt8) (a : Int) (s : Rs) : labelledR (E.mv f) K' label (f a) s = (labelledR E K label a s).mv (Nd.mv f) := by
  simp [labelledR, mv_choice H, mv_item, mv_inHead H, mv_block H] <;> rfl
theorem mv_stmt (s : Rs) : stmtR (E.mv f) K' s = (stmtR E K s).mv (Nd.mv f) := by
  simp [stmtR, mv_block H, H.expr, mv_two H, mv_labelled H, H.branch, mv_return H, mv_post H, mv_leave, mv_simple H] <;> rfl
theorem mv_stmts (a : Int) (s : Rs) : stmtsR (E.mv f) K' (f a) s = (stmtsR E K a s).mv (Nd.mv f) := by
  have h := mv_stmtsL (E := E) (mv_stmt (E := E) H) K.fuel (.mk 17 (bs []) 0 a []) (endsS E s)
  simp only [mv_mk, List.map] at h
  simp [stmtsR, H.fuel, h]
theorem mv_function (a : Int) (s : Rs) : functionR (E.mv f) K' (f a) s = (functionR E K a s).mv (Nd.mv f) := by
  simp [functionR, mv_params H, mv_block H] <;> rfl
theorem mv_decl (s : Rs) : declR (E.mv f) K' s = (declR E K s).mv (Nd.mv f) := by
  simp [declR, mv_items H mv_field, mv_items H mv_wish, mv_function H, H.expr] <;> rfl
theorem mv_declsL : ∀ n a s, declsL (E.mv f) K' n (a.mv f) s = (declsL E K n a s).mv (Nd.mv f)
  | 0, _, _ => rfl
  | n + 1, a, s => by
    have ih := fun (x : Nd) (s' : Rs) => mv_declsL n (a.push x) s'
    simp only [mv_push] at ih
    simp [declsL, mv_decl H, ih] <;> rfl
theorem mv_program (s : Rs) : programR (E.mv f) K' s = (programR E K s).mv (Nd.mv f) := by
  have h := mv_declsL (E := E) H K.fuel (.mk 1 (bs []) 0 (cur E s).at_ []) (endsS E s)
  simp only [mv_mk, List.map] at h
  simp [programR, H.fuel, h]
theorem mv_exprForm (s : Rs) : exprFormR (E.mv f) K' s = (exprFormR E K s).mv (Nd.mv f) := by simp [exprFormR, mv_expr H]
omit H in
theorem mv_kn : ∀ m, KMv f (kn E m) (kn (E.mv f) m)
  | 0 => ⟨fun _ => rfl, fun _ => rfl, fun _ _ => rfl, fun _ => rfl, rfl⟩
  | m + 1 => ⟨mv_expr (mv_kn m), mv_unary (mv_kn m), mv_stmts (mv_kn m), mv_branch (mv_kn m), rfl⟩
omit H in
theorem mv_read {form form' : Rs → Rr Nd} (h : ∀ s, form' s = (form s).mv (Nd.mv f)) : readR (E.mv f) form' = (readR E form).mv (Nd.mv f) := by simp [readR, h] <;> rfl
end
end Go.Proofs.YtokhfhibdeneeaaGreatDoor
