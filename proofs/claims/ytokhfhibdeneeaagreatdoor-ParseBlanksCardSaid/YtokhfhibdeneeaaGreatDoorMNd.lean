/- Trees as plain data, how they lie in memory, and the plain functions count and same on them. What tree.All gives: the nodes of a tree, a node ahead of its kids: plain laws. The parser as plain functions: what reading tokens gives. Words are written as lists of bytes by a small program. The parser's plain functions: with rounds enough there is always an answer, and no reading goes back. The parser's plain functions: declarations, programs, whole readings have an answer. -/
import Derived.Below
import Derived.Lib.Hide
import Derived.Laws.Strings
namespace Go.Proofs.YtokhfhibdeneeaaGreatDoor
open Go.RowKit

/-- A tree as plain data. -/
inductive Nd where
  | mk (kind : Int) (text : ByteArray) (n at_ : Int) (kids : List Nd)

theorem Nd.induct {P : Nd → Prop} (h : ∀ k s n a ks, (∀ x ∈ ks, P x) → P (.mk k s n a ks)) : ∀ t, P t
  | .mk k s n a ks => h k s n a ks (fun x _ => Nd.induct h x)

def Nd.kind : Nd → Int | .mk k _ _ _ _ => k
def Nd.text : Nd → ByteArray | .mk _ s _ _ _ => s
def Nd.at_ : Nd → Int | .mk _ _ _ a _ => a
def Nd.kids : Nd → List Nd | .mk _ _ _ _ l => l

/-- What an int may be. -/
def okI (n : Int) : Prop := -9223372036854775808 ≤ n ∧ n ≤ 9223372036854775807

theorem ret_int {k : IntKind} {a b : Int} (h : a = b) : Ending.returned (.int k a) = .returned (.int k b) := by rw [h]
theorem ret_bool {a b : Bool} (h : a = b) : Ending.returned (.bool a) = .returned (.bool b) := by rw [h]
theorem drop_cons {α : Type} {l : List α} {j : Nat} {x : α} (h : l[j]? = some x) : l.drop j = x :: l.drop (j + 1) := by
  obtain ⟨hj, hx⟩ := List.getElem?_eq_some_iff.1 h
  rw [List.drop_eq_getElem_cons hj, hx]

theorem toList_inj {s t : ByteArray} (h : s.toList = t.toList) : s = t := by
  have e : ∀ x : ByteArray, x.toList = x.data.toList := fun x => ByteArray.toList_eq x
  rw [e, e] at h
  cases s; cases t; simp at h; simp [h]

mutual
/-- The value v is the tree t: its lists lie in w below block B. -/
def Lies (w : World) (B : Nat) : Nd → Value → Prop
  | .mk k s n a ks, v => ∃ (A : Option Addr) (cap : Nat), v = .agg #[.int .i64 k, .string s, .int .i64 n, .int .i64 a, .slice A ks.length cap] ∧
      okI k ∧ okI n ∧ okI a ∧ s.size ≤ 140737488351232 ∧ ks.length ≤ cap ∧ cap ≤ 9223372036854775807 ∧
      (ks = [] ∨ ∃ b o, A = some ⟨b, o, none⟩ ∧ b < B ∧ LiesL w B ks b o)
/-- The trees lie one behind the other from cell o of block b on. -/
def LiesL (w : World) (B : Nat) : List Nd → Nat → Nat → Prop
  | [], _, _ => True
  | t :: ts, b, o => (∃ c0 c1 c2 c3 c4 : Value, w.cell? ⟨b, o, none⟩ = some c0 ∧ w.cell? ⟨b, o + 1, none⟩ = some c1 ∧ w.cell? ⟨b, o + 2, none⟩ = some c2 ∧
      w.cell? ⟨b, o + 3, none⟩ = some c3 ∧ w.cell? ⟨b, o + 4, none⟩ = some c4 ∧ Lies w B t (.agg #[c0, c1, c2, c3, c4])) ∧ LiesL w B ts b (o + 5)
end

mutual
theorem Lies.below {w w' : World} {B : Nat} (hb : Below B w w') : ∀ {t : Nd} {v : Value}, Lies w B t v → Lies w' B t v
  | .mk k s n a ks, v, h => by
    unfold Lies at h ⊢
    obtain ⟨A, cap, h1, h2, h3, h4, h5, h6, h7, h8⟩ := h
    refine ⟨A, cap, h1, h2, h3, h4, h5, h6, h7, ?_⟩
    rcases h8 with h8 | ⟨b, o, hA, hlt, hl⟩
    · exact .inl h8
    · exact .inr ⟨b, o, hA, hlt, LiesL.below hb hlt hl⟩
theorem LiesL.below {w w' : World} {B : Nat} (hb : Below B w w') : ∀ {ts : List Nd} {b o : Nat}, b < B → LiesL w B ts b o → LiesL w' B ts b o
  | [], _, _, _, _ => by unfold LiesL; trivial
  | t :: ts, b, o, hlt, h => by
    unfold LiesL at h ⊢
    obtain ⟨⟨c0, c1, c2, c3, c4, h0, h1, h2, h3, h4, ht⟩, hl⟩ := h
    have hc : ∀ j, w'.cell? ⟨b, j, none⟩ = w.cell? ⟨b, j, none⟩ := fun j => hb.cell (p := ⟨b, j, none⟩) hlt
    exact ⟨⟨c0, c1, c2, c3, c4, by rw [hc]; exact h0, by rw [hc]; exact h1, by rw [hc]; exact h2, by rw [hc]; exact h3, by rw [hc]; exact h4, Lies.below hb ht⟩, LiesL.below hb hlt hl⟩
end

mutual
theorem Lies.more {w : World} {B B' : Nat} (hB : B ≤ B') : ∀ {t : Nd} {v : Value}, Lies w B t v → Lies w B' t v
  | .mk k s n a ks, v, h => by
    unfold Lies at h ⊢
    obtain ⟨A, cap, h1, h2, h3, h4, h5, h6, h7, h8⟩ := h
    refine ⟨A, cap, h1, h2, h3, h4, h5, h6, h7, ?_⟩
    rcases h8 with h8 | ⟨b, o, hA, hlt, hl⟩
    · exact .inl h8
    · exact .inr ⟨b, o, hA, by omega, LiesL.more hB hl⟩
theorem LiesL.more {w : World} {B B' : Nat} (hB : B ≤ B') : ∀ {ts : List Nd} {b o : Nat}, LiesL w B ts b o → LiesL w B' ts b o
  | [], _, _, _ => by unfold LiesL; trivial
  | t :: ts, b, o, h => by
    unfold LiesL at h ⊢
    obtain ⟨⟨c0, c1, c2, c3, c4, h0, h1, h2, h3, h4, ht⟩, hl⟩ := h
    exact ⟨⟨c0, c1, c2, c3, c4, h0, h1, h2, h3, h4, Lies.more hB ht⟩, LiesL.more hB hl⟩
end

theorem Lies.up {w W : World} {t : Nd} {v : Value} (h : Lies w w.heap.size t v) (hb : Below w.heap.size w W) : Lies W W.heap.size t v := (h.below hb).more hb.size
theorem LiesL.up {w W : World} {ts : List Nd} {b o : Nat} (h : LiesL w w.heap.size ts b o) (hlt : b < w.heap.size) (hb : Below w.heap.size w W) : LiesL W W.heap.size ts b o := (h.below hb hlt).more hb.size

/-- The i-th of some trees that lie behind one another. -/
theorem LiesL.at_ {w : World} {B : Nat} : ∀ {ts : List Nd} {b o : Nat} (i : Nat) (t : Nd), LiesL w B ts b o → ts[i]? = some t →
    ∃ c0 c1 c2 c3 c4 : Value, w.cell? ⟨b, o + i * 5, none⟩ = some c0 ∧ w.cell? ⟨b, o + i * 5 + 1, none⟩ = some c1 ∧ w.cell? ⟨b, o + i * 5 + 2, none⟩ = some c2 ∧
      w.cell? ⟨b, o + i * 5 + 3, none⟩ = some c3 ∧ w.cell? ⟨b, o + i * 5 + 4, none⟩ = some c4 ∧ Lies w B t (.agg #[c0, c1, c2, c3, c4])
  | [], _, _, i, t, _, h => by simp at h
  | x :: ts, b, o, 0, t, hl, h => by
    unfold LiesL at hl
    simp at h
    subst h
    simpa using hl.1
  | x :: ts, b, o, i + 1, t, hl, h => by
    unfold LiesL at hl
    have := LiesL.at_ i t hl.2 (by simpa using h)
    rw [show o + (i + 1) * 5 = o + 5 + i * 5 from by omega]
    exact this

/-- The i-th of some trees that lie behind one another, with its cells written out. -/
theorem LiesL.get {w : World} {B : Nat} {ts : List Nd} {b o : Nat} (i : Nat) (hi : i < ts.length) (h : LiesL w B ts b o) :
    ∃ (k : Int) (s : ByteArray) (n a : Int) (A : Option Addr) (cap : Nat) (ks : List Nd), ts[i]? = some (.mk k s n a ks) ∧
      w.cell? ⟨b, o + i * 5, none⟩ = some (.int .i64 k) ∧ w.cell? ⟨b, o + i * 5 + 1, none⟩ = some (.string s) ∧ w.cell? ⟨b, o + i * 5 + 2, none⟩ = some (.int .i64 n) ∧
      w.cell? ⟨b, o + i * 5 + 3, none⟩ = some (.int .i64 a) ∧ w.cell? ⟨b, o + i * 5 + 4, none⟩ = some (.slice A ks.length cap) ∧
      Lies w B (.mk k s n a ks) (.agg #[.int .i64 k, .string s, .int .i64 n, .int .i64 a, .slice A ks.length cap]) := by
  obtain ⟨t, ht⟩ : ∃ t, ts[i]? = some t := ⟨ts[i], List.getElem?_eq_getElem hi⟩
  obtain ⟨c0, c1, c2, c3, c4, h0, h1, h2, h3, h4, hl⟩ := LiesL.at_ i t h ht
  obtain ⟨k, s, n, a, ks⟩ := t
  have hl' := hl
  unfold Lies at hl
  obtain ⟨A, cap, hv, _⟩ := hl
  simp only [Value.agg.injEq, Array.mk.injEq, List.cons.injEq, and_true] at hv
  obtain ⟨rfl, rfl, rfl, rfl, rfl⟩ := hv
  exact ⟨k, s, n, a, A, cap, ks, ht, h0, h1, h2, h3, h4, hl'⟩

mutual
def Nd.count : Nd → Int → Int
  | .mk _ _ _ _ ks, left => min (countL ks left 1) (left + 1)
def countL : List Nd → Int → Int → Int
  | [], _, many => many
  | k :: ks, left, many => if left < many then many else countL ks left (many + k.count (left - many))
end

mutual
theorem Nd.count_bd : ∀ (t : Nd) (left : Int), 0 ≤ left → 1 ≤ t.count left ∧ t.count left ≤ left + 1
  | .mk _ _ _ _ ks, left, h => by
    have := countL_bd ks left 1 (by omega) (by omega)
    unfold Nd.count
    omega
theorem countL_bd : ∀ (ks : List Nd) (left many : Int), 1 ≤ many → many ≤ left + 1 → 1 ≤ countL ks left many ∧ countL ks left many ≤ left + 1
  | [], left, many, h, h' => by unfold countL; omega
  | k :: ks, left, many, h, h' => by
    unfold countL
    split
    · omega
    · have := Nd.count_bd k (left - many) (by omega)
      exact countL_bd ks left _ (by omega) (by omega)
end

mutual
def Nd.same : Nd → Nd → Bool
  | .mk k s n _ ks, .mk k' s' n' _ ks' => k == k' && s.toList == s'.toList && n == n' && ks.length == ks'.length && sameL ks ks'
def sameL : List Nd → List Nd → Bool
  | a :: us, b :: vs => a.same b && sameL us vs
  | _, _ => true
end

/-- tree.Same, guiseref2.Same. -/
def Nd.Same (a b : Nd) : Bool := decide (a.count 1000000 ≤ 1000000) && a.count 1000000 == b.count 1000000 && a.same b

end Go.Proofs.YtokhfhibdeneeaaGreatDoor

namespace Go.Proofs.YtokhfhibdeneeaaGreatDoor

/-- A node as All tells it. -/
structure Tl where
  deep : Int
  k : Int
  s : ByteArray
  n : Int
  a : Int



mutual
def Nd.size : Nd → Nat
  | .mk _ _ _ _ ks => 1 + sizeL ks
def sizeL : List Nd → Nat
  | [] => 0
  | t :: ts => t.size + sizeL ts
end





/-! ### A tree with a leaf more, or with another Text -/
def Nd.more : Nd → Nd | .mk k s n a ks => .mk k s n a (ks ++ [.mk 16 ⟨#[]⟩ 0 0 []])
mutual
theorem Nd.same_refl : ∀ t : Nd, t.same t = true
  | .mk k s n a ks => by unfold Nd.same; simp [sameL_refl ks]
theorem sameL_refl : ∀ ts : List Nd, sameL ts ts = true
  | [] => by unfold sameL; rfl
  | t :: ts => by unfold sameL; rw [Nd.same_refl t, sameL_refl ts]; rfl
end
end Go.Proofs.YtokhfhibdeneeaaGreatDoor

namespace Go.Proofs.YtokhfhibdeneeaaGreatDoor
open Go.RowKit

/-- A token as plain data. -/
structure Tk where
  kind : Int
  text : List UInt8
  at_ : Int

/-- The tokens that are read: the one at each place (behind the last one: one without a kind), how many there are. -/
structure Env where
  tok : Nat → Tk
  n : Nat

/-- A reader's state. -/
structure Rs where
  i : Nat
  head : Bool
  typ : Bool
  done : Bool

/-- What reading gives: something, the place of the token that can't stand, or no answer in so many rounds. -/
inductive Rr (α : Type) where
  | ok (x : α) (s : Rs)
  | bad (i : Nat)
  | out

def Rr.bind {α β : Type} (r : Rr α) (k : α → Rs → Rr β) : Rr β :=
  match r with
  | .ok x s => k x s
  | .bad i => .bad i
  | .out => .out
theorem Rr.bind_ok {α β : Type} (x : α) (s : Rs) (k : α → Rs → Rr β) : (Rr.ok x s).bind k = k x s := rfl
theorem Rr.bind_bad {α β : Type} (i : Nat) (k : α → Rs → Rr β) : (Rr.bad i : Rr α).bind k = .bad i := rfl
/-- What calls itself from afar: each for fewer rounds. -/
structure Kn where
  expr : Rs → Rr Nd
  unary : Rs → Rr Nd
  stmts : Int → Rs → Rr Nd
  branch : Rs → Rr Nd
  fuel : Nat

def isW (t : Tk) (s : List UInt8) : Bool := (t.kind == 3 || t.kind == 7) && t.text == s
def namedB (t : Tk) : Bool := t.kind == 2 && !(t.text == [95])
def Tk.str (t : Tk) : ByteArray := ⟨⟨t.text⟩⟩
def bs (l : List UInt8) : ByteArray := ⟨⟨l⟩⟩
def Nd.push : Nd → Nd → Nd | .mk k s n a ks, x => .mk k s n a (ks ++ [x])
def Nd.withKind : Nd → Int → Nd | .mk _ s n a ks, k => .mk k s n a ks
def Nd.withKids : Nd → List Nd → Nd | .mk k s n a _, ks => .mk k s n a ks
def nd0 : Nd := .mk 0 (bs []) 0 0 []

section
variable (E : Env)
def cur (s : Rs) : Tk := E.tok s.i
def nxt (s : Rs) : Tk := E.tok (s.i + 1)
def adv (s : Rs) (k : Nat) : Rs := { s with i := s.i + k }
def isT (s : Rs) (w : List UInt8) : Bool := isW (cur E s) w
def takeS (w : List UInt8) (s : Rs) : Rs := if isT E s w then adv s 1 else s
def wantR (w : List UInt8) (s : Rs) : Rr Tk := if isT E s w then .ok (cur E s) (adv s 1) else .bad s.i
def nameR (s : Rs) : Rr Nd := if namedB (cur E s) then .ok (.mk 14 (cur E s).str 0 (cur E s).at_ []) (adv s 1) else .bad s.i
def endsN : Nat → Nat → Nat
  | 0, _ => 0
  | f + 1, i => if (E.tok i).kind == 1 then endsN f (i + 1) + 1 else 0
def endsS (s : Rs) : Rs := adv s (endsN E (E.n - s.i) s.i)
def noneN (s : Rs) : Nd := .mk 16 (bs []) 0 (cur E s).at_ []
def kindR : List (List UInt8) → Rs → Rr Nd
  | [], s => nameR E s
  | w :: ws, s => if isT E s w then .ok (.mk 14 (bs w) 0 (cur E s).at_ []) (adv s 1) else kindR ws s
def typ1R (ws : List (List UInt8)) (s : Rs) : Rr Nd :=
  if isT E s [42] then (nameR E (adv s 1)).bind fun x s' => .ok (.mk 15 (bs []) 0 (cur E s).at_ [x]) s' else kindR E ws s

/-- row: parts with commas between, up to a sign. -/
def rowR {α : Type} (w : List UInt8) (part : α → Rs → Rr α) : Nat → α → Rs → Rr α
  | 0, _, _ => .out
  | f + 1, a, s => if isT E s w then .ok a s else
    (part a s).bind fun a s => if isT E s [44] then rowR w part f a (adv s 1) else if isT E s w then rowR w part f a s else .bad s.i
/-- open: what stands between brackets. -/
def openR {α : Type} (b e : List UInt8) (within : α → Rs → Rr α) (a : α) (s : Rs) : Rr α :=
  (wantR E b s).bind fun _ s1 => (within a { s1 with head := false, typ := false }).bind fun a s2 =>
    (wantR E e { s2 with head := s1.head, typ := s1.typ }).bind fun _ s3 => .ok a s3

variable (K : Kn)
def exprPush (a : Nd) (s : Rs) : Rr Nd := (K.expr s).bind fun x s => .ok (a.push x) s
def namePush (a : Nd) (s : Rs) : Rr Nd := (nameR E s).bind fun x s => .ok (a.push x) s

def levels : List (List (List UInt8)) := [[[124, 124]], [[38, 38]], [[61, 61], [33, 61], [60], [60, 61], [62], [62, 61]], [[43], [45], [124], [94]], [[42], [47], [37], [38], [60, 60], [62, 62]]]
/-- The signs of a level, behind its first part. -/
def signsR (next : Rs → Rr Nd) (ws : List (List UInt8)) : Nat → Nd → Rs → Rr Nd
  | 0, _, _ => .out
  | f + 1, a, s => if s.done then .ok a s else
    match ws.find? (isT E s) with
    | none => .ok a s
    | some w => (next { adv s 1 with typ := false }).bind fun x s' => signsR next ws f (.mk 51 (bs w) 0 (cur E s).at_ [a, x]) s'
def levelR : List (List (List UInt8)) → Rs → Rr Nd
  | [], s => K.unary s
  | ws :: l, s => (levelR l s).bind fun a s => signsR E (levelR l) ws K.fuel a s

def pairM (a : Nd) (s : Rs) : Rr Nd :=
  (nameR E s).bind fun x s => (wantR E [58] s).bind fun _ s => (K.expr s).bind fun y s => .ok (a.push (.mk 40 x.text 0 x.at_ [y])) s
def makeR (a : Nd) (s : Rs) : Rr Nd := openR E [123] [125] (rowR E [125] (pairM E K) K.fuel) (a.withKind 41) s
def mapM (a : Nd) (s : Rs) : Rr Nd :=
  (K.expr s).bind fun x s' => (wantR E [58] s').bind fun _ s' => (K.expr s').bind fun y s' => .ok (a.push (.mk 40 (bs []) 0 (cur E s).at_ [x, y])) s'

def indexM (a : Nd) (s : Rs) : Rr Nd :=
  (if isT E s [58] then .ok (noneN E s) s else K.expr s).bind fun x s =>
  if isT E s [58] then
    if isT E (adv s 1) [93] then .ok (((a.push x).withKind 47).push (noneN E (adv s 1)) |>.push (noneN E (adv s 1))) (adv s 1) else
    (K.expr (adv s 1)).bind fun y s =>
    if isT E s [58] then (K.expr (adv s 1)).bind fun z s' => .ok (((a.push x).withKind 47).push y |>.push z) s'
    else .ok (((a.push x).withKind 47).push y |>.push (noneN E s)) s
  else .ok (a.push x) s
def indexR (a : Nd) (s : Rs) : Rr Nd := openR E [91] [93] (indexM E K) (.mk 46 (bs []) 0 (cur E s).at_ [a]) s

def paramsR (s : Rs) : Rr Nd := openR E [40] [41] (rowR E [41] (namePush E) K.fuel) (.mk 13 (bs []) 0 (cur E s).at_ []) s

def blockR (s : Rs) : Rr Nd := openR E [123] [125] (fun _ s' => K.stmts (cur E s).at_ s') nd0 s

def bracketedR (s : Rs) : Rr Nd :=
  if isT E s [40] then openR E [40] [41] (fun _ s => K.expr s) (.mk 0 (cur E s).str 0 (cur E s).at_ []) s else
  if isT E s [91] then openR E [91] [93] (rowR E [93] (exprPush K) K.fuel) (.mk 38 (bs []) 0 (cur E s).at_ []) s else
  if isT E s [110, 105, 108] && isW (nxt E s) [40] then
    (typ1R E [[109, 97, 112], [102, 117, 110, 99]] (adv s 2)).bind fun x s' => (wantR E [41] s').bind fun _ s' => .ok (.mk 44 (bs []) 0 (cur E s).at_ [x]) s' else
  if isT E s [116, 114, 117, 101] || (isT E s [102, 97, 108, 115, 101] || (isT E s [110, 105, 108] || (isT E s [109, 97, 112] && isW (nxt E s) [40]))) then .ok (.mk 14 (cur E s).str 0 (cur E s).at_ []) (adv s 1) else
  if isT E s [102, 117, 110, 99] then
    (paramsR E K (adv s 1)).bind fun x s' => (blockR E K s').bind fun y s' => .ok (.mk 43 (bs []) 0 (cur E s).at_ [x, y]) s' else
  if isT E s [109, 97, 112] then openR E [123] [125] (rowR E [125] (mapM E K) K.fuel) (.mk 39 (bs []) 0 (cur E s).at_ []) (adv s 1) else
  .bad s.i
def primeR (s : Rs) : Rr Nd :=
  if (cur E s).kind == 4 then .ok (.mk 35 (cur E s).str 0 (cur E s).at_ []) (adv s 1) else
  if (cur E s).kind == 5 then .ok (.mk 36 (cur E s).str 0 (cur E s).at_ []) (adv s 1) else
  if (cur E s).kind == 6 then .ok (.mk 37 (cur E s).str 0 (cur E s).at_ []) (adv s 1) else
  if (cur E s).kind == 2 then
    (nameR E s).bind fun x s => if isT E s [123] && !s.head then makeR E K x s else .ok x s
  else bracketedR E K s

def postL : Nat → Nd → Rs → Rr Nd
  | 0, _, _ => .out
  | f + 1, a, s =>
    if isT E s [91] then (indexR E K a s).bind fun x s => postL f x s else
    if isT E s [40] then (openR E [40] [41] (rowR E [41] (exprPush K) K.fuel) (.mk 48 (bs []) 0 (cur E s).at_ [a]) s).bind fun x s => postL f x s else
    if isT E s [46] && isW (nxt E s) [40] then
      if s.typ && isT E (adv s 2) [116, 121, 112, 101] then (wantR E [41] (adv s 3)).bind fun _ s' => .ok a { s' with done := true } else
      (typ1R E [[109, 97, 112], [102, 117, 110, 99], [97, 110, 121]] (adv s 2)).bind fun x s' => (wantR E [41] s').bind fun _ s' => postL f (.mk 49 (bs []) 0 (cur E s).at_ [a, x]) s' else
    if isT E s [46] then (nameR E (adv s 1)).bind fun x s' => postL f (.mk 45 x.text 0 (cur E s).at_ [a]) s' else
    .ok a s
def postR (s : Rs) : Rr Nd := (primeR E K s).bind fun a s => postL E K K.fuel a s

def unaryR (s : Rs) : Rr Nd :=
  if (cur E s).kind == 7 then
    if (cur E s).text == [45] || ((cur E s).text == [33] || ((cur E s).text == [94] || (cur E s).text == [42])) then
      (K.unary { adv s 1 with typ := false }).bind fun x s' => .ok (.mk 50 (cur E s).str 0 (cur E s).at_ [x]) s' else
    if (cur E s).text == [38] && !s.head then
      (nameR E (adv s 1)).bind fun x s' => (makeR E K x s').bind fun y s' => .ok (.mk 42 (bs []) 0 (cur E s).at_ [y]) s' else
    postR E K s
  else postR E K s
def exprR (s : Rs) : Rr Nd := levelR E K levels s

def stopsB (s : Rs) : Bool := decide (E.n ≤ s.i) || (isT E s [125] || (isT E s [99, 97, 115, 101] || isT E s [100, 101, 102, 97, 117, 108, 116]))
def leaveR (k a : Int) (s : Rs) : Rr Nd := if namedB (cur E s) then .ok (.mk k (cur E s).str 0 a []) (adv s 1) else .ok (.mk k (bs []) 0 a []) s
def twoR (s : Rs) : Rr Nd :=
  (nameR E s).bind fun x s' => (wantR E [44] s').bind fun _ s' => (nameR E s').bind fun y s' =>
  (if isT E s' [58, 61] then .ok (19 : Int) (adv s' 1) else (wantR E [61] s').bind fun _ s' => .ok 21 s').bind fun k s' =>
  (postR E K s').bind fun e s' => if e.kind == 46 || e.kind == 49 then .ok (.mk k (bs []) 0 (cur E s).at_ [x, y, e]) s' else .bad s'.i
def placeB (t : Nd) : Bool :=
  if t.kind == 14 then !(t.text == bs [116, 114, 117, 101] || (t.text == bs [102, 97, 108, 115, 101] || (t.text == bs [110, 105, 108] || t.text == bs [109, 97, 112]))) else
  if t.kind == 50 then t.text == bs [42] else t.kind == 45 || t.kind == 46
def setsL : List (List UInt8) := [[61], [43, 61], [45, 61], [42, 61], [47, 61], [37, 61], [38, 61], [124, 61], [94, 61], [60, 60, 61], [62, 62, 61]]
def simpleR (s : Rs) : Rr Nd :=
  (if isT E s [42] then K.unary s else postR E K s).bind fun e s' =>
  if e.kind == 48 then .ok (.mk 30 (bs []) 0 (cur E s).at_ [e]) s' else
  if !placeB e || !((cur E s').kind == 7) then .bad s'.i else
  if (cur E s').text == [43, 43] || (cur E s').text == [45, 45] then .ok (.mk 34 (cur E s').str 0 (cur E s).at_ [e]) (adv s' 1) else
  if setsL.any (fun w => (cur E s').text == w) then (K.expr (adv s' 1)).bind fun v s2 => .ok (.mk 20 (cur E s').str 0 (cur E s).at_ [e, v]) s2 else
  .bad s'.i
def withinR (form : Rs → Rr Nd) (typ : Bool) (s : Rs) : Rr (Nd × Bool) :=
  (form { s with head := true, typ := typ, done := false }).bind fun x s' => .ok (x, s'.done) { s' with head := s.head, typ := s.typ, done := s.done }
def inHeadR (s : Rs) : Rr Nd := (withinR K.expr false s).bind fun x s => .ok x.1 s
def branchR (s : Rs) : Rr Nd :=
  (wantR E [105, 102] s).bind fun t s => (inHeadR K s).bind fun x s => (blockR E K s).bind fun y s =>
  if isT E s [101, 108, 115, 101] then
    (if isT E (adv s 1) [105, 102] then K.branch (adv s 1) else blockR E K (adv s 1)).bind fun z s => .ok (.mk 22 (bs []) 0 t.at_ [x, y, z]) s
  else .ok (.mk 22 (bs []) 0 t.at_ [x, y, noneN E s]) s
def itemR (s : Rs) : Rr Nd := if (cur E s).kind == 2 && (cur E s).text == [95] then .ok (.mk 16 (bs []) 0 (cur E s).at_ []) (adv s 1) else nameR E s

/-- stmts: what stands in a block; stmt is what reads one. -/
def stmtsL (stmt : Rs → Rr Nd) : Nat → Nd → Rs → Rr Nd
  | 0, _, _ => .out
  | f + 1, a, s => if stopsB E s then .ok a s else
    (stmt s).bind fun x s => if decide (s.i < (endsS E s).i) || stopsB E (endsS E s) then stmtsL stmt f (a.push x) (endsS E s) else .bad (endsS E s).i

def moreL (part : Rs → Rr Nd) : Nat → Nd → Rs → Rr Nd
  | 0, _, _ => .out
  | f + 1, a, s => if isT E s [44] then
      if isT E (adv s 1) [58] then .ok a (adv s 1) else (part (adv s 1)).bind fun x s => moreL part f (a.push x) s
    else .ok a s
def casedR (part : Rs → Rr Nd) (s : Rs) : Rr Nd :=
  (if isT E s [100, 101, 102, 97, 117, 108, 116] then (wantR E [58] (adv s 1)).bind fun t s1 => .ok (noneN E (adv s 1), t.at_) s1 else
    (wantR E [99, 97, 115, 101] s).bind fun _ s1 => (part s1).bind fun x s2 => (moreL E part K.fuel (.mk 38 (bs []) 0 (cur E s1).at_ [x]) s2).bind fun l s2 =>
    (wantR E [58] s2).bind fun t s2 => .ok (l, t.at_) s2).bind fun p s1 =>
  (K.stmts p.2 s1).bind fun b s1 => .ok (.mk 27 (bs []) 0 (cur E s).at_ [p.1, b]) s1
def casesL (cased : Rs → Rr Nd) : Nat → Nd → Rs → Rr Nd
  | 0, _, _ => .out
  | f + 1, a, s => if isT E s [125] then .ok a s else (cased s).bind fun x s => casesL cased f (a.push x) s
def choiceR (label : List UInt8) (at_ : Int) (s : Rs) : Rr Nd :=
  (if namedB (cur E s) && isW (nxt E s) [58, 61] then
    (nameR E s).bind fun v s => (wantR E [58, 61] s).bind fun _ s => (withinR (postR E K) true s).bind fun e s =>
    if e.2 then .ok (.mk 26 (bs label) 0 at_ [v, e.1]) s else .bad s.i
  else if isT E s [123] then .ok (.mk 25 (bs label) 0 at_ [noneN E s]) s else
    (withinR K.expr true s).bind fun e s' => if e.2 then .ok (.mk 26 (bs label) 0 at_ [noneN E s, e.1]) s' else .ok (.mk 25 (bs label) 0 at_ [e.1]) s').bind fun a s =>
  openR E [123] [125] (fun a s => casesL E (casedR E K (if a.kind == 26 then typ1R E [[109, 97, 112], [102, 117, 110, 99], [97, 110, 121], [110, 105, 108]] else K.expr)) K.fuel a (endsS E s)) a s
def labelledR (label : List UInt8) (at_ : Int) (s : Rs) : Rr Nd :=
  if isT E s [115, 119, 105, 116, 99, 104] then choiceR E K label at_ (adv s 1) else
  (wantR E [102, 111, 114] s).bind fun _ s =>
  if (cur E s).kind == 2 && ((cur E s).text == [95] || (isW (nxt E s) [44] || isW (nxt E s) [105, 110])) then
    (itemR E s).bind fun x s => (if isT E s [44] then itemR E (adv s 1) else .ok (noneN E s) s).bind fun y s =>
    (wantR E [105, 110] s).bind fun _ s => (inHeadR K s).bind fun e s => (blockR E K s).bind fun b s => .ok (.mk 24 (bs label) 0 at_ [x, y, e, b]) s
  else
    (if isT E s [123] then .ok (noneN E s) s else inHeadR K s).bind fun c s => (blockR E K s).bind fun b s => .ok (.mk 23 (bs label) 0 at_ [c, b]) s

def returnR (t : Tk) (s : Rs) : Rr Nd :=
  if (cur E s).kind == 1 || stopsB E s then .ok (.mk 28 (bs []) 0 t.at_ [noneN E s]) s else (K.expr s).bind fun x s => .ok (.mk 28 (bs []) 0 t.at_ [x]) s
def stmtR (s : Rs) : Rr Nd :=
  if isT E s [123] then blockR E K s else
  if namedB (cur E s) && isW (nxt E s) [58, 61] then (K.expr (adv s 2)).bind fun x s' => .ok (.mk 18 (cur E s).str 0 (cur E s).at_ [x]) s' else
  if namedB (cur E s) && isW (nxt E s) [44] then twoR E K s else
  if namedB (cur E s) && isW (nxt E s) [58] then
    if isT E (adv s 2) [102, 111, 114] || isT E (adv s 2) [115, 119, 105, 116, 99, 104] then labelledR E K (cur E s).text (cur E s).at_ (adv s 2) else .bad (s.i + 2) else
  if isT E s [102, 111, 114] || isT E s [115, 119, 105, 116, 99, 104] then labelledR E K [] (cur E s).at_ s else
  if isT E s [105, 102] then K.branch s else
  if isT E s [114, 101, 116, 117, 114, 110] then returnR E K (cur E s) (adv s 1) else
  if isT E s [100, 101, 102, 101, 114] then (postR E K (adv s 1)).bind fun x s' => if x.kind == 48 then .ok (.mk 29 (bs []) 0 (cur E s).at_ [x]) s' else .bad s'.i else
  if isT E s [98, 114, 101, 97, 107] then leaveR E 31 (cur E s).at_ (adv s 1) else
  if isT E s [99, 111, 110, 116, 105, 110, 117, 101] then leaveR E 32 (cur E s).at_ (adv s 1) else
  if isT E s [102, 97, 108, 108, 116, 104, 114, 111, 117, 103, 104] then .ok (.mk 33 (bs []) 0 (cur E s).at_ []) (adv s 1) else
  simpleR E K s

def stmtsR (at_ : Int) (s : Rs) : Rr Nd := stmtsL E (stmtR E K) K.fuel (.mk 17 (bs []) 0 at_ []) (endsS E s)

/-- What stands in a struct (its fields), a protocol (its wishes). -/
def fieldR (s : Rs) : Rr Nd :=
  if isT E s [46] then
    if isT E (adv s 1) [42] then (nameR E (adv s 2)).bind fun x s' => .ok (.mk 10 x.text 0 (cur E s).at_ []) s'
    else (nameR E (adv s 1)).bind fun x s' => .ok (.mk 9 x.text 0 (cur E s).at_ []) s'
  else (nameR E s).bind fun x s' => .ok (.mk 8 x.text 0 (cur E s).at_ []) s'
/-- A run of digits as a number. -/
def decN (l : List UInt8) : Nat := l.foldl (fun n c => 10 * n + (c.toNat - 48)) 0
def wishR (s : Rs) : Rr Nd :=
  (nameR E s).bind fun x s1 =>
  if isT E s1 [40] then
    if (cur E (adv s1 1)).kind == 4 then
      (wantR E [41] (adv s1 2)).bind fun _ s' => .ok (.mk 11 x.text (decN (cur E (adv s1 1)).text) (cur E s).at_ []) s'
    else .bad (s1.i + 1)
  else .ok (.mk 9 x.text 0 (cur E s).at_ []) s1
def itemsL (item : Rs → Rr Nd) : Nat → List Nd → Rs → Rr (List Nd)
  | 0, _, _ => .out
  | f + 1, a, s => if isT E s [125] then .ok a s else
    (item s).bind fun x s => if decide (s.i < (endsS E s).i) || isT E (endsS E s) [125] then itemsL item f (a ++ [x]) (endsS E s) else .bad (endsS E s).i
def itemsR (item : Rs → Rr Nd) (s : Rs) : Rr (List Nd) :=
  (wantR E [123] s).bind fun _ s => (itemsL E item K.fuel [] (endsS E s)).bind fun l s => (wantR E [125] s).bind fun _ s => .ok l s
def functionR (at_ : Int) (s : Rs) : Rr Nd :=
  if isT E s [40] then
    (wantR E [40] s).bind fun _ s => (nameR E s).bind fun me s =>
    (if isT E s [42] then (nameR E (adv s 1)).bind fun x s' => .ok (.mk 15 (bs []) 0 (cur E s).at_ [x]) s' else nameR E s).bind fun k s =>
    (wantR E [41] s).bind fun _ s => (nameR E s).bind fun x s => (paramsR E K s).bind fun p s => (blockR E K s).bind fun b s =>
    .ok (.mk 6 x.text 0 at_ [(me.withKind 12).withKids [k], p, b]) s
  else (nameR E s).bind fun x s => (paramsR E K s).bind fun p s => (blockR E K s).bind fun b s => .ok (.mk 5 x.text 0 at_ [p, b]) s
def declR (s : Rs) : Rr Nd :=
  if isT E s [116, 121, 112, 101] then (nameR E (adv s 1)).bind fun x s1 =>
    if isT E s1 [115, 116, 114, 117, 99, 116] then (itemsR E K (fieldR E) (adv s1 1)).bind fun l s2 => .ok (.mk 3 x.text 0 (cur E s).at_ l) s2
    else (wantR E [61] s1).bind fun _ s2 => (kindR E [[109, 97, 112], [102, 117, 110, 99]] s2).bind fun k s2 => .ok (.mk 2 x.text 0 (cur E s).at_ [k]) s2
  else if isT E s [112, 114, 111, 116, 111, 99, 111, 108] then (nameR E (adv s 1)).bind fun x s1 => (itemsR E K (wishR E) s1).bind fun l s2 => .ok (.mk 4 x.text 0 (cur E s).at_ l) s2
  else if isT E s [102, 117, 110, 99] then functionR E K (cur E s).at_ (adv s 1)
  else if isT E s [118, 97, 114] then (nameR E (adv s 1)).bind fun x s1 => (wantR E [61] s1).bind fun _ s1 => (K.expr s1).bind fun e s2 => .ok (.mk 7 x.text 0 (cur E s).at_ [e]) s2
  else .bad s.i
def declsL : Nat → Nd → Rs → Rr Nd
  | 0, _, _ => .out
  | f + 1, a, s => if E.n ≤ s.i then .ok a s else
    (declR E K s).bind fun x s => if decide (s.i < (endsS E s).i) || decide (E.n ≤ (endsS E s).i) then declsL f (a.push x) (endsS E s) else .bad (endsS E s).i
/-- The three forms. -/
def programR (s : Rs) : Rr Nd := declsL E K K.fuel (.mk 1 (bs []) 0 (cur E s).at_ []) (endsS E s)
def exprFormR (s : Rs) : Rr Nd := (exprR E K s).bind fun x s => .ok x (endsS E s)
def stmtsFormR (s : Rs) : Rr Nd := stmtsR E K 0 s
end

/-- The knot: each for so many rounds. -/
def kn (E : Env) : Nat → Kn
  | 0 => ⟨fun _ => .out, fun _ => .out, fun _ _ => .out, fun _ => .out, 0⟩
  | m + 1 => ⟨exprR E (kn E m), unaryR E (kn E m), stmtsR E (kn E m), branchR E (kn E m), m + 1⟩

/-- A whole reading: the tree, or the place of what can't stand. -/
def readR (E : Env) (form : Rs → Rr Nd) : Rr Nd := (form ⟨0, false, false, false⟩).bind fun x s => if s.i < E.n then .bad s.i else .ok x s

end Go.Proofs.YtokhfhibdeneeaaGreatDoor

namespace Go.Proofs.YtokhfhibdeneeaaGreatDoor

/-- Behind the last token there is none. -/
def Env.Ok (E : Env) : Prop := ∀ i, E.n ≤ i → (E.tok i).kind = 0

/-- An answer; where there is something, it ends at or behind a place, and within the tokens. -/
def Rr.Gd {α : Type} (E : Env) (lo : Nat) : Rr α → Prop
  | .ok _ s => lo ≤ s.i ∧ s.i ≤ E.n
  | .bad i => i ≤ E.n
  | .out => False
theorem Rr.Gd.bind {α β : Type} {E : Env} {lo lo' : Nat} {r : Rr α} {k : α → Rs → Rr β} (h : r.Gd E lo) (hk : ∀ x s, lo ≤ s.i → s.i ≤ E.n → (k x s).Gd E lo') : (r.bind k).Gd E lo' := by
  cases r with
  | ok x s => exact hk x s h.1 h.2
  | bad i => exact h
  | out => exact h
theorem Rr.Gd.le {α : Type} {E : Env} {lo lo' : Nat} {r : Rr α} (h : r.Gd E lo) (hl : lo' ≤ lo) : r.Gd E lo' := by
  cases r with
  | ok x s => exact ⟨Nat.le_trans hl h.1, h.2⟩
  | bad i => exact h
  | out => exact h
theorem Rr.Gd.ite {α : Type} {E : Env} {lo : Nat} {c : Prop} [Decidable c] {r r' : Rr α} (h : c → r.Gd E lo) (h' : ¬c → r'.Gd E lo) : (if c then r else r').Gd E lo := by
  split
  · exact h ‹_›
  · exact h' ‹_›

section
variable {E : Env} (hE : E.Ok)
include hE
theorem kind_lt {i : Nat} (h : (E.tok i).kind ≠ 0) : i < E.n := by
  rcases Nat.lt_or_ge i E.n with h' | h'
  · exact h'
  · exact absurd (hE i h') h
theorem isW_lt {i : Nat} {w : List UInt8} (h : isW (E.tok i) w = true) : i < E.n := by
  refine kind_lt hE fun e => ?_
  simp [isW, e] at h
theorem isT_lt {s : Rs} {w : List UInt8} (h : isT E s w = true) : s.i < E.n := isW_lt hE h
theorem named_lt {i : Nat} (h : namedB (E.tok i) = true) : i < E.n := by
  refine kind_lt hE fun e => ?_
  simp [namedB, e] at h
theorem gd_want (w : List UInt8) (s : Rs) (hs : s.i ≤ E.n) : (wantR E w s).Gd E (s.i + 1) := by
  unfold wantR
  split
  · next h => exact ⟨Nat.le_refl _, isT_lt hE h⟩
  · exact hs
theorem gd_name (s : Rs) (hs : s.i ≤ E.n) : (nameR E s).Gd E (s.i + 1) := by
  unfold nameR
  split
  · next h => exact ⟨Nat.le_refl _, named_lt hE h⟩
  · exact hs
omit hE in
theorem ends_le : ∀ f i, i + f ≤ E.n → i + endsN E f i ≤ E.n
  | 0, i, h => h
  | f + 1, i, h => by
    unfold endsN
    split
    · have := ends_le f (i + 1) (by omega); omega
    · omega
omit hE in
theorem endsS_ge (s : Rs) : s.i ≤ (endsS E s).i := Nat.le_add_right _ _
omit hE in
theorem endsS_le (s : Rs) (hs : s.i ≤ E.n) : (endsS E s).i ≤ E.n := ends_le _ _ (by omega)
theorem gd_kind : ∀ (ws : List (List UInt8)) (s : Rs), s.i ≤ E.n → (kindR E ws s).Gd E (s.i + 1)
  | [], s, hs => gd_name hE s hs
  | w :: ws, s, hs => by
    unfold kindR
    split
    · next h => exact ⟨Nat.le_refl _, isT_lt hE h⟩
    · exact gd_kind ws s hs
theorem gd_typ1 (ws : List (List UInt8)) (s : Rs) (hs : s.i ≤ E.n) : (typ1R E ws s).Gd E (s.i + 1) := by
  unfold typ1R
  split
  · next h =>
    have := isT_lt hE h
    exact (gd_name hE (adv s 1) this).bind fun x s' h1 h2 => ⟨by simp only [adv] at h1; omega, h2⟩
  · exact gd_kind hE ws s hs
theorem gd_row {α : Type} (w : List UInt8) (part : α → Rs → Rr α) (lo : Nat) (hp : ∀ a s, lo ≤ s.i → s.i ≤ E.n → (part a s).Gd E (s.i + 1)) : ∀ f a (s : Rs), lo ≤ s.i → s.i ≤ E.n → E.n < s.i + f → (rowR E w part f a s).Gd E s.i
  | 0, a, s, _, hs, h => by omega
  | f + 1, a, s, hl, hs, h => by
    unfold rowR
    split
    · exact ⟨Nat.le_refl _, hs⟩
    · refine (hp a s hl hs).bind fun a s' h1 h2 => ?_
      split
      · next h3 =>
        have := isT_lt hE h3
        exact (gd_row w part lo hp f a (adv s' 1) (by simp only [adv]; omega) this (by simp only [adv]; omega)).le (by simp only [adv]; omega)
      · split
        · exact (gd_row w part lo hp f a s' (by omega) h2 (by omega)).le (by omega)
        · exact h2
theorem gd_open {α : Type} (b e : List UInt8) (within : α → Rs → Rr α) (a : α) (s : Rs) (hs : s.i ≤ E.n) (hw : ∀ a s', s.i + 1 ≤ s'.i → s'.i ≤ E.n → (within a s').Gd E s'.i) : (openR E b e within a s).Gd E (s.i + 2) := by
  unfold openR
  refine (gd_want hE b s hs).bind fun _ s1 h1 h2 => ?_
  refine (hw a { s1 with head := false, typ := false } h1 h2).bind fun a s2 h3 h4 => ?_
  refine (gd_want hE e { s2 with head := s1.head, typ := s1.typ } h4).bind fun _ s3 h5 h6 => ⟨?_, h6⟩
  simp only at h3 h5
  omega

/-- What holds of the knot for so many rounds. -/
structure KGd (E : Env) (K : Kn) (lo : Nat) : Prop where
  expr : ∀ s : Rs, lo ≤ s.i → s.i ≤ E.n → (K.expr s).Gd E (s.i + 1)
  unary : ∀ s : Rs, lo ≤ s.i → s.i ≤ E.n → (K.unary s).Gd E (s.i + 1)
  stmts : ∀ a (s : Rs), lo ≤ s.i → s.i ≤ E.n → (K.stmts a s).Gd E s.i
  branch : ∀ s : Rs, lo ≤ s.i → s.i ≤ E.n → (K.branch s).Gd E (s.i + 1)
  fuel : E.n + 1 < lo + K.fuel
omit hE in
theorem KGd.up {K : Kn} {lo lo' : Nat} (h : KGd E K lo) (hl : lo ≤ lo') : KGd E K lo' :=
  ⟨fun s h1 => h.expr s (by omega), fun s h1 => h.unary s (by omega), fun a s h1 => h.stmts a s (by omega), fun s h1 => h.branch s (by omega), by have := h.fuel; omega⟩
variable {K : Kn} {lo : Nat} (hK : KGd E K lo)
include hK
omit hE in
theorem gd_exprPush (a : Nd) (s : Rs) (hl : lo ≤ s.i) (hs : s.i ≤ E.n) : (exprPush K a s).Gd E (s.i + 1) := (hK.expr s hl hs).bind fun _ _ h1 h2 => ⟨h1, h2⟩
omit hK in
theorem gd_namePush (a : Nd) (s : Rs) (hs : s.i ≤ E.n) : (namePush E a s).Gd E (s.i + 1) := (gd_name hE s hs).bind fun _ _ h1 h2 => ⟨h1, h2⟩
theorem gd_pair (a : Nd) (s : Rs) (hl : lo ≤ s.i) (hs : s.i ≤ E.n) : (pairM E K a s).Gd E (s.i + 1) := by
  unfold pairM
  refine (gd_name hE s hs).bind fun _ s1 h1 h2 => (gd_want hE _ s1 h2).bind fun _ s2 h3 h4 => (hK.expr s2 (by omega) h4).bind fun _ s3 h5 h6 => ⟨by omega, h6⟩
theorem gd_make (a : Nd) (s : Rs) (hl : lo ≤ s.i + 1) (hs : s.i ≤ E.n) : (makeR E K a s).Gd E (s.i + 2) :=
  gd_open hE _ _ _ _ s hs fun _ s' h1 h2 => gd_row hE _ _ lo (fun a s h => gd_pair hE hK a s h) K.fuel _ s' (by omega) h2 (by have := hK.fuel; omega)
theorem gd_map (a : Nd) (s : Rs) (hl : lo ≤ s.i) (hs : s.i ≤ E.n) : (mapM E K a s).Gd E (s.i + 1) := by
  unfold mapM
  refine (hK.expr s hl hs).bind fun _ s1 h1 h2 => (gd_want hE _ s1 h2).bind fun _ s2 h3 h4 => (hK.expr s2 (by omega) h4).bind fun _ s3 h5 h6 => ⟨by omega, h6⟩
theorem gd_index0 (a : Nd) (s : Rs) (hl : lo ≤ s.i) (hs : s.i ≤ E.n) : (indexM E K a s).Gd E s.i := by
  unfold indexM
  refine Rr.Gd.bind (lo := s.i) (.ite (fun _ => ⟨Nat.le_refl _, hs⟩) fun _ => (hK.expr s hl hs).le (by omega)) fun x s1 h1 h2 => ?_
  refine .ite (fun h => ?_) fun _ => ⟨h1, h2⟩
  have h3 := isT_lt hE h
  refine .ite (fun _ => ⟨by simp only [adv]; omega, h3⟩) fun _ => ?_
  refine (hK.expr (adv s1 1) (by simp only [adv]; omega) h3).bind fun y s2 h4 h5 => ?_
  simp only [adv] at h4
  refine .ite (fun h => ?_) fun _ => ⟨by omega, h5⟩
  have h6 := isT_lt hE h
  exact (hK.expr (adv s2 1) (by simp only [adv]; omega) h6).bind fun _ s3 h7 h8 => ⟨by simp only [adv] at h7; omega, h8⟩
theorem gd_index (a : Nd) (s : Rs) (hl : lo ≤ s.i + 1) (hs : s.i ≤ E.n) : (indexR E K a s).Gd E (s.i + 2) :=
  gd_open hE _ _ _ _ s hs fun a s' h1 h2 => gd_index0 hE hK a s' (by omega) h2
theorem gd_params (s : Rs) (hl : lo ≤ s.i + 1) (hs : s.i ≤ E.n) : (paramsR E K s).Gd E (s.i + 2) :=
  gd_open hE _ _ _ _ s hs fun _ s' h1 h2 => gd_row hE _ _ lo (fun a s _ => gd_namePush hE a s) K.fuel _ s' (by omega) h2 (by have := hK.fuel; omega)
theorem gd_block (s : Rs) (hl : lo ≤ s.i + 1) (hs : s.i ≤ E.n) : (blockR E K s).Gd E (s.i + 2) :=
  gd_open hE _ _ _ _ s hs fun _ s' h1 h2 => hK.stmts _ s' (by omega) h2
theorem gd_bracketed (s : Rs) (hl : lo ≤ s.i + 1) (hs : s.i ≤ E.n) : (bracketedR E K s).Gd E (s.i + 1) := by
  unfold bracketedR
  refine .ite (fun _ => (gd_open hE _ _ _ _ s hs fun _ s' h1 h2 => (hK.expr s' (by omega) h2).le (by omega)).le (by omega)) fun _ => ?_
  refine .ite (fun _ => (gd_open hE _ _ _ _ s hs fun _ s' h1 h2 => gd_row hE _ _ lo (fun a s h => gd_exprPush hK a s h) K.fuel _ s' (by omega) h2 (by have := hK.fuel; omega)).le (by omega)) fun _ => ?_
  refine .ite (fun h => ?_) fun _ => ?_
  · have h3 : s.i + 1 < E.n := isW_lt hE (by simp only [Bool.and_eq_true] at h; exact h.2)
    refine (gd_typ1 hE _ (adv s 2) h3).bind fun _ s1 h4 h5 => (gd_want hE _ s1 h5).bind fun _ s2 h6 h7 => ⟨by simp only [adv] at h4; omega, h7⟩
  refine .ite (fun h => ?_) fun _ => ?_
  · have h3 : s.i < E.n := by
      simp only [Bool.or_eq_true, Bool.and_eq_true] at h
      rcases h with h | h | h | h
      · exact isT_lt hE h
      · exact isT_lt hE h
      · exact isT_lt hE h
      · exact isT_lt hE h.1
    exact ⟨Nat.le_refl _, h3⟩
  refine .ite (fun h => ?_) fun _ => ?_
  · have h3 := isT_lt hE h
    refine (gd_params hE hK (adv s 1) (by simp only [adv]; omega) h3).bind fun _ s1 h4 h5 => (gd_block hE hK s1 (by simp only [adv] at h4; omega) h5).bind fun _ s2 h6 h7 => ⟨by simp only [adv] at h4; omega, h7⟩
  refine .ite (fun h => ?_) fun _ => hs
  have h3 := isT_lt hE h
  exact (gd_open hE _ _ _ _ (adv s 1) h3 fun _ s' h1 h2 => gd_row hE _ _ lo (fun a s h => gd_map hE hK a s h) K.fuel _ s' (by simp only [adv] at h1; omega) h2 (by have := hK.fuel; simp only [adv] at h1; omega)).le (by simp only [adv]; omega)
theorem gd_prime (s : Rs) (hl : lo ≤ s.i + 1) (hs : s.i ≤ E.n) : (primeR E K s).Gd E (s.i + 1) := by
  unfold primeR
  have hk : ∀ k : Int, k ≠ 0 → ((cur E s).kind == k) = true → s.i < E.n := fun k hk h => kind_lt hE fun e => hk (by simp only [cur, e] at h; simp at h; exact h.symm)
  refine .ite (fun h => ⟨Nat.le_refl _, hk 4 (by decide) h⟩) fun _ => ?_
  refine .ite (fun h => ⟨Nat.le_refl _, hk 5 (by decide) h⟩) fun _ => ?_
  refine .ite (fun h => ⟨Nat.le_refl _, hk 6 (by decide) h⟩) fun _ => ?_
  refine .ite (fun h => ?_) fun _ => gd_bracketed hE hK s hl hs
  refine (gd_name hE s hs).bind fun _ s1 h1 h2 => .ite (fun _ => (gd_make hE hK _ s1 (by omega) h2).le (by omega)) fun _ => ⟨h1, h2⟩
theorem gd_postL : ∀ f a (s : Rs), lo ≤ s.i → s.i ≤ E.n → E.n < s.i + f → (postL E K f a s).Gd E s.i
  | 0, a, s, _, hs, h => by omega
  | f + 1, a, s, hl, hs, h => by
    unfold postL
    refine .ite (fun _ => (gd_index hE hK a s (by omega) hs).bind fun x s1 h1 h2 => (gd_postL f x s1 (by omega) h2 (by omega)).le (by omega)) fun _ => ?_
    refine .ite (fun _ => Rr.Gd.bind (lo := s.i + 2) (gd_open hE _ _ _ _ s hs fun _ s' h1 h2 => gd_row hE _ _ lo (fun a s h => gd_exprPush hK a s h) K.fuel _ s' (by omega) h2 (by have := hK.fuel; omega)) fun x s1 h1 h2 => (gd_postL f x s1 (by omega) h2 (by omega)).le (by omega)) fun _ => ?_
    refine .ite (fun h => ?_) fun _ => ?_
    · have h3 : s.i + 1 < E.n := isW_lt hE (by simp only [Bool.and_eq_true] at h; exact h.2)
      refine .ite (fun h => ?_) fun _ => ?_
      · have h4 : s.i + 2 < E.n := isT_lt hE (s := adv s 2) (by simp only [Bool.and_eq_true] at h; exact h.2)
        exact (gd_want hE _ (adv s 3) h4).bind fun _ s1 h1 h2 => ⟨by simp only [adv] at h1; show s.i ≤ s1.i; omega, h2⟩
      · refine (gd_typ1 hE _ (adv s 2) h3).bind fun x s1 h4 h5 => (gd_want hE _ s1 h5).bind fun _ s2 h6 h7 => ?_
        simp only [adv] at h4
        exact (gd_postL f _ s2 (by omega) h7 (by omega)).le (by omega)
    refine .ite (fun h => ?_) fun _ => ⟨Nat.le_refl _, hs⟩
    have h3 := isT_lt hE h
    refine (gd_name hE (adv s 1) h3).bind fun x s1 h4 h5 => ?_
    simp only [adv] at h4
    exact (gd_postL f _ s1 (by omega) h5 (by omega)).le (by omega)
theorem gd_post (s : Rs) (hl : lo ≤ s.i + 1) (hs : s.i ≤ E.n) : (postR E K s).Gd E (s.i + 1) :=
  (gd_prime hE hK s hl hs).bind fun a s1 h1 h2 => (gd_postL hE hK K.fuel a s1 (by omega) h2 (by have := hK.fuel; omega)).le h1
theorem gd_unary (s : Rs) (hl : lo ≤ s.i + 1) (hs : s.i ≤ E.n) : (unaryR E K s).Gd E (s.i + 1) := by
  unfold unaryR
  refine .ite (fun h => ?_) fun _ => gd_post hE hK s hl hs
  have h3 : s.i < E.n := kind_lt hE fun e => by simp only [cur, e] at h; simp at h
  refine .ite (fun _ => ?_) fun _ => .ite (fun _ => ?_) fun _ => gd_post hE hK s hl hs
  · exact (hK.unary { adv s 1 with typ := false } (by simp only [adv]; omega) h3).bind fun _ s1 h1 h2 => ⟨by simp only [adv] at h1; omega, h2⟩
  · refine (gd_name hE (adv s 1) h3).bind fun x s1 h4 h5 => ?_
    simp only [adv] at h4
    exact (gd_make hE hK x s1 (by omega) h5).bind fun _ s2 h6 h7 => ⟨by omega, h7⟩
omit hK in
theorem gd_signs (next : Rs → Rr Nd) (ws : List (List UInt8)) (lo : Nat) (hn : ∀ s : Rs, lo ≤ s.i → s.i ≤ E.n → (next s).Gd E (s.i + 1)) : ∀ f a (s : Rs), lo ≤ s.i → s.i ≤ E.n → E.n < s.i + f → (signsR E next ws f a s).Gd E s.i
  | 0, a, s, _, hs, h => by omega
  | f + 1, a, s, hl, hs, h => by
    unfold signsR
    refine .ite (fun _ => ⟨Nat.le_refl _, hs⟩) fun _ => ?_
    split
    · exact ⟨Nat.le_refl _, hs⟩
    · next w hw =>
      have h3 := isT_lt hE (List.find?_some hw)
      refine (hn { adv s 1 with typ := false } (by simp only [adv]; omega) h3).bind fun x s1 h4 h5 => ?_
      simp only [adv] at h4
      exact (gd_signs next ws lo hn f _ s1 (by omega) h5 (by omega)).le (by omega)
theorem gd_level (s0 : Nat) (hl0 : lo ≤ s0 + 1) (hu : ∀ s : Rs, s0 ≤ s.i → s.i ≤ E.n → (K.unary s).Gd E (s.i + 1)) : ∀ (l : List (List (List UInt8))) (s : Rs), s0 ≤ s.i → s.i ≤ E.n → (levelR E K l s).Gd E (s.i + 1)
  | [], s, hl, hs => hu s hl hs
  | ws :: l, s, hl, hs => by
    unfold levelR
    refine (gd_level s0 hl0 hu l s hl hs).bind fun a s1 h1 h2 => ?_
    exact (gd_signs hE (levelR E K l) ws s0 (gd_level s0 hl0 hu l) K.fuel a s1 (by omega) h2 (by have := hK.fuel; omega)).le h1
theorem gd_two (s : Rs) (hl : lo ≤ s.i + 1) (hs : s.i ≤ E.n) : (twoR E K s).Gd E (s.i + 1) := by
  unfold twoR
  refine (gd_name hE s hs).bind fun x s1 h1 h2 => (gd_want hE _ s1 h2).bind fun _ s2 h3 h4 => (gd_name hE s2 h4).bind fun y s3 h5 h6 => ?_
  refine Rr.Gd.bind (lo := s3.i) (.ite (fun h => ⟨Nat.le_add_right _ _, isT_lt hE h⟩) fun _ => (gd_want hE _ s3 h6).bind fun _ s4 h7 h8 => ⟨by omega, h8⟩) fun k s4 h7 h8 => ?_
  refine (gd_post hE hK s4 (by omega) h8).bind fun e s5 h9 h10 => .ite (fun _ => ⟨by omega, h10⟩) fun _ => h10
theorem gd_simple (s : Rs) (hl : lo ≤ s.i + 1) (hs : s.i ≤ E.n) (hu : isT E s [42] = true → (K.unary s).Gd E (s.i + 1)) : (simpleR E K s).Gd E (s.i + 1) := by
  unfold simpleR
  refine Rr.Gd.bind (lo := s.i + 1) (.ite (fun h => hu h) fun _ => gd_post hE hK s hl hs) fun e s1 h1 h2 => ?_
  refine .ite (fun _ => ⟨h1, h2⟩) fun _ => .ite (fun _ => h2) fun h => ?_
  have h3 : s1.i < E.n := kind_lt hE fun e => by simp [cur, e] at h
  refine .ite (fun _ => ⟨by simp only [adv]; omega, h3⟩) fun _ => .ite (fun _ => ?_) fun _ => h2
  exact (hK.expr (adv s1 1) (by simp only [adv]; omega) h3).bind fun _ s2 h4 h5 => ⟨by simp only [adv] at h4; omega, h5⟩
omit hE hK in
theorem gd_within (form : Rs → Rr Nd) (typ : Bool) (s : Rs) {lo' : Nat} (hf : ∀ s' : Rs, s'.i = s.i → (form s').Gd E lo') : (withinR form typ s).Gd E lo' :=
  (hf { s with head := true, typ := typ, done := false } rfl).bind fun _ _ h1 h2 => ⟨h1, h2⟩
omit hE in
theorem gd_inHead (s : Rs) (hl : lo ≤ s.i) (hs : s.i ≤ E.n) : (inHeadR K s).Gd E (s.i + 1) :=
  (gd_within K.expr false s fun s' h => by rw [← h]; exact hK.expr s' (by omega) (by omega)).bind fun _ _ h1 h2 => ⟨h1, h2⟩
theorem gd_branch (s : Rs) (hl : lo ≤ s.i + 1) (hs : s.i ≤ E.n) : (branchR E K s).Gd E (s.i + 1) := by
  unfold branchR
  refine (gd_want hE _ s hs).bind fun t s1 h1 h2 => (gd_inHead hK s1 (by omega) h2).bind fun x s2 h3 h4 => (gd_block hE hK s2 (by omega) h4).bind fun y s3 h5 h6 => ?_
  refine .ite (fun h => ?_) fun _ => ⟨by omega, h6⟩
  have h7 := isT_lt hE h
  refine Rr.Gd.bind (lo := s3.i + 2) (.ite (fun _ => hK.branch (adv s3 1) (by simp only [adv]; omega) h7) fun _ => (gd_block hE hK (adv s3 1) (by simp only [adv]; omega) h7).le (by simp only [adv]; omega)) fun z s4 h8 h9 => ⟨by omega, h9⟩
omit hK in
theorem gd_item (s : Rs) (hs : s.i ≤ E.n) : (itemR E s).Gd E (s.i + 1) := by
  unfold itemR
  refine .ite (fun h => ⟨Nat.le_refl _, kind_lt hE fun e => by simp [cur, e] at h⟩) fun _ => gd_name hE s hs
omit hK in
theorem gd_more (part : Rs → Rr Nd) (hp : ∀ s : Rs, lo ≤ s.i → s.i ≤ E.n → (part s).Gd E (s.i + 1)) : ∀ f a (s : Rs), lo ≤ s.i → s.i ≤ E.n → E.n < s.i + f → (moreL E part f a s).Gd E s.i
  | 0, a, s, _, hs, h => by omega
  | f + 1, a, s, hl, hs, h => by
    unfold moreL
    refine .ite (fun h => ?_) fun _ => ⟨Nat.le_refl _, hs⟩
    have h3 := isT_lt hE h
    refine .ite (fun _ => ⟨Nat.le_add_right _ _, h3⟩) fun _ => (hp (adv s 1) (by simp only [adv]; omega) h3).bind fun x s1 h4 h5 => ?_
    simp only [adv] at h4
    exact (gd_more part hp f _ s1 (by omega) h5 (by omega)).le (by omega)
theorem gd_cased (part : Rs → Rr Nd) (hp : ∀ s : Rs, lo ≤ s.i → s.i ≤ E.n → (part s).Gd E (s.i + 1)) (s : Rs) (hl : lo ≤ s.i) (hs : s.i ≤ E.n) : (casedR E K part s).Gd E (s.i + 1) := by
  unfold casedR
  refine Rr.Gd.bind (lo := s.i + 1) (.ite (fun h => ?_) fun _ => ?_) fun p s1 h1 h2 => (hK.stmts p.2 s1 (by omega) h2).bind fun _ s2 h3 h4 => ⟨by omega, h4⟩
  · have h3 := isT_lt hE h
    exact (gd_want hE _ (adv s 1) h3).bind fun _ s1 h1 h2 => ⟨by simp only [adv] at h1; omega, h2⟩
  · refine (gd_want hE _ s hs).bind fun _ s1 h1 h2 => (hp s1 (by omega) h2).bind fun x s2 h3 h4 => ?_
    refine (gd_more hE part hp K.fuel _ s2 (by omega) h4 (by have := hK.fuel; omega)).bind fun l s3 h5 h6 => (gd_want hE _ s3 h6).bind fun _ s4 h7 h8 => ⟨by omega, h8⟩
omit hE hK in
theorem gd_cases (cased : Rs → Rr Nd) (hp : ∀ s : Rs, lo ≤ s.i → s.i ≤ E.n → (cased s).Gd E (s.i + 1)) : ∀ f a (s : Rs), lo ≤ s.i → s.i ≤ E.n → E.n < s.i + f → (casesL E cased f a s).Gd E s.i
  | 0, a, s, _, hs, h => by omega
  | f + 1, a, s, hl, hs, h => by
    unfold casesL
    refine .ite (fun _ => ⟨Nat.le_refl _, hs⟩) fun _ => (hp s hl hs).bind fun x s1 h4 h5 => ?_
    exact (gd_cases cased hp f _ s1 (by omega) h5 (by omega)).le (by omega)
theorem gd_choice (label : List UInt8) (at_ : Int) (s : Rs) (hl : lo ≤ s.i) (hs : s.i ≤ E.n) : (choiceR E K label at_ s).Gd E (s.i + 1) := by
  unfold choiceR
  refine Rr.Gd.bind (lo := s.i) (.ite (fun h => ?_) fun _ => .ite (fun _ => ⟨Nat.le_refl _, hs⟩) fun _ => ?_) fun a s1 h1 h2 => ?_
  · refine (gd_name hE s hs).bind fun v s1 h1 h2 => (gd_want hE _ s1 h2).bind fun _ s2 h3 h4 => (gd_within (postR E K) true s2 (lo' := s2.i + 1) fun s' h => by rw [← h]; exact gd_post hE hK s' (by omega) (by omega)).bind fun e s3 h5 h6 => ?_
    exact .ite (fun _ => ⟨by omega, h6⟩) fun _ => h6
  · refine (gd_within K.expr true s (lo' := s.i + 1) fun s' h => by rw [← h]; exact hK.expr s' (by omega) (by omega)).bind fun e s3 h5 h6 => ?_
    exact .ite (fun _ => ⟨by omega, h6⟩) fun _ => ⟨by omega, h6⟩
  · refine (gd_open hE _ _ _ _ s1 h2 fun a s' h3 h4 => ?_).le (by omega)
    have h5 := endsS_le s' h4
    have h6 := endsS_ge (E := E) s'
    refine (gd_cases _ (fun s h1 h2 => gd_cased hE hK _ (fun s h1 h2 => ?_) s h1 h2) K.fuel a _ (by omega) h5 (by have := hK.fuel; omega)).le h6
    split
    · exact gd_typ1 hE _ s h2
    · exact hK.expr s h1 h2
theorem gd_labelled (label : List UInt8) (at_ : Int) (s : Rs) (hl : lo ≤ s.i + 1) (hs : s.i ≤ E.n) : (labelledR E K label at_ s).Gd E (s.i + 1) := by
  unfold labelledR
  refine .ite (fun h => ?_) fun _ => (gd_want hE _ s hs).bind fun _ s1 h1 h2 => ?_
  · have h3 := isT_lt hE h
    exact (gd_choice hE hK label at_ (adv s 1) (by simp only [adv]; omega) h3).le (by simp only [adv]; omega)
  refine .ite (fun h => ?_) fun _ => ?_
  · refine (gd_item hE s1 h2).bind fun x s2 h3 h4 => ?_
    refine Rr.Gd.bind (lo := s2.i) (.ite (fun h => (gd_item hE (adv s2 1) (isT_lt hE h)).le (by simp only [adv]; omega)) fun _ => ⟨Nat.le_refl _, h4⟩) fun y s3 h5 h6 => ?_
    refine (gd_want hE _ s3 h6).bind fun _ s4 h7 h8 => (gd_inHead hK s4 (by omega) h8).bind fun e s5 h9 h10 => (gd_block hE hK s5 (by omega) h10).bind fun b s6 h11 h12 => ⟨by omega, h12⟩
  · refine Rr.Gd.bind (lo := s1.i) (.ite (fun h => ⟨Nat.le_refl _, h2⟩) fun _ => (gd_inHead hK s1 (by omega) h2).le (by omega)) fun c s2 h3 h4 => ?_
    exact (gd_block hE hK s2 (by omega) h4).bind fun b s3 h5 h6 => ⟨by omega, h6⟩
omit hE hK in
theorem gd_leave (k a : Int) (s : Rs) (hE : E.Ok) (hs : s.i ≤ E.n) : (leaveR E k a s).Gd E s.i := by
  unfold leaveR
  exact .ite (fun h => ⟨Nat.le_add_right _ _, named_lt hE h⟩) fun _ => ⟨Nat.le_refl _, hs⟩
omit hE in
theorem gd_return (t : Tk) (s : Rs) (hl : lo ≤ s.i) (hs : s.i ≤ E.n) : (returnR E K t s).Gd E s.i := by
  unfold returnR
  exact .ite (fun h => ⟨Nat.le_refl _, hs⟩) fun _ => (hK.expr s hl hs).bind fun _ _ h1 h2 => ⟨by omega, h2⟩
theorem gd_stmt (s : Rs) (hl : lo ≤ s.i + 1) (hs : s.i ≤ E.n) (hu : isT E s [42] = true → (K.unary s).Gd E (s.i + 1)) (hb : isT E s [105, 102] = true → (K.branch s).Gd E (s.i + 1)) : (stmtR E K s).Gd E (s.i + 1) := by
  unfold stmtR
  have h2 : ∀ w, (namedB (cur E s) && isW (nxt E s) w) = true → s.i + 1 < E.n := fun w h => isW_lt hE (by simp only [Bool.and_eq_true] at h; exact h.2)
  refine .ite (fun h => (gd_block hE hK s (by omega) hs).le (by omega)) fun _ => ?_
  refine .ite (fun h => ?_) fun _ => ?_
  · exact (hK.expr (adv s 2) (by simp only [adv]; omega) (h2 _ h)).bind fun _ s1 h3 h4 => ⟨by simp only [adv] at h3; omega, h4⟩
  refine .ite (fun h => gd_two hE hK s hl hs) fun _ => ?_
  refine .ite (fun h => ?_) fun _ => ?_
  · exact .ite (fun _ => (gd_labelled hE hK _ _ (adv s 2) (by simp only [adv]; omega) (h2 _ h)).le (by simp only [adv]; omega)) fun _ => h2 _ h
  refine .ite (fun h => gd_labelled hE hK _ _ s hl hs) fun _ => ?_
  refine .ite (fun h => hb h) fun _ => ?_
  refine .ite (fun h => ?_) fun _ => ?_
  · exact (gd_return hK _ (adv s 1) (by simp only [adv]; omega) (isT_lt hE h)).le (by simp only [adv]; omega)
  refine .ite (fun h => ?_) fun _ => ?_
  · exact (gd_post hE hK (adv s 1) (by simp only [adv]; omega) (isT_lt hE h)).bind fun _ s1 h3 h4 => .ite (fun _ => ⟨by simp only [adv] at h3; omega, h4⟩) fun _ => h4
  refine .ite (fun h => (gd_leave _ _ (adv s 1) hE (isT_lt hE h)).le (by simp only [adv]; omega)) fun _ => ?_
  refine .ite (fun h => (gd_leave _ _ (adv s 1) hE (isT_lt hE h)).le (by simp only [adv]; omega)) fun _ => ?_
  refine .ite (fun h => ⟨Nat.le_refl _, isT_lt hE h⟩) fun _ => gd_simple hE hK s hl hs hu
omit hK hE in
theorem gd_stmtsL (stmt : Rs → Rr Nd) (lo : Nat) (hp : ∀ s : Rs, lo ≤ s.i → s.i ≤ E.n → (stmt s).Gd E (s.i + 1)) : ∀ f a (s : Rs), lo ≤ s.i → s.i ≤ E.n → E.n < s.i + f → (stmtsL E stmt f a s).Gd E s.i
  | 0, a, s, _, hs, h => by omega
  | f + 1, a, s, hl, hs, h => by
    unfold stmtsL
    refine .ite (fun _ => ⟨Nat.le_refl _, hs⟩) fun _ => (hp s hl hs).bind fun x s1 h4 h5 => ?_
    have h6 := endsS_le s1 h5
    have h7 := endsS_ge (E := E) s1
    exact .ite (fun _ => (gd_stmtsL stmt lo hp f _ _ (by omega) h6 (by omega)).le (by omega)) fun _ => h6

/-- The knot's own law: so many rounds are enough. -/
structure KnOk (E : Env) (m : Nat) : Prop where
  expr : ∀ s : Rs, s.i ≤ E.n → 4 * (E.n - s.i) + 6 ≤ m → ((kn E m).expr s).Gd E (s.i + 1)
  unary : ∀ s : Rs, s.i ≤ E.n → 4 * (E.n - s.i) + 5 ≤ m → ((kn E m).unary s).Gd E (s.i + 1)
  stmts : ∀ a (s : Rs), s.i ≤ E.n → 4 * (E.n - s.i) + 6 ≤ m → ((kn E m).stmts a s).Gd E s.i
  branch : ∀ s : Rs, s.i ≤ E.n → 4 * (E.n - s.i) + 5 ≤ m → ((kn E m).branch s).Gd E (s.i + 1)
omit hE hK in
theorem kn_fuel : ∀ m, (kn E m).fuel = m
  | 0 => rfl
  | _ + 1 => rfl
omit hE hK in
theorem KnOk.gd {m lo : Nat} (h : KnOk E m) (hm : 4 * E.n + 6 ≤ m + 4 * lo) (hm1 : 1 ≤ m) : KGd E (kn E m) lo :=
  ⟨fun s h1 h2 => h.expr s h2 (by omega), fun s h1 h2 => h.unary s h2 (by omega), fun a s h1 h2 => h.stmts a s h2 (by omega), fun s h1 h2 => h.branch s h2 (by omega), by rw [kn_fuel]; omega⟩
omit hK in
theorem knOk : ∀ m, KnOk E m
  | 0 => ⟨fun s h1 h2 => by omega, fun s h1 h2 => by omega, fun a s h1 h2 => by omega, fun s h1 h2 => by omega⟩
  | m + 1 => by
    have ih := knOk m
    refine ⟨fun s h1 h2 => ?_, fun s h1 h2 => ?_, fun a s h1 h2 => ?_, fun s h1 h2 => ?_⟩
    · exact gd_level hE (lo := s.i + 1) (ih.gd (by omega) (by omega)) s.i (Nat.le_refl _) (fun s' h3 h4 => ih.unary s' h4 (by omega)) levels s (Nat.le_refl _) h1
    · exact gd_unary hE (lo := s.i + 1) (ih.gd (by omega) (by omega)) s (Nat.le_refl _) h1
    · have h3 := endsS_le s h1
      have h4 := endsS_ge (E := E) s
      refine (gd_stmtsL (stmtR E (kn E m)) s.i (fun s' h5 h6 => gd_stmt hE (lo := s'.i + 1) (ih.gd (by omega) (by omega)) s' (Nat.le_refl _) h6 (fun _ => ih.unary s' h6 (by omega)) (fun _ => ih.branch s' h6 (by omega))) _ _ _ h4 h3 (by rw [kn_fuel]; omega)).le h4
    · exact gd_branch hE (lo := s.i + 1) (ih.gd (by omega) (by omega)) s (Nat.le_refl _) h1
end
end Go.Proofs.YtokhfhibdeneeaaGreatDoor

namespace Go.Proofs.YtokhfhibdeneeaaGreatDoor
section
variable {E : Env} (hE : E.Ok)
include hE
theorem gd_field (s : Rs) (hs : s.i ≤ E.n) : (fieldR E s).Gd E (s.i + 1) := by
  unfold fieldR
  refine .ite (fun h => ?_) fun _ => (gd_name hE s hs).bind fun x s' h1 h2 => ⟨h1, h2⟩
  have h1 := isT_lt hE h
  refine .ite (fun h' => ?_) fun _ => ?_
  · have h2 := isT_lt hE h'
    exact (gd_name hE (adv s 2) (by simp only [adv] at h2 ⊢; omega)).bind fun x s' h3 h4 => ⟨by simp only [adv] at h3; omega, h4⟩
  · exact (gd_name hE (adv s 1) (by simp only [adv]; omega)).bind fun x s' h3 h4 => ⟨by simp only [adv] at h3; omega, h4⟩
theorem gd_wish (s : Rs) (hs : s.i ≤ E.n) : (wishR E s).Gd E (s.i + 1) := by
  unfold wishR
  refine (gd_name hE s hs).bind fun x s1 h1 h2 => .ite (fun h => ?_) fun _ => ⟨h1, h2⟩
  have h3 := isT_lt hE h
  refine .ite (fun h' => ?_) fun _ => (by show s1.i + 1 ≤ E.n; omega)
  have h4 : s1.i + 1 < E.n := kind_lt hE (i := s1.i + 1) (fun e => by
    have h5 : ((E.tok (s1.i + 1)).kind == 4) = true := h'
    rw [e] at h5
    cases h5)
  exact (gd_want hE _ (adv s1 2) (by simp only [adv]; omega)).bind fun _ s' h5 h6 => ⟨by simp only [adv] at h5; omega, h6⟩
omit hE in
theorem gd_itemsL (item : Rs → Rr Nd) (hp : ∀ s : Rs, s.i ≤ E.n → (item s).Gd E (s.i + 1)) : ∀ f a (s : Rs), s.i ≤ E.n → E.n < s.i + f → (itemsL E item f a s).Gd E s.i
  | 0, a, s, hs, h => by omega
  | f + 1, a, s, hs, h => by
    unfold itemsL
    refine .ite (fun _ => ⟨Nat.le_refl _, hs⟩) fun _ => (hp s hs).bind fun x s1 h4 h5 => ?_
    have h6 := endsS_le s1 h5
    have h7 := endsS_ge (E := E) s1
    exact .ite (fun _ => (gd_itemsL item hp f _ _ h6 (by omega)).le (by omega)) fun _ => h6
theorem gd_items {K : Kn} (hf : E.n < K.fuel) (item : Rs → Rr Nd) (hp : ∀ s : Rs, s.i ≤ E.n → (item s).Gd E (s.i + 1)) (s : Rs) (hs : s.i ≤ E.n) : (itemsR E K item s).Gd E (s.i + 1) := by
  unfold itemsR
  refine (gd_want hE _ s hs).bind fun _ s1 h1 h2 => ?_
  have h6 := endsS_le s1 h2
  have h7 := endsS_ge (E := E) s1
  exact (gd_itemsL item hp _ _ _ h6 (by omega)).bind fun l s2 h3 h4 => (gd_want hE _ s2 h4).bind fun _ s3 h5 h8 => ⟨by omega, h8⟩
section
variable {K : Kn} (hK : KGd E K 0)
include hK
theorem gd_function (a : Int) (s : Rs) (hs : s.i ≤ E.n) : (functionR E K a s).Gd E (s.i + 1) := by
  unfold functionR
  refine .ite (fun h => ?_) fun _ => ?_
  · refine (gd_want hE _ s hs).bind fun _ s1 h1 h2 => (gd_name hE s1 h2).bind fun me s2 h3 h4 => ?_
    refine Rr.Gd.bind (lo := s2.i + 1) ?_ fun k s3 h5 h6 => ?_
    · refine .ite (fun h' => ?_) fun _ => gd_name hE s2 h4
      have := isT_lt hE h'
      exact (gd_name hE (adv s2 1) (by simp only [adv]; omega)).bind fun x s' h7 h8 => ⟨by simp only [adv] at h7; omega, h8⟩
    · exact (gd_want hE _ s3 h6).bind fun _ s4 h7 h8 => (gd_name hE s4 h8).bind fun x s5 h9 h10 => (gd_params hE hK s5 (Nat.zero_le _) h10).bind fun p s6 h11 h12 => (gd_block hE hK s6 (Nat.zero_le _) h12).bind fun b s7 h13 h14 => ⟨by omega, h14⟩
  · exact (gd_name hE s hs).bind fun x s5 h9 h10 => (gd_params hE hK s5 (Nat.zero_le _) h10).bind fun p s6 h11 h12 => (gd_block hE hK s6 (Nat.zero_le _) h12).bind fun b s7 h13 h14 => ⟨by omega, h14⟩
theorem gd_decl (hf : E.n < K.fuel) (s : Rs) (hs : s.i ≤ E.n) : (declR E K s).Gd E (s.i + 1) := by
  unfold declR
  refine .ite (fun h => ?_) fun _ => ?_
  · have h0 := isT_lt hE h
    refine (gd_name hE (adv s 1) (by simp only [adv]; omega)).bind fun x s1 h1 h2 => .ite (fun h' => ?_) fun _ => ?_
    · have h3 := isT_lt hE h'
      exact (gd_items hE hf _ (gd_field hE) (adv s1 1) (by simp only [adv]; omega)).bind fun l s2 h4 h5 => ⟨by simp only [adv] at h1 h4; omega, h5⟩
    · exact (gd_want hE _ s1 h2).bind fun _ s2 h3 h4 => (gd_kind hE _ s2 h4).bind fun k s3 h5 h6 => ⟨by simp only [adv] at h1; omega, h6⟩
  refine .ite (fun h => ?_) fun _ => ?_
  · have h0 := isT_lt hE h
    exact (gd_name hE (adv s 1) (by simp only [adv]; omega)).bind fun x s1 h1 h2 => (gd_items hE hf _ (gd_wish hE) s1 h2).bind fun l s2 h4 h5 => ⟨by simp only [adv] at h1; omega, h5⟩
  refine .ite (fun h => ?_) fun _ => ?_
  · have h0 := isT_lt hE h
    exact (gd_function hE hK _ (adv s 1) (by simp only [adv]; omega)).le (by simp only [adv]; omega)
  refine .ite (fun h => ?_) fun _ => hs
  have h0 := isT_lt hE h
  exact (gd_name hE (adv s 1) (by simp only [adv]; omega)).bind fun x s1 h1 h2 => (gd_want hE _ s1 h2).bind fun _ s2 h3 h4 => (hK.expr s2 (Nat.zero_le _) h4).bind fun e s3 h5 h6 => ⟨by simp only [adv] at h1; omega, h6⟩
theorem gd_declsL (hf : E.n < K.fuel) : ∀ f a (s : Rs), s.i ≤ E.n → E.n < s.i + f → (declsL E K f a s).Gd E s.i
  | 0, a, s, hs, h => by omega
  | f + 1, a, s, hs, h => by
    unfold declsL
    refine .ite (fun _ => ⟨Nat.le_refl _, hs⟩) fun _ => (gd_decl hE hK hf s hs).bind fun x s1 h4 h5 => ?_
    have h6 := endsS_le s1 h5
    have h7 := endsS_ge (E := E) s1
    exact .ite (fun _ => (gd_declsL hf f _ _ h6 (by omega)).le (by omega)) fun _ => h6
end
/-- The three forms, each for so many rounds. -/
def formN (E : Env) (m : Nat) : Nat → Rs → Rr Nd
  | 0 => programR E (kn E m)
  | 1 => exprFormR E (kn E m)
  | _ => stmtsFormR E (kn E m)
theorem gd_formN {m : Nat} (hm : 4 * E.n + 10 ≤ m) (k : Nat) (s : Rs) (hs : s.i ≤ E.n) : (formN E m k s).Gd E s.i := by
  have hk : KGd E (kn E m) 0 := (knOk hE m).gd (by omega) (by omega)
  have h6 := endsS_le s hs
  have h7 := endsS_ge (E := E) s
  match k with
  | 0 => exact (gd_declsL hE hk (by rw [kn_fuel]; omega) _ _ _ h6 (by rw [kn_fuel]; omega)).le h7
  | 1 =>
    refine Rr.Gd.bind (lo := s.i) (((knOk hE (m + 1)).expr s hs (by omega)).le (by omega)) fun x s1 h1 h2 => ?_
    have h8 := endsS_le s1 h2
    have h9 := endsS_ge (E := E) s1
    exact ⟨by omega, h8⟩
  | k + 2 => exact (knOk hE (m + 1)).stmts 0 s hs (by omega)
/-- How many rounds a reading is given: enough for a hundred thousand tokens. -/
def rounds (_ : Env) : Nat := 400010
def formR (E : Env) : Nat → Rs → Rr Nd := formN E (rounds E)
theorem gd_form (hn : E.n ≤ 100000) (k : Nat) (s : Rs) (hs : s.i ≤ E.n) : (formR E k s).Gd E s.i := gd_formN hE (by unfold rounds; omega) k s hs
theorem read_ne (hn : E.n ≤ 100000) (k : Nat) : readR E (formR E k) ≠ .out := by
  have h := gd_form hE hn k ⟨0, false, false, false⟩ (Nat.zero_le _)
  unfold readR
  cases hr : formR E k ⟨0, false, false, false⟩ with
  | ok x s => simp only [Rr.bind]; split <;> (intro e; cases e)
  | bad i => intro e; cases e
  | out => rw [hr] at h; exact h.elim
theorem form_ne (hn : E.n ≤ 100000) (k : Nat) : formR E k ⟨0, false, false, false⟩ ≠ .out := fun e => by
  have h := gd_form hE hn k ⟨0, false, false, false⟩ (Nat.zero_le _)
  rw [e] at h
  exact h
end
end Go.Proofs.YtokhfhibdeneeaaGreatDoor
