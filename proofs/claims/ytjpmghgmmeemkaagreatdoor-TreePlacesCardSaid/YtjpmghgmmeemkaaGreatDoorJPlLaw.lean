/- A tree whose places are all so many further on: Right says the same of it, further on; it is the same tree; the printer writes the same. guiselaw2.TreePlaces: the walk. -/
import Derived.Test.YtjpmghgmmeemkaaGreatDoorMoved
import Derived.Test.YtjpmghgmmeemkaaGreatDoorJPrY
import Derived.Test.YtjpmghgmmeemkaaGreatDoorJScanC
import Derived.Test.YtjpmghgmmeemkaaGreatDoorTold
import Derived.Test.YtjpmghgmmeemkaaGreatDoorJSame
namespace Go.Proofs.YtjpmghgmmeemkaaGreatDoor
open Go.RowKit

theorem mv_kind (d : Int) (t : Nd) : (t.mv d).kind = t.kind := by cases t; rfl
theorem mv_text (d : Int) (t : Nd) : (t.mv d).text = t.text := by cases t; rfl
theorem mv_kids (d : Int) (t : Nd) : (t.mv d).kids = mvL d t.kids := by cases t; rfl
theorem mv_at (d : Int) (t : Nd) : (t.mv d).at_ = wrap64 (t.at_ + d) := by cases t; rfl
mutual
theorem mv_strip (d : Int) : ∀ t : Nd, (t.mv d).strip = t.strip
  | .mk k s n a ks => by
    unfold Nd.mv Nd.strip
    rw [mvL_strip d ks]
theorem mvL_strip (d : Int) : ∀ ts : List Nd, stripL (mvL d ts) = stripL ts
  | [] => rfl
  | t :: ts => by
    unfold mvL stripL
    rw [mv_strip d t, mvL_strip d ts]
end
mutual
theorem mv_same (d : Int) : ∀ t : Nd, t.same (t.mv d) = true ∧ (t.mv d).same t = true
  | .mk k s n a ks => by
    have h := mvL_same d ks
    unfold Nd.mv Nd.same
    rw [mvL_length, h.1, h.2]
    simp
theorem mvL_same (d : Int) : ∀ ts : List Nd, sameL ts (mvL d ts) = true ∧ sameL (mvL d ts) ts = true
  | [] => by unfold mvL sameL; simp
  | t :: ts => by
    have h1 := mv_same d t
    have h2 := mvL_same d ts
    unfold mvL sameL
    rw [h1.1, h1.2, h2.1, h2.2]
    simp
end
mutual
theorem mv_size (d : Int) : ∀ t : Nd, (t.mv d).size = t.size
  | .mk k s n a ks => by
    unfold Nd.mv Nd.size
    rw [mvL_size d ks]
theorem mvL_size (d : Int) : ∀ ts : List Nd, sizeL (mvL d ts) = sizeL ts
  | [] => by unfold mvL; rfl
  | t :: ts => by
    unfold mvL sizeL
    rw [mv_size d t, mvL_size d ts]
end
theorem mv_count (d : Int) (t : Nd) : (t.mv d).count 1000000 = t.count 1000000 := by
  rw [Nd.count_size _ _ (by omega), Nd.count_size _ _ (by omega), mv_size]
theorem mv_Same (d : Int) (t : Nd) (h : t.count 1000000 ≤ 1000000) : t.Same (t.mv d) = true ∧ (t.mv d).Same t = true := by
  have hs := mv_same d t
  unfold Nd.Same
  rw [mv_count, hs.1, hs.2]
  simp [h]

/-- What is wrong, so many places further on. -/
def Wr.mv (d : Int) (x : Wr) : Wr := ⟨x.code, wrap64 (x.at_ + d), x.name⟩
theorem typedOne_mv (d : Int) (t : Nd) : typedOne (t.mv d) = typedOne t := by
  unfold typedOne
  rw [mv_kind, mv_text]
theorem any_typed_mv (d : Int) : ∀ ts : List Nd, (mvL d ts).any typedOne = ts.any typedOne
  | [] => rfl
  | t :: ts => by
    unfold mvL
    rw [List.any_cons, List.any_cons, typedOne_mv, any_typed_mv d ts]
theorem typedB_mv (d : Int) (ks : List Nd) : typedB (mvL d ks) = typedB ks := by
  cases ks with
  | nil => rfl
  | cons t ts =>
    unfold mvL
    simp only [typedB, mv_kind, mv_kids, any_typed_mv]
theorem lastOf_mv (d : Int) (ks : List Nd) : lastOf (mvL d ks) = lastOf ks := by
  unfold lastOf
  rw [mvL_length, mvL_get]
  have : ∀ o : Option Nd, (o.map (Nd.mv d)).map Nd.kind = o.map Nd.kind := fun o => by cases o <;> simp [mv_kind]
  rw [this]
theorem shapeOf_mv (d : Int) (k : Int) (s : ByteArray) (ks : List Nd) (q : Int) : shapeOf k s (mvL d ks) q = shapeOf k s ks q := by
  unfold shapeOf
  rw [lastOf_mv, typedB_mv]
theorem isCase_mv (d st : Int) (t : Nd) : isCase st (t.mv d) = isCase st t := by
  obtain ⟨k, s, n, a, ks⟩ := t
  cases ks with
  | nil => rfl
  | cons y ys =>
    show ((st == 19 || st == 20) && (k == 27 && ((y.mv d).kind == 16))) = ((st == 19 || st == 20) && (k == 27 && (y.kind == 16)))
    rw [mv_kind]

mutual
theorem look_mv (iB fB : ByteArray → Bool) (d : Int) : ∀ (t : Nd) (deep q seen : Int), (t.mv d).look iB fB deep q seen = ((t.look iB fB deep q seen).1, (t.look iB fB deep q seen).2.map (Wr.mv d))
  | .mk k s n a ks, deep, q, seen => by
    unfold Nd.mv Nd.look
    rw [shapeOf_mv, mvL_length, lookL_mv iB fB d ks]
    repeat' split
    all_goals first | rfl | (simp_all; done)
theorem lookL_mv (iB fB : ByteArray → Bool) (d : Int) : ∀ (ts : List Nd) (sh : Shp) (i : Nat) (deep e seen : Int), lookL iB fB (mvL d ts) sh i deep e seen = ((lookL iB fB ts sh i deep e seen).1, (lookL iB fB ts sh i deep e seen).2.map (Wr.mv d))
  | [], sh, i, deep, e, seen => by unfold mvL lookL; rfl
  | t :: ts, sh, i, deep, e, seen => by
    unfold mvL lookL
    rw [isCase_mv, mv_at, mv_text, look_mv iB fB d t]
    split
    · rfl
    · cases h : Nd.look iB fB t (deep + 1) (sh.at_ i) seen with
      | mk s' r =>
        cases r with
        | some x => rfl
        | none => exact lookL_mv iB fB d ts sh (i + 1) deep _ s'
end

theorem many_pos (k : Int) (s : ByteArray) (ks : List Nd) (q : Int) : (shapeOf k s ks q).many ≠ 0 := by
  have hi : ∀ {p : Prop} [Decidable p] {a b : Shp}, a.many ≠ 0 → b.many ≠ 0 → (if p then a else b).many ≠ 0 := fun {p} _ {a b} ha hb => by
    by_cases h : p
    · rw [if_pos h]; exact ha
    · rw [if_neg h]; exact hb
  have hs : ∀ ty, (stmtShape k q ty).many ≠ 0 := fun ty => by
    unfold stmtShape
    repeat' (refine hi ?_ ?_)
    all_goals (simp [rwS, fx])
  unfold shapeOf
  repeat' (refine hi ?_ ?_)
  all_goals first | exact hs _ | (simp [rwS, fx, lim])
mutual
theorem look_code (iB fB : ByteArray → Bool) : ∀ (t : Nd) (deep q seen : Int) (x : Wr), (t.look iB fB deep q seen).2 = some x → x.code ≠ 0
  | .mk k s n a ks, deep, q, seen, x, h => by
    unfold Nd.look at h
    split at h
    · injection h with h; subst h; simp
    · split at h
      · injection h with h; subst h; simp
      · split at h
        · injection h with h; subst h; simp
        · split at h
          · injection h with h; subst h; simp
          · split at h
            · injection h with h; subst h; exact many_pos k s ks q
            · exact lookL_code iB fB ks _ _ _ _ _ x h
theorem lookL_code (iB fB : ByteArray → Bool) : ∀ (ts : List Nd) (sh : Shp) (i : Nat) (deep e seen : Int) (x : Wr), (lookL iB fB ts sh i deep e seen).2 = some x → x.code ≠ 0
  | [], sh, i, deep, e, seen, x, h => by unfold lookL at h; cases h
  | t :: ts, sh, i, deep, e, seen, x, h => by
    unfold lookL at h
    split at h
    · injection h with h; subst h; simp
    · split at h
      · rename_i s' y hy
        injection h with h
        subst h
        exact look_code iB fB t (deep + 1) (sh.at_ i) seen y (by rw [hy])
      · rename_i s' hy
        exact lookL_code iB fB ts sh (i + 1) deep _ s' x h
end

mutual
theorem each_nums {w : World} {B : Nat} : ∀ {t : Nd} {v : Value}, Lies w B t v → t.Each (NumsAt intB floatsB)
  | .mk k s n a ks, v, h => by
    unfold Lies at h
    unfold Nd.Each
    obtain ⟨A, cap, _, _, _, _, hs, _, _, hk⟩ := h
    refine ⟨⟨fun _ => IntsAt_any s hs, fun _ => FloatsAt_any s hs⟩, ?_⟩
    rcases hk with rfl | ⟨b, o, _, _, hl⟩
    · exact trivial
    · exact eachL_nums hl
theorem eachL_nums {w : World} {B : Nat} : ∀ {ts : List Nd} {b o : Nat}, LiesL w B ts b o → EachL (NumsAt intB floatsB) ts
  | [], _, _, _ => trivial
  | t :: ts, b, o, h => by
    unfold LiesL at h
    unfold EachL
    obtain ⟨⟨c0, c1, c2, c3, c4, _, _, _, _, _, ht⟩, hl⟩ := h
    exact ⟨each_nums ht, eachL_nums hl⟩
end
end Go.Proofs.YtjpmghgmmeemkaaGreatDoor

namespace Go.Proofs.YtjpmghgmmeemkaaGreatDoor
open Go.RowKit

/-- A world in which some blocks of the call's own lie as they were made. -/
structure RSt (w : World) (rows : List (Nat × Array Value × TypeId)) (W : World) : Prop where
  bel : Below w.heap.size w W
  rows : ∀ r ∈ rows, W.heap[r.1]? = some (.cells r.2.1 r.2.2 (0, 0))
section
variable {w W : World} {rows : List (Nat × Array Value × TypeId)}
theorem RSt.step (h : RSt w rows W) {W' : World} (hb : Below W.heap.size W W') : RSt w rows W' :=
  ⟨h.bel.trans (hb.mono h.bel.size), fun r hr => (hb.block _ (Array.getElem?_eq_some_iff.1 (h.rows r hr)).1).trans (h.rows r hr)⟩
theorem RSt.push (h : RSt w rows W) (cs : Array Value) (t : TypeId) : RSt w ((W.heap.size, cs, t) :: rows) (W.alloc (.cells cs t (0, 0))) := by
  refine ⟨h.bel.alloc h.bel.size _, fun r hr => ?_⟩
  rcases List.mem_cons.1 hr with rfl | hr
  · exact heap_alloc_new _ _
  · have hlt := (Array.getElem?_eq_some_iff.1 (h.rows r hr)).1
    exact (heap_alloc_old _ _ hlt).trans (h.rows r hr)
theorem RSt.at_ (h : RSt w rows W) {g : Nat} {cs : Array Value} {t : TypeId} (hm : (g, cs, t) ∈ rows) (i : Nat) {v : Value} (hv : cs[i]? = some v) : W.cell? ⟨g, i, none⟩ = some v := (cell_of_row W g i _ _ _ (h.rows _ hm)).trans hv
theorem RSt.fz (h : RSt w rows W) {g : Nat} {cs : Array Value} {t : TypeId} (hm : (g, cs, t) ∈ rows) (i : Nat) : W.frozen? ⟨g, i, none⟩ = false := frozen_of_row W g i _ _ (h.rows _ hm)
end

/-- What is wrong as told tells it. -/
def wrC : Option Wr → Int
  | none => 0
  | some x => x.code
def wrA : Option Wr → Int
  | none => 0
  | some x => x.at_
def wrN : Option Wr → ByteArray
  | none => ⟨#[]⟩
  | some x => x.name
/-- An error that says r. -/
def ErrIs (W : World) (r : Option Wr) (ev : Value) : Prop := (r = none ∧ ev = .nilIface) ∨ ∃ x b, r = some x ∧ x.code ≠ 0 ∧ ev = .iface 55 (.pointer (some ⟨b, 0, none⟩)) ∧ b < W.heap.size ∧ WrongAt W b x.code x.at_ x.name
theorem ErrIs.up {W W' : World} {r : Option Wr} {ev : Value} (h : ErrIs W r ev) (hb : Below W.heap.size W W') : ErrIs W' r ev := by
  rcases h with h | ⟨x, b, h1, h2, h3, h4, h5⟩
  · exact .inl h
  · exact .inr ⟨x, b, h1, h2, h3, Nat.lt_of_lt_of_le h4 hb.size, h5.kept (hb.block b h4)⟩
theorem told_any {W : World} {r : Option Wr} {ev : Value} (h : ErrIs W r ev) (hg : Gerr W) (h1 : 1 ≤ W.heap.size) :
    Calls Tryz.prog 13 #[ev] W fun e w' => e = .returned (.tuple #[.agg #[.int .i64 (wrC r), .int .i64 (wrA r), .string (wrN r)], .bool true]) ∧ Below W.heap.size W w' := by
  rcases h with ⟨rfl, rfl⟩ | ⟨x, b, rfl, h2, rfl, h4, h5⟩
  · exact told_nil W
  · exact told_wrong b x.code x.at_ x.name W hg h1 h4 h5 h2
theorem told_is {W : World} {r : Option Wr} {ev : Value} {c a : Int} {n : ByteArray} (h : ErrIs W r ev) (hc : wrC r = c) (ha : wrA r = a) (hn : wrN r = n) (hg : Gerr W) (h1 : 1 ≤ W.heap.size) :
    Calls Tryz.prog 13 #[ev] W fun e w' => e = .returned (.tuple #[.agg #[.int .i64 c, .int .i64 a, .string n], .bool true]) ∧ Below W.heap.size W w' := by
  subst hc ha hn
  exact told_any h hg h1
theorem right_told {W : World} {t : Nd} {v : Value} (hgl : Gl W) (hl : Lies W W.heap.size t v) :
    Calls Tryz.prog 14 #[v] W fun e w' => ∃ ev, e = .returned ev ∧ ErrIs w' (t.look intB floatsB 1 0 0).2 ev ∧ Below W.heap.size W w' := by
  refine (Right_any intB floatsB t (each_nums hl) v W hgl hl).mono ?_
  rintro e w' ⟨hb, ⟨h1, rfl⟩ | ⟨x, b, h1, rfl, h2, h3, h4⟩⟩
  · exact ⟨_, rfl, .inl ⟨h1, rfl⟩, hb⟩
  · exact ⟨_, rfl, .inr ⟨x, b, h1, look_code intB floatsB t 1 0 0 x h1, rfl, h3, h4⟩, hb⟩
theorem prRes_code {t : Nd} {x : Wr} (h : (prRes intB floatsB t).2 = some x) : x.code ≠ 0 := by
  unfold prRes at h
  cases hr : (t.look intB floatsB 1 0 0).2 with
  | some y =>
    rw [hr] at h
    injection h with h
    subst h
    exact look_code intB floatsB t 1 0 0 y hr
  | none =>
    rw [hr] at h
    obtain ⟨⟨out, lg⟩, hq⟩ : ∃ q, prF t.strip = q := ⟨_, rfl⟩
    rw [hq] at h
    cases lg with
    | true => injection h with h; subst h; simp
    | false => cases h
theorem print_told {W : World} {t : Nd} {v : Value} (hgl : Gl W) (hl : Lies W W.heap.size t v) :
    Calls Tryz.prog 15 #[v] W fun e w' => ∃ ev, e = .returned (.tuple #[.string (prRes intB floatsB t).1, ev]) ∧ ErrIs w' (prRes intB floatsB t).2 ev ∧ Below W.heap.size W w' := by
  refine (Print_any intB floatsB t (each_nums hl) v W hgl hl).mono ?_
  rintro e w' ⟨hb, ⟨h1, rfl⟩ | ⟨x, b, h1, rfl, h2, h3, h4⟩⟩
  · exact ⟨_, rfl, .inl ⟨h1, rfl⟩, hb⟩
  · exact ⟨_, rfl, .inr ⟨x, b, h1, prRes_code h1, rfl, h3, h4⟩, hb⟩

/-- What Right and Print say of a tree and of the same further on. -/
theorem prRes_mv (d : Int) (t : Nd) :
    (∃ x, (t.look intB floatsB 1 0 0).2 = some x ∧ x.code ≠ 0 ∧ ((t.mv d).look intB floatsB 1 0 0).2 = some (x.mv d) ∧ prRes intB floatsB t = (⟨#[]⟩, some x) ∧ prRes intB floatsB (t.mv d) = (⟨#[]⟩, some (x.mv d))) ∨
    ((t.look intB floatsB 1 0 0).2 = none ∧ ((t.mv d).look intB floatsB 1 0 0).2 = none ∧ prRes intB floatsB (t.mv d) = prRes intB floatsB t) := by
  have h := look_mv intB floatsB d t 1 0 0
  cases hr : (t.look intB floatsB 1 0 0).2 with
  | some x =>
    have h2 : ((t.mv d).look intB floatsB 1 0 0).2 = some (x.mv d) := by rw [h, hr]; rfl
    refine .inl ⟨x, rfl, look_code intB floatsB t 1 0 0 x hr, h2, ?_, ?_⟩
    · rw [prRes, hr]; rfl
    · rw [prRes, h2]; rfl
  | none =>
    have h2 : ((t.mv d).look intB floatsB 1 0 0).2 = none := by rw [h, hr]; rfl
    refine .inr ⟨rfl, h2, ?_⟩
    rw [prRes, prRes, h2, hr, mv_strip]
end Go.Proofs.YtjpmghgmmeemkaaGreatDoor
