/- lex.run at every text; lex.wrong; the text 01: lex.number, lex.one, lex.Scan, tree.ints. What container/heap does with a row of numbers: nothing comes, nothing goes. Regions that draw their order: a load may be taken first though an operation that waits for it writes its cell. A row that is laid and then written whole. Whether two programs of code are one. -/
import Derived.Deep.RegionHeld
import Derived.Deep.RegionHeld3
import Derived.Laws.Tables
import Derived.Test.YtdjbkppdppdcgaaGreatDoorMLex1
namespace Go.Proofs.YtdjbkppdppdcgaaGreatDoor
open Go.RowKit

theorem lexWrong_any (c a : Int) (w : World) : Calls Tryz.prog 123 #[.int .i64 c, .int .i64 a] w fun e w' => e = .returned (.pointer (some ⟨w.heap.size, 0, none⟩)) ∧ w' = w.alloc (.cells #[.int .i64 c, .int .i64 a, .string ⟨#[]⟩] 51) := by
  go_enter Tryz.func123, Tryz.ntmps123
  go_wp2
  go_ret
  exact ⟨rfl, rfl⟩

end Go.Proofs.YtdjbkppdppdcgaaGreatDoor

namespace Go.Proofs.YtdjbkppdppdcgaaGreatDoor

theorem getD_mem {l : List Int} {i : Nat} (h : i < l.length) : l.getD i 0 ∈ l := by
  rw [List.getD_eq_getElem?_getD, List.getElem?_eq_getElem h]
  exact List.getElem_mem h
theorem swap_len (l : List Int) (i j : Nat) : (swapL l i j).length = l.length := by simp [swapL]
theorem swap_mem {l : List Int} {i j : Nat} (hi : i < l.length) (hj : j < l.length) {x : Int} (h : x ∈ swapL l i j) : x ∈ l := by
  rcases List.mem_or_eq_of_mem_set h with h | h
  · rcases List.mem_or_eq_of_mem_set h with h | h
    · exact h
    · rw [h]; exact getD_mem hj
  · rw [h]; exact getD_mem hi
theorem up_mem : ∀ (f : Nat) (l : List Int) (j : Nat), j < l.length → (∀ x ∈ upL f l j, x ∈ l) ∧ (upL f l j).length = l.length
  | 0, l, j, _ => ⟨fun _ h => h, rfl⟩
  | f + 1, l, j, hj => by
    rw [upL]
    split
    · exact ⟨fun _ h => h, rfl⟩
    · obtain ⟨h1, h2⟩ := up_mem f (swapL l ((j - 1) / 2) j) ((j - 1) / 2) (by rw [swap_len]; omega)
      exact ⟨fun x hx => swap_mem (by omega) hj (h1 x hx), by rw [h2, swap_len]⟩
theorem down_mem : ∀ (f : Nat) (l : List Int) (i n : Nat), n ≤ l.length → (∀ x ∈ downL f l i n, x ∈ l) ∧ (downL f l i n).length = l.length
  | 0, l, i, n, _ => ⟨fun _ h => h, rfl⟩
  | f + 1, l, i, n, hn => by
    rw [downL]
    split
    · exact ⟨fun _ h => h, rfl⟩
    · rename_i h1
      simp only
      obtain ⟨j, hj⟩ : ∃ j, (if 2 * i + 2 < n ∧ l.getD (2 * i + 2) 0 < l.getD (2 * i + 1) 0 then 2 * i + 2 else 2 * i + 1) = j := ⟨_, rfl⟩
      have hjn : j < n := by rw [← hj]; split <;> omega
      rw [hj]
      by_cases hlt : l.getD j 0 < l.getD i 0
      · rw [if_pos hlt]
        obtain ⟨e1, e2⟩ := down_mem f (swapL l i j) j n (by rw [swap_len]; exact hn)
        exact ⟨fun x hx => swap_mem (by omega) (by omega) (e1 x hx), by rw [e2, swap_len]⟩
      · rw [if_neg hlt]
        exact ⟨fun _ h => h, rfl⟩
theorem push_mem (l : List Int) (n : Int) : (∀ x ∈ pushL l n, x ∈ l ∨ x = n) ∧ (pushL l n).length = l.length + 1 := by
  obtain ⟨h1, h2⟩ := up_mem (l.length + 1) (l ++ [n]) l.length (by simp)
  refine ⟨fun x hx => ?_, by rw [pushL, h2]; simp⟩
  have := h1 x hx
  simpa using this
theorem pop_mem {l : List Int} (h : l ≠ []) : (popL l).1 ∈ l ∧ (∀ x ∈ (popL l).2, x ∈ l) ∧ (popL l).2.length = l.length - 1 := by
  have h0 : 0 < l.length := List.length_pos_iff.2 h
  obtain ⟨h1, h2⟩ := down_mem l.length (swapL l 0 (l.length - 1)) 0 (l.length - 1) (by rw [swap_len]; omega)
  rw [swap_len] at h2
  have hs : ∀ x ∈ downL l.length (swapL l 0 (l.length - 1)) 0 (l.length - 1), x ∈ l := fun x hx => swap_mem h0 (by omega) (h1 x hx)
  refine ⟨hs _ (getD_mem (by rw [h2]; omega)), fun x hx => hs x (List.mem_of_mem_take hx), ?_⟩
  show (List.take (l.length - 1) _).length = _
  rw [List.length_take, h2]
  omega

/-- How many rounds the walk over instructions has at most. -/
def Cst.mu (c : Cst) : Nat := 3 * c.seen.count false + c.todo.length
theorem hand_todo (c : Cst) (k : Nat) (s : List UInt8) : (∀ x ∈ (handP c k s).1.todo, x ∈ c.todo ∨ x = (k : Int)) ∧ (handP c k s).1.todo.length ≤ c.todo.length + 1 ∧ (handP c k s).1.seen = c.seen ∧ (handP c k s).1.at_.length = c.at_.length := by
  unfold handP
  split
  · refine ⟨fun x hx => (push_mem _ _).1 x hx, by simp only; rw [(push_mem _ _).2]; exact Nat.le_refl _, rfl, by simp⟩
  · exact ⟨fun x hx => .inl hx, Nat.le_succ _, rfl, rfl⟩
/-- Where one was handed on something stands. -/
theorem hand_some (c : Cst) (k : Nat) (s : List UInt8) (j : Nat) (hj : c.at_.getD j none ≠ none ∨ (j = k ∧ k < c.at_.length)) : (handP c k s).1.at_.getD j none ≠ none := by
  unfold handP
  split
  · rename_i hn
    simp only
    rw [List.getD_eq_getElem?_getD, List.getElem?_set]
    by_cases hjk : k = j
    · subst hjk
      rw [if_pos rfl]
      split
      · simp
      · rename_i hlt
        rcases hj with hj | ⟨_, hj⟩
        · exact absurd hn hj
        · exact absurd hj hlt
    · rw [if_neg hjk, ← List.getD_eq_getElem?_getD]
      rcases hj with hj | ⟨hj, _⟩
      · exact hj
      · exact absurd hj.symm hjk
  · rename_i t ht
    rcases hj with hj | ⟨hj, _⟩
    · exact hj
    · subst hj; rw [ht]; simp
end Go.Proofs.YtdjbkppdppdcgaaGreatDoor

namespace Go.Proofs.YtdjbkppdppdcgaaGreatDoor
open Go.RowKit

section
variable {P : Program} {ops : Array Oper} {Q : Exit → Act → World → Prop} {md : Region.Mode} {X : List Nat} {S : World → Prop}

/-- One of X has come up, or S holds. -/
def GoodG (X : List Nat) (S : World → Prop) (listed : Array Bool) (w : World) : Prop := (∃ x ∈ X, listed.getD x false = true) ∨ S w

def wpAnyG (P : Program) (md : Region.Mode) (ops : Array Oper) (Q : Exit → Act → World → Prop) (X : List Nat) (S : World → Prop) : Nat → Array Bool → Act → World → Prop
  | 0, listed, a, w => Region.ready md ops listed = [] ∧ Q .normal a w
  | fuel + 1, listed, a, w =>
    (Region.ready md ops listed = [] → Q .normal a w) ∧
    ∀ i ∈ Region.ready md ops listed, wpOp P ops Q i (fun a' w' => GoodG X S (listed.setIfInBounds i true) w' ∧ wpAnyG P md ops Q X S fuel (listed.setIfInBounds i true) a' w') a w

theorem wpAny_of_G : ∀ (fuel : Nat) (listed : Array Bool) (a : Act) (w : World), wpAnyG P md ops Q X S fuel listed a w → wpAny P md ops Q fuel listed a w
  | 0, _, _, _, h => h
  | fuel + 1, _, _, _, h => ⟨h.1, fun i hi => wpOp_mono (fun a' w' h' => wpAny_of_G fuel _ a' w' h'.2) (h.2 i hi)⟩

/-- Once one of X has come up nothing is asked of the world. -/
theorem wpAnyG_of_any {x : Nat} (hx : x ∈ X) : ∀ (fuel : Nat) (listed : Array Bool) (a : Act) (w : World), listed.getD x false = true → wpAny P md ops Q fuel listed a w → wpAnyG P md ops Q X S fuel listed a w
  | 0, _, _, _, _, h => h
  | fuel + 1, _, _, _, hl, h => ⟨h.1, fun i hi => wpOp_mono (fun a' w' h' => ⟨.inl ⟨x, hx, getD_set_true hl⟩, wpAnyG_of_any hx fuel _ a' w' (getD_set_true hl) h'⟩) (h.2 i hi)⟩

/-- All of X wait for i. -/
def waits (md : Region.Mode) (ops : Array Oper) (X : List Nat) (i : Nat) : Bool := X.all fun x => x != i && match ops[x]? with
  | some o => o.after.any fun e => Region.binds md e && e.on == i
  | none => false
theorem waits_spec {i x : Nat} (h : waits md ops X i = true) (hx : x ∈ X) : x ≠ i ∧ ∃ o, ops[x]? = some o ∧ ∃ e ∈ o.after, Region.binds md e = true ∧ e.on = i := by
  have := List.all_eq_true.1 h x hx
  simp only [Bool.and_eq_true, bne_iff_ne, ne_eq] at this
  obtain ⟨h1, h2⟩ := this
  cases ho : ops[x]? with
  | none => rw [ho] at h2; cases h2
  | some o =>
    rw [ho] at h2
    obtain ⟨e, he, hb⟩ := Array.any_eq_true'.1 h2
    simp only [Bool.and_eq_true, beq_iff_eq] at hb
    exact ⟨h1, o, rfl, e, he, hb.1, hb.2⟩

theorem wpAnyG_first {i : Nat} {oi : Oper} {v : Value} (hi : ops[i]? = some oi) (hsel : ∀ (j : Nat) (o : Oper) cs b, ops[j]? = some o → o.op ≠ .select cs b)
    (hQ : ∀ c a w, Q (.panic c) (a.put oi.dst v) w → Q (.panic c) a w) (hX : waits md ops X i = true) :
    ∀ (fuel : Nat) (listed : Array Bool) (a : Act) (w : World),
      (∀ j oj, ops[j]? = some oj → j ≠ i → listed.getD j true = false → (∀ e ∈ oj.after, Region.binds md e = true → e.on ≠ i) → oi.apart ops oj = true) →
      i ∈ Region.ready md ops listed → (∀ x ∈ X, listed.getD x false = false) → YieldsIf P ops S oi v a → S w →
      wpAnyG P md ops Q X S fuel (listed.setIfInBounds i true) (a.put oi.dst v) w → wpAnyG P md ops Q X S (fuel + 1) listed a w := by
  intro fuel
  induction fuel with
  | zero =>
    intro listed a w _ hr _ hy hS H
    refine ⟨fun h => (by rw [h] at hr; cases hr), fun j hj => ?_⟩
    by_cases hji : j = i
    · subst hji; exact hy.wpOp hi hS ⟨.inr hS, H⟩
    · have := ready_mono hj hji
      rw [H.1] at this
      cases this
  | succ fuel ih =>
    intro listed a w hfree hr hno hy hS H
    refine ⟨fun h => (by rw [h] at hr; cases hr), fun j hj => ?_⟩
    by_cases hji : j = i
    · subst hji; exact hy.wpOp hi hS ⟨.inr hS, H⟩
    · have h1 := H.2 j (ready_mono hj hji)
      obtain ⟨hjun, oj, hoj, hall⟩ := mem_ready.1 hj
      have hnot : ∀ e ∈ oj.after, Region.binds md e = true → e.on ≠ i := fun e he hb heq => by
        have h1 := hall e he hb
        have h0 := (mem_ready.1 hr).1
        rw [heq] at h1
        rcases Nat.lt_or_ge i listed.size with h' | h'
        · simp [h'] at h0 h1; rw [h0] at h1; cases h1
        · simp [Array.getElem?_eq_none h'] at h1
      have hjX : j ∉ X := fun hx => by
        obtain ⟨_, o, ho, e, he, hb, hon⟩ := waits_spec hX hx
        rw [hoj] at ho
        injection ho with ho
        subst ho
        exact hnot e he hb hon
      have hno' : ∀ x ∈ X, (listed.setIfInBounds j true).getD x false = false := fun x hx => by
        have hjx : j ≠ x := fun e => hjX (by rw [e]; exact hx)
        rw [getD_set_ne false hjx]
        exact hno x hx
      have h2 := wpOp_putIf hoj (hfree j oj hoj hji hjun hnot) (fun cs b => hsel i oi cs b hi) (fun cs b => hsel j oj cs b hoj) hQ hy h1
      have hfree' : ∀ k ok, ops[k]? = some ok → k ≠ i → (listed.setIfInBounds j true).getD k true = false →
          (∀ e ∈ ok.after, Region.binds md e = true → e.on ≠ i) → oi.apart ops ok = true := fun k ok hk hki hun hno => by
        refine hfree k ok hk hki ?_ hno
        by_cases hjk : j = k
        · subst hjk; exact hjun
        · rw [getD_set_ne true hjk] at hun; exact hun
      have hGS : ∀ w', GoodG X S ((listed.setIfInBounds i true).setIfInBounds j true) w' → S w' := fun w' hg => by
        rcases hg with ⟨x, hx, hxl⟩ | hg
        · have hjx : j ≠ x := fun e => hjX (by rw [e]; exact hx)
          have hix : i ≠ x := fun e => (waits_spec hX hx).1 e.symm
          rw [getD_set_ne false hjx, getD_set_ne false hix, hno x hx] at hxl
          cases hxl
        · exact hg
      refine wpOp_mono (fun a' w' h3 => ⟨.inr (hGS _ h3.2.1), ih (listed.setIfInBounds j true) a' w' hfree' (ready_mono hr (Ne.symm hji)) hno' h3.1 (hGS _ h3.2.1) ?_⟩) h2
      rw [Array.setIfInBounds_comm _ _ hji]
      exact h3.2.2

theorem wpAnyG_take {i : Nat} {oi : Oper} {v : Value} {fuel : Nat} {listed : Array Bool} {a : Act} {w : World} (hi : ops[i]? = some oi)
    (hs : Region.noSelect ops = true) (hf : Region.free md ops listed i = true) (hr : (Region.ready md ops listed).contains i = true) (hX : waits md ops X i = true) (hno : (X.all fun x => listed.getD x false == false) = true)
    (hQ : ∀ c a w, Q (.panic c) (a.put oi.dst v) w → Q (.panic c) a w) (hy : YieldsIf P ops S oi v a) (hS : S w)
    (h : wpAnyG P md ops Q X S fuel (listed.setIfInBounds i true) (a.put oi.dst v) w) : wpAnyG P md ops Q X S (fuel + 1) listed a w :=
  wpAnyG_first hi (Region.noSelect_spec hs) hQ hX fuel listed a w (Region.free_spec hi hf) (by simpa using hr) (fun x hx => by simpa using List.all_eq_true.1 hno x hx) hy hS h

/-- Each of the operations 'rs' comes up next. -/
def AllReadyG (P : Program) (md : Region.Mode) (ops : Array Oper) (Q : Exit → Act → World → Prop) (X : List Nat) (S : World → Prop) (fuel : Nat) (listed : Array Bool) (a : Act) (w : World) (rs : List Nat) : Prop :=
  ∀ i ∈ rs, wpOp P ops Q i (fun a' w' => GoodG X S (listed.setIfInBounds i true) w' ∧ wpAnyG P md ops Q X S fuel (listed.setIfInBounds i true) a' w') a w
theorem wpAnyG_ready {rs : List Nat} {fuel : Nat} {listed : Array Bool} {a : Act} {w : World} (hr : Region.ready md ops listed = rs) (hne : rs ≠ [])
    (h : AllReadyG P md ops Q X S fuel listed a w rs) : wpAnyG P md ops Q X S (fuel + 1) listed a w :=
  ⟨fun h0 => absurd (hr ▸ h0) hne, hr ▸ h⟩
theorem AllReadyG.nil {fuel : Nat} {listed : Array Bool} {a : Act} {w : World} : AllReadyG P md ops Q X S fuel listed a w [] := fun _ h => by cases h
/-- An operation behind which S is shown. -/
theorem AllReadyG.cons {fuel : Nat} {listed : Array Bool} {a : Act} {w : World} {i : Nat} {o : Oper} {rs : List Nat} (ho : ops[i]? = some o)
    (h : ∀ K' : Act → World → Prop, Shut (∀ a w, S w → (S w → wpAnyG P md ops Q X S fuel (listed.setIfInBounds i true) a w) → K' a w) → if Region.wanted o (yielded ops a.tmps) = true then Oper.wp P o a w K' Q else K' (a.put o.dst undef) w)
    (hs : AllReadyG P md ops Q X S fuel listed a w rs) : AllReadyG P md ops Q X S fuel listed a w (i :: rs) := fun j hj => by
  rcases List.mem_cons.1 hj with rfl | hj
  · exact wpOp_step ho (fun K' hK => h K' (fun a w hS hW => hK a w ⟨.inr hS, hW hS⟩))
  · exact hs j hj
/-- One of X: from there on nothing is asked of the world. -/
theorem AllReadyG.last {fuel : Nat} {listed : Array Bool} {a : Act} {w : World} {i : Nat} {o : Oper} {rs : List Nat} (ho : ops[i]? = some o) (hi : i ∈ X) (hl : i < listed.size)
    (h : ∀ K' : Act → World → Prop, Shut (∀ a w, wpAny P md ops Q fuel (listed.setIfInBounds i true) a w → K' a w) → if Region.wanted o (yielded ops a.tmps) = true then Oper.wp P o a w K' Q else K' (a.put o.dst undef) w)
    (hs : AllReadyG P md ops Q X S fuel listed a w rs) : AllReadyG P md ops Q X S fuel listed a w (i :: rs) := fun j hj => by
  have hg : (listed.setIfInBounds i true).getD i false = true := by simp [hl]
  rcases List.mem_cons.1 hj with rfl | hj
  · exact wpOp_step ho (fun K' hK => h K' (fun a w hW => hK a w ⟨.inl ⟨j, hi, hg⟩, wpAnyG_of_any hi fuel _ a w hg hW⟩))
  · exact hs j hj
theorem wpAnyG_done {listed : Array Bool} {a : Act} {w : World} (hr : Region.ready md ops listed = []) (h : Q .normal a w) : ∀ fuel, wpAnyG P md ops Q X S fuel listed a w
  | 0 => ⟨hr, h⟩
  | _ + 1 => ⟨fun _ => h, by rw [hr]; simp⟩
/-- The beginning. -/
theorem wp_region_G {id : Nat} {a : Act} {w : World} (X : List Nat) (S : World → Prop) (hm : P.follows .mixedOrders = true) (hS : S w.drew)
    (h : S w.drew → wpAnyG P .any ops Q X S ops.size (Array.replicate ops.size false) a w.drew) : (Code.region id ops true).wp P Q a w :=
  wp_region_any hm (wpAny_of_G _ _ _ _ (h hS))

/-- The plain moves: each of the operations 'rs' comes up next. -/
theorem wpAny_ready' {rs : List Nat} {fuel : Nat} {listed : Array Bool} {a : Act} {w : World} (hr : Region.ready md ops listed = rs) (hne : rs ≠ [])
    (h : AllReady P md ops Q fuel listed a w rs) : wpAny P md ops Q (fuel + 1) listed a w := wpAny_all hr hne h
theorem allReady_nil {fuel : Nat} {listed : Array Bool} {a : Act} {w : World} : AllReady P md ops Q fuel listed a w [] := fun _ h => by cases h
theorem allReady_cons {fuel : Nat} {listed : Array Bool} {a : Act} {w : World} {i : Nat} {o : Oper} {rs : List Nat} (ho : ops[i]? = some o)
    (h : ∀ K' : Act → World → Prop, Shut (∀ a w, wpAny P md ops Q fuel (listed.setIfInBounds i true) a w → K' a w) → if Region.wanted o (yielded ops a.tmps) = true then Oper.wp P o a w K' Q else K' (a.put o.dst undef) w)
    (hs : AllReady P md ops Q fuel listed a w rs) : AllReady P md ops Q fuel listed a w (i :: rs) := fun j hj => by
  rcases List.mem_cons.1 hj with rfl | hj
  · exact wpOp_step ho (fun K' hK => h K' (fun a w hW => hK a w hW))
  · exact hs j hj
end
end Go.Proofs.YtdjbkppdppdcgaaGreatDoor

namespace Go.Proofs.YtdjbkppdppdcgaaGreatDoor
open Go.RowKit

theorem setRow_facts (w : World) (cs Z T : Array Value) (t0 t : TypeId) (W2 : World) (h : ((w.alloc (.cells cs t0)).alloc (.cells Z t)).setRow (w.heap.size + 1) T = W2) :
    W2.heap.size = w.heap.size + 2 ∧ W2.heap[w.heap.size + 1]? = some (.cells T t (0, 0)) ∧ W2.heap[w.heap.size]? = some (.cells cs t0 (0, 0)) ∧ Below w.heap.size w W2 := by
  have hg := heap_alloc_new (w.alloc (.cells cs t0)) (.cells Z t)
  rw [World.size_alloc] at hg
  have hk : ∀ b, b ≠ w.heap.size + 1 → W2.heap[b]? = ((w.alloc (.cells cs t0)).alloc (.cells Z t)).heap[b]? := by
    intro b hb
    rw [← h]
    simp only [World.setRow, Array.getElem?_modify]
    rw [if_neg (Ne.symm hb)]
  have hb2 := ((Below.refl w.heap.size w).alloc (Nat.le_refl _) (.cells cs t0)).alloc (by rw [World.size_alloc]; omega) (.cells Z t)
  have hs : W2.heap.size = w.heap.size + 2 := by
    rw [← h]
    show (Array.modify _ _ _).size = _
    rw [Array.size_modify, World.size_alloc, World.size_alloc]
  refine ⟨hs, ?_, ?_, ?_⟩
  · rw [← h]; exact setRow_heap _ _ _ _ _ _ hg
  · rw [hk _ (by omega)]
    have h1 := ((Below.refl (w.heap.size + 1) (w.alloc (.cells cs t0))).alloc (by rw [World.size_alloc]; exact Nat.le_refl _) (.cells Z t)).block w.heap.size (by omega)
    rw [h1]
    exact heap_alloc_new w (.cells cs t0)
  · refine ⟨?_, ?_, ?_, by omega, fun k hk2 => ?_⟩
    · rw [← h]; exact hb2.os
    · rw [← h]; exact hb2.tape
    · rw [← h]; exact hb2.output
    · rw [hk k (by omega)]; exact hb2.block k hk2
end Go.Proofs.YtdjbkppdppdcgaaGreatDoor

namespace Go.Proofs.YtdjbkppdppdcgaaGreatDoor

def sameI (x y : Ci) : Bool := x.op == y.op && (x.a == y.a && (x.b == y.b && (decide (x.text = y.text) && x.at_ == y.at_)))
def sameIs : List Ci → List Ci → Bool
  | [], [] => true
  | x :: l, y :: r => sameI x y && sameIs l r
  | _, _ => false
def sameF (x y : Cf) : Bool := decide (x.name = y.name) && (x.params == y.params && (x.slots == y.slots && (x.around == y.around && (x.taken == y.taken && sameIs x.code y.code))))
def sameFs : List Cf → List Cf → Bool
  | [], [] => true
  | x :: l, y :: r => sameF x y && sameFs l r
  | _, _ => false
def sameC (p q : Cp) : Bool := decide (p.globals = q.globals) && sameFs p.funcs q.funcs
theorem sameI_iff {x y : Ci} : sameI x y = true ↔ x = y := by
  cases x; cases y
  simp [sameI]
theorem sameIs_iff : ∀ {l r : List Ci}, sameIs l r = true ↔ l = r
  | [], [] => by simp [sameIs]
  | [], _ :: _ => by simp [sameIs]
  | _ :: _, [] => by simp [sameIs]
  | x :: l, y :: r => by rw [sameIs, Bool.and_eq_true, sameI_iff, sameIs_iff, List.cons.injEq]
theorem sameF_iff {x y : Cf} : sameF x y = true ↔ x = y := by
  cases x; cases y
  simp only [sameF, Bool.and_eq_true, decide_eq_true_eq, beq_iff_eq, sameIs_iff, Cf.mk.injEq]
  constructor
  · rintro ⟨a, b, c, d, e, f⟩; exact ⟨a, b, c, e, d, f⟩
  · rintro ⟨a, b, c, d, e, f⟩; exact ⟨a, b, c, e, d, f⟩
theorem sameFs_iff : ∀ {l r : List Cf}, sameFs l r = true ↔ l = r
  | [], [] => by simp [sameFs]
  | [], _ :: _ => by simp [sameFs]
  | _ :: _, [] => by simp [sameFs]
  | x :: l, y :: r => by rw [sameFs, Bool.and_eq_true, sameF_iff, sameFs_iff, List.cons.injEq]
theorem sameC_iff {p q : Cp} : sameC p q = true ↔ p = q := by
  cases p; cases q
  simp [sameC, sameFs_iff, and_comm]
theorem sameC_self (p : Cp) : sameC p p = true := sameC_iff.2 rfl
end Go.Proofs.YtdjbkppdppdcgaaGreatDoor
