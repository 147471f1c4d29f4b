/- Every line of a program: what it comes to in memory, and how great it is. -/
import Derived.Test.YtdjbkppdppdcgaaGreatDoorLnB
import Derived.Test.YtdjbkppdppdcgaaGreatDoorMUnB
import Derived.Test.YtdjbkppdppdcgaaGreatDoorMCdD
namespace Go.Proofs.YtdjbkppdppdcgaaGreatDoor
open Go.RowKit

theorem intL_ok {s : List UInt8} {n : Int} (h : intOfL s = some n) : okI n := by
  unfold intOfL at h
  split at h
  · rename_i v hv
    split at h
    · injection h with h
      subst h
      unfold Lib.parseIntB at hv
      split at hv
      · cases hv
      · dsimp only at hv
        split at hv
        · cases hv
        · cases hv
        · split at hv
          · cases hv
          · split at hv
            · cases hv
            · rename_i h1 h2
              injection hv with hv
              unfold okI
              split at hv <;> simp_all <;> omega
    · cases h
  · cases h
theorem intsL_ok : ∀ {l : List (List UInt8)} {n : List Int}, intsL l = some n → n.length = l.length ∧ ∀ x ∈ n, okI x
  | [], n, h => by injection h with h; subst h; exact ⟨rfl, fun x hx => by cases hx⟩
  | s :: r, n, h => by
    rw [intsL] at h
    split at h
    · rename_i a b h1 h2
      injection h with h
      subst h
      obtain ⟨e, hr⟩ := intsL_ok h2
      refine ⟨by simp [e], fun x hx => ?_⟩
      rcases List.mem_cons.1 hx with rfl | hx
      · exact intL_ok h1
      · exact hr x hx
    · cases h
theorem op_lt (s : List UInt8) : ∀ (f op : Nat), opFrom s f op < op + f + 1
  | 0, op => by simp [opFrom]
  | f + 1, op => by
    rw [opFrom]
    split
    · omega
    · have := op_lt s f (op + 1); omega
/-- An instruction, a function, a program that a text of so many bytes, of so many lines holds. -/
def ILike (x : Ci) : Prop := okI x.op ∧ okI x.a ∧ okI x.b ∧ okI x.at_ ∧ x.text.size ≤ 65536
def FLike (N k : Nat) (f : Cf) : Prop := f.name.size ≤ N ∧ okI f.params ∧ okI f.slots ∧ okI f.around ∧ f.taken.length ≤ N ∧ f.code.length ≤ k ∧ (∀ t ∈ f.taken, okI t) ∧ ∀ x ∈ f.code, ILike x
structure PLike (N k : Nat) (p : Cp) : Prop where
  nf : p.funcs.length ≤ k
  ng : p.globals.length ≤ N + 1
  fs : ∀ f ∈ p.funcs, FLike N k f
  gs : ∀ s ∈ p.globals, s.size ≤ N
theorem FLike.more {N k k' : Nat} {f : Cf} (h : FLike N k f) (hk : k ≤ k') : FLike N k' f := ⟨h.1, h.2.1, h.2.2.1, h.2.2.2.1, h.2.2.2.2.1, by have := h.2.2.2.2.2.1; omega, h.2.2.2.2.2.2⟩
theorem instR_like {s : List UInt8} {x : Ci} (h : instR s = some x) : ILike x := by
  unfold instR at h
  split at h
  · split at h
    · rename_i hi
      obtain ⟨_, ho⟩ := intsL_ok hi
      split at h
      · cases h
      · rename_i w a b c t _ u v z _ _
        have h2 := ho u (by simp)
        have h3 := ho v (by simp)
        have h4 := ho z (by simp)
        have h5 : ∀ w, okI (operationL w : Nat) := fun w => by
          have := op_lt w 53 1
          unfold okI operationL
          omega
        split at h
        · injection h with h
          subst h
          exact ⟨h5 _, h2, h3, h4, Nat.zero_le _⟩
        · split at h
          · rename_i hu
            split at h
            · cases h
            · injection h with h
              subst h
              exact ⟨h5 _, h2, h3, h4, unq_len hu⟩
          · cases h
    · cases h
  · cases h
theorem openedL_like {N : Nat} {l : List (List UInt8)} (hl : l.length ≤ N + 5) (hn : ∀ x ∈ l, x.length ≤ N) {f : Cf} (h : openedL l = some f) : FLike N 0 f := by
  match l, h with
  | w :: n :: a :: b :: c :: r, h =>
    rw [openedL_eq] at h
    split at h
    · cases h
    · split at h
      · rename_i p s o t hi
        obtain ⟨e, ho⟩ := intsL_ok hi
        simp only [List.length_cons] at e hl
        injection h with h
        subst h
        refine ⟨?_, ho p (by simp), ho s (by simp), ho o (by simp), by dsimp only; omega, Nat.zero_le _, fun x hx => ho x (by simp [hx]), fun x hx => by cases hx⟩
        show (if n = [45] then [] else n).length ≤ N
        split
        · exact Nat.zero_le _
        · exact hn n (by simp)
      · cases h
theorem line_like {N k i : Nat} {p q : Cp} {x : List UInt8} (hp : PLike N k p) (hx : x.length ≤ N) (h : lineL p i x = some q) : PLike N (k + 1) q := by
  have hsp := splitM_len 32 x.length x
  rw [splitC_M 32 _ x (Nat.le_refl _)] at hsp
  by_cases hi : i = 0
  · subst hi
    cases hs : splitC 32 x with
    | nil =>
      rw [hs] at hsp
      simp at hsp
    | cons w r =>
      rw [hs] at hsp
      unfold lineL at h
      rw [if_pos rfl, hs] at h
      dsimp only at h
      split at h
      · cases h
      · injection h with h
        subst h
        refine ⟨by have := hp.nf; dsimp only; omega, ?_, fun f hf => (hp.fs f hf).more (Nat.le_succ _), fun s hs => ?_⟩
        · have := hsp.2.2.1
          simp only [List.length_cons] at this
          simp only [List.length_map]
          omega
        · simp only [List.mem_map] at hs
          obtain ⟨y, hy, rfl⟩ := hs
          have := hsp.2.2.2 y (by simp [hy])
          show y.length ≤ N
          omega
  · by_cases h9 : ∃ r, x = 9 :: r
    · obtain ⟨r, rfl⟩ := h9
      rw [lineL_tab p hi] at h
      split at h
      · rename_i y f hy hf
        injection h with h
        subst h
        obtain ⟨ys, hys⟩ := List.getLast?_eq_some_iff.1 hf
        have hm : f ∈ p.funcs := by rw [hys]; simp
        have h1 := hp.fs f hm
        have hnf := hp.nf
        refine ⟨?_, hp.ng, fun g hg => ?_, hp.gs⟩
        · rw [hys] at hnf ⊢
          simp at hnf ⊢
          omega
        · rcases List.mem_append.1 hg with hg | hg
          · exact (hp.fs g (List.dropLast_subset _ hg)).more (Nat.le_succ _)
          · rw [List.mem_singleton.1 hg]
            obtain ⟨a1, a2, a3, a4, a5, a6, a7, a8⟩ := h1
            refine ⟨a1, a2, a3, a4, a5, by simp; omega, a7, fun z hz => ?_⟩
            rcases List.mem_append.1 hz with hz | hz
            · exact a8 z hz
            · rw [List.mem_singleton.1 hz]; exact instR_like hy
      · cases h
    · rw [lineL_fn p hi fun r e => h9 ⟨r, e⟩] at h
      cases ho : openedL (splitC 32 x) with
      | none => rw [ho] at h; cases h
      | some f =>
        rw [ho] at h
        simp only [Option.map_some, Option.some.injEq] at h
        subst h
        have := hp.nf
        refine ⟨by simp; omega, hp.ng, fun g hg => ?_, hp.gs⟩
        rcases List.mem_append.1 hg with hg | hg
        · exact (hp.fs g hg).more (Nat.le_succ _)
        · rw [List.mem_singleton.1 hg]
          exact (openedL_like (by have := hsp.2.2.1; omega) (fun y hy => by have := hsp.2.2.2 y hy; omega) ho).more (Nat.zero_le _)
theorem PLike.tame {p : Cp} (h : PLike 2000000 2000000 p) : Tame p := by
  have hsum : ∀ l : List Cf, (∀ f ∈ l, f.code.length ≤ 2000000) → manySum l ≤ l.length * 2000000 := fun l => by
    induction l with
    | nil => intro _; simp [manySum]
    | cons f r ih =>
      intro h
      have h1 := ih fun g hg => h g (List.mem_cons_of_mem _ hg)
      have h2 := h f List.mem_cons_self
      rw [manySum, List.length_cons]
      omega
  have hnf := h.nf
  have hng := h.ng
  refine ⟨⟨by omega, by omega, fun f hf => ?_, fun s hs => by have := h.gs s hs; omega⟩, fun f hf => by have := (h.fs f hf).1; omega, fun f hf x hx => by have := ((h.fs f hf).2.2.2.2.2.2.2 x hx).2.2.2.2; omega, ?_⟩
  · obtain ⟨a1, a2, a3, a4, a5, a6, a7, a8⟩ := h.fs f hf
    exact ⟨by omega, a2, a3, a4, by omega, by omega, a7, fun x hx => ⟨(a8 x hx).1, (a8 x hx).2.1, (a8 x hx).2.2.1, (a8 x hx).2.2.2.1, by have := (a8 x hx).2.2.2.2; omega⟩⟩
  · have := hsum _ fun f hf => (h.fs f hf).2.2.2.2.2.1
    omega

/-- What stands behind i lines. -/
def RdI (lo : Nat) (W0 : World) (pb i : Nat) (p : Cp) (W : World) : Prop := ∃ vf ga m gc xs gs, RdG lo W0 W pb vf ga m gc xs gs ∧ p = ⟨xs.map Prod.fst, gs⟩ ∧ (i = 0 → vf = .slice none 0 0 ∧ xs = [] ∧ gs = [])
theorem RdI.under {lo : Nat} {W0 W W' : World} {pb i : Nat} {p : Cp} (h : RdI lo W0 pb i p W) (hb : Below W.heap.size W W') : RdI lo W0 pb i p W' := by
  obtain ⟨vf, ga, m, gc, xs, gs, h1, h2, h3⟩ := h
  exact ⟨vf, ga, m, gc, xs, gs, h1.under hb, h2, h3⟩
theorem RdI.low {lo : Nat} {W0 W : World} {pb i : Nat} {p : Cp} (h : RdI lo W0 pb i p W) : Below lo W0 W := by
  obtain ⟨vf, ga, m, gc, xs, gs, h1, h2, h3⟩ := h
  exact h1.low
theorem LinPost.any {lo : Nat} {W0 W' : World} {pb i : Nat} {o : Option Cp} {e : Ending} (h : LinPost lo W0 pb o e W') : ∃ ok : Bool, e = .returned (.bool ok) ∧ Below lo W0 W' ∧ (ok = true → ∃ q, o = some q ∧ RdI lo W0 pb (i + 1) q W') ∧ (ok = false → o = none) := by
  cases o with
  | none =>
    obtain ⟨h1, h2⟩ := h
    exact ⟨false, h1, h2, fun h => (by cases h), fun _ => rfl⟩
  | some q =>
    obtain ⟨h1, vf, ga, m, gc, xs, gs, h2, h3⟩ := h
    exact ⟨true, h1, h2.low, fun _ => ⟨q, rfl, vf, ga, m, gc, xs, gs, h2, h3, fun e => by omega⟩, fun h => (by cases h)⟩
theorem line_any {lo : Nat} {W0 W : World} {pb i : Nat} {p : Cp} (hS : RdI lo W0 pb i p W) (hG : Gc W) {N k : Nat} (hp : PLike N k p) (hk : k ≤ 100000000) {s : List UInt8} (hs : s.length ≤ 100000000) :
    Calls Tryz.prog 46 #[.pointer (some ⟨pb, 0, none⟩), .int .i64 i, .string ⟨⟨s⟩⟩] W fun e W' => ∃ ok : Bool, e = .returned (.bool ok) ∧ Below lo W0 W' ∧ (ok = true → ∃ q, lineL p i s = some q ∧ RdI lo W0 pb (i + 1) q W') ∧ (ok = false → lineL p i s = none) := by
  obtain ⟨vf, ga, m, gc, xs, gs, h1, rfl, h3⟩ := hS
  have hnf := hp.nf
  simp only [List.length_map] at hnf
  by_cases hi : i = 0
  · subst hi
    obtain ⟨rfl, rfl, rfl⟩ := h3 rfl
    exact (line_firstG h1 hG hs).mono fun _ _ h => h.any
  · by_cases h9 : ∃ r, s = 9 :: r
    · obtain ⟨r, rfl⟩ := h9
      exact (line_instG h1 hG hi (by simp only [List.length_cons] at hs; omega) (by omega) fun x hx => by have := (hp.fs x.1 (List.mem_map_of_mem hx)).2.2.2.2.2.1; omega).mono fun _ _ h => h.any
    · exact (line_funcG h1 hG hi (fun r e => h9 ⟨r, e⟩) hs (by omega)).mono fun _ _ h => h.any
theorem cut_any (s : List UInt8) (hs : s.length ≤ 100000000) (V : World) (hV : Gc V) : Calls Tryz.prog 45 #[.string ⟨⟨s⟩⟩, .string ⟨#[10]⟩] V fun e V' => ∃ (x r : List UInt8) (ok : Bool), e = .returned (.tuple #[.string ⟨⟨x⟩⟩, .string ⟨⟨r⟩⟩, .bool ok]) ∧ Below V.heap.size V V' ∧ x.length ≤ s.length ∧ (ok = true → cutAt 10 s = (x, some r) ∧ r.length < s.length) ∧ (ok = false → (cutAt 10 s).2 = none) := by
  obtain ⟨m, hm⟩ := hV.max
  have hl := cutAt_len 10 s
  have hc := cut_one s 10
  refine (Tryz.strings_Cut ⟨⟨s⟩⟩ ⟨#[10]⟩ m V (by show s.length < _; omega) hm).mono ?_
  rintro e V' ⟨rfl, n, rfl⟩
  rw [show (⟨⟨s⟩⟩ : ByteArray).data.toList = s from rfl, show (⟨#[10]⟩ : ByteArray).data.toList = [10] from rfl, hc]
  rcases hq : cutAt 10 s with ⟨x, _ | r⟩
  · exact ⟨s, [], false, rfl, drew_below V n, Nat.le_refl _, fun h => (by cases h), fun _ => rfl⟩
  · rw [hq] at hl
    exact ⟨x, r, true, rfl, drew_below V n, hl.1, fun _ => ⟨rfl, hl.2 r rfl⟩, fun h => (by cases h)⟩
end Go.Proofs.YtdjbkppdppdcgaaGreatDoor
