/- Rows of nodes that the call owns: trees that lie in them; append(nil, kids...), append(row, node). -/
import Derived.Test.YtjpmghgmmeemkaaGreatDoorLay
import Derived.OwnWalkIn
namespace Go.Proofs.YtjpmghgmmeemkaaGreatDoor
open Go.RowKit

/-- The cells of some trees that lie below block B. -/
def LiesC (w : World) (B : Nat) : List Nd → List Value → Prop
  | [], [] => True
  | t :: ts, c0 :: c1 :: c2 :: c3 :: c4 :: cs => Lies w B t (.agg #[c0, c1, c2, c3, c4]) ∧ LiesC w B ts cs
  | _, _ => False

theorem LiesC.length {w : World} {B : Nat} : ∀ {ts : List Nd} {cs : List Value}, LiesC w B ts cs → cs.length = ts.length * 5
  | [], [], _ => rfl
  | t :: ts, c0 :: c1 :: c2 :: c3 :: c4 :: cs, h => by
    have := LiesC.length h.2
    simp only [List.length_cons]; omega
theorem LiesC.one {w : World} {B : Nat} : ∀ {ts : List Nd} {cs : List Value}, LiesC w B ts cs → ∀ u ∈ cs, u.oneCell' = true
  | [], [], _, u, hu => by cases hu
  | .mk k s n a ks :: ts, c0 :: c1 :: c2 :: c3 :: c4 :: cs, h, u, hu => by
    have h1 := h.1
    unfold Lies at h1
    obtain ⟨A, cap, e, _⟩ := h1
    simp only [Value.agg.injEq, Array.mk.injEq, List.cons.injEq, and_true] at e
    obtain ⟨rfl, rfl, rfl, rfl, rfl⟩ := e
    simp only [List.mem_cons] at hu
    rcases hu with rfl | rfl | rfl | rfl | rfl | hu
    · rfl
    · rfl
    · rfl
    · rfl
    · rfl
    · exact LiesC.one h.2 u hu
theorem LiesC.append {w : World} {B : Nat} : ∀ {ts us : List Nd} {cs ds : List Value}, LiesC w B ts cs → LiesC w B us ds → LiesC w B (ts ++ us) (cs ++ ds)
  | [], _us, [], _ds, _, h => h
  | _t :: _ts, _us, _c0 :: _c1 :: _c2 :: _c3 :: _c4 :: _cs, _ds, h, h' => ⟨h.1, LiesC.append h.2 h'⟩
theorem LiesC.below {w w' : World} {B B' : Nat} (hb : Below B w w') (hB : B ≤ B') : ∀ {ts : List Nd} {cs : List Value}, LiesC w B ts cs → LiesC w' B' ts cs
  | [], [], _ => trivial
  | _t :: _ts, _c0 :: _c1 :: _c2 :: _c3 :: _c4 :: _cs, h => ⟨(h.1.below hb).more hB, LiesC.below hb hB h.2⟩
theorem LiesL.toC {w : World} {B : Nat} : ∀ {ts : List Nd} {b o : Nat}, LiesL w B ts b o → ∃ cs, LiesC w B ts cs ∧ ∀ j u, cs[j]? = some u → w.cell? ⟨b, o + j, none⟩ = some u
  | [], b, o, _ => ⟨[], trivial, fun j u h => by simp at h⟩
  | t :: ts, b, o, h => by
    unfold LiesL at h
    obtain ⟨⟨c0, c1, c2, c3, c4, h0, h1, h2, h3, h4, ht⟩, hl⟩ := h
    obtain ⟨cs, hc, hcs⟩ := LiesL.toC hl
    refine ⟨c0 :: c1 :: c2 :: c3 :: c4 :: cs, ⟨ht, hc⟩, ?_⟩
    intro j u hj
    match j, hj with
    | 0, hj => simp at hj; subst hj; exact h0
    | 1, hj => simp at hj; subst hj; exact h1
    | 2, hj => simp at hj; subst hj; exact h2
    | 3, hj => simp at hj; subst hj; exact h3
    | 4, hj => simp at hj; subst hj; exact h4
    | j + 5, hj =>
      have := hcs j u (by simpa using hj)
      rw [show o + (j + 5) = o + 5 + j from by omega]
      exact this
theorem LiesC.toL {w : World} {B b : Nat} : ∀ {ts : List Nd} {cs : List Value} {o : Nat}, LiesC w B ts cs → (∀ j u, cs[j]? = some u → w.cell? ⟨b, o + j, none⟩ = some u) → LiesL w B ts b o
  | [], [], _, _, _ => by unfold LiesL; trivial
  | t :: ts, c0 :: c1 :: c2 :: c3 :: c4 :: cs, o, h, hc => by
    unfold LiesL
    refine ⟨⟨c0, c1, c2, c3, c4, hc 0 _ rfl, hc 1 _ rfl, hc 2 _ rfl, hc 3 _ rfl, hc 4 _ rfl, h.1⟩, LiesC.toL h.2 fun j u hj => ?_⟩
    have := hc (j + 5) u (by simpa using hj)
    rw [show o + 5 + j = o + (j + 5) from by omega]
    exact this

/-- A row that the call owns, of nodes. -/
theorem row_lies {w : World} {B e cap : Nat} {A : Option Addr} {ts : List Nd} {cs : List Value} {C : Nat} (h : w.ownsRow B e 5 (.slice A ts.length cap) ts.length cs) (hc : LiesC w C ts cs) :
    ts = [] ∨ ∃ b o, A = some ⟨b, o, none⟩ ∧ b < w.heap.size ∧ LiesL w C ts b o := by
  by_cases h0 : ts.length = 0
  · exact .inl (List.eq_nil_of_length_eq_zero h0)
  · obtain ⟨b, rfl, hb, hb2⟩ := row_some h (by omega)
    refine .inr ⟨b, 0, rfl, hb2, hc.toL fun j u hj => ?_⟩
    have := h.cells (g := b) rfl j u hj
    have e : (⟨b, 0, none⟩ : Addr).add j = ⟨b, j, none⟩ := by unfold Addr.add; split <;> simp_all
    rw [e] at this
    simpa using this

theorem info24 : (Tryz.prog.info? 24).map (fun i => (i.zero, i.size, i.bytes)) = some (some (.agg #[.int .i64 0, .string ⟨#[]⟩, .int .i64 0, .int .i64 0, .slice none 0 0]), 5, 64) := by kernel_rfl

theorem run_append_nil_nil (w : World) (cap : Nat) : (Builtin.append_ #[22, 22] 22 #[.slice none 0 0, .slice none 0 cap]).run Tryz.prog w = .ok (.slice none 0 0) w := by
  obtain ⟨i0, hi, hz0, hz1, hz2⟩ := info_parts info24
  simp [Builtin.append_, run_underlying Tryz.underlying22, sizeOf, typeInfo, hi, Builtin.lenOf, Builtin.firstCells]

/-- append(nil, kids...). -/
theorem run_append_kids (w : World) (B C : Nat) (A : Option Addr) (cap : Nat) (ts : List Nd) (hB : B ≤ w.heap.size) (hk : ts = [] ∨ ∃ b o, A = some ⟨b, o, none⟩ ∧ b < C ∧ LiesL w C ts b o) (hlen : ts.length ≤ 1000000) :
    ∃ v' w' cs, (Builtin.append_ #[22, 22] 22 #[.slice none 0 0, .slice A ts.length cap]).run Tryz.prog w = .ok v' w' ∧
      w'.ownsRow B 24 5 v' ts.length cs ∧ LiesC w C ts cs ∧ w.grownBy w' none := by
  obtain ⟨i0, hi, hz0, hz1, hz2⟩ := info_parts info24
  cases A with
  | none =>
    rcases hk with rfl | ⟨b, o, h, _⟩
    · exact ⟨_, w, [], run_append_nil_nil w cap, World.ownsRow_nil _ _ _ _, trivial, ⟨rfl, rfl, rfl, Nat.le_refl _, fun _ _ _ => rfl⟩⟩
    · cases h
  | some ad =>
    obtain ⟨cs, hcs, hcc⟩ : ∃ cs, LiesC w C ts cs ∧ ∀ j u, cs[j]? = some u → w.cell? (ad.add j) = some u := by
      rcases hk with rfl | ⟨b, o, h, hb, hl⟩
      · exact ⟨[], trivial, fun j u h => by simp at h⟩
      · cases h
        obtain ⟨cs, h1, h2⟩ := hl.toC
        refine ⟨cs, h1, fun j u hj => ?_⟩
        have e : (⟨b, o, none⟩ : Addr).add j = ⟨b, o + j, none⟩ := by unfold Addr.add; split <;> simp_all
        rw [e]; exact h2 j u hj
    obtain ⟨v', w', h1, h2, h3, _⟩ := run_append_own (P := Tryz.prog) w B 22 22 24 i0 _ 5 64 Tryz.underlying22 hi hz0 hz1 hz2 rfl (by decide) (.slice none 0 0) 0 [] (World.ownsRow_nil _ _ _ _) ad ts.length cap cs hcs.length hcc hcs.one
      (by unfold maxLen; omega) (by omega) hB
    refine ⟨v', w', cs, h1, by simpa using h2, hcs, by simpa [Value.ownBlock] using h3⟩

set_option maxRecDepth 100000 in
theorem wpListIn_append_kids {F : Fence} {n : Nat} {w : World} {ops : Array Oper} {rest : List Oper} {o : Oper} {a : Act} {Q : Exit → Act → World → Prop}
    (hg : o.guard = none) (x : Operand) (hop : o.op = Op.call { callee := Callee.builtin Builtin.append, args := #[.const (.slice none 0 0), x], argTypes := #[22, 22] }) (hty : o.type = 22)
    (B C : Nat) (A : Option Addr) (cap : Nat) (ts : List Nd) (hx : a.eval x = .slice A ts.length cap) (hB : B ≤ w.heap.size) (hk : ts = [] ∨ ∃ b o, A = some ⟨b, o, none⟩ ∧ b < C ∧ LiesL w C ts b o) (hlen : ts.length ≤ 1000000)
    (hK : ∀ v' w' cs, w'.ownsRow B 24 5 v' ts.length cs → LiesC w C ts cs → w.grownBy w' none → wpListIn F n Tryz.prog ops Q rest (a.put o.dst v') w') :
    wpListIn F n Tryz.prog ops Q (o :: rest) a w := by
  refine wpListIn_plain hg fun K hK' => ?_
  obtain ⟨v', w', cs, hrun, r1, r2, r3⟩ := run_append_kids w B C A cap ts hB hk hlen
  unfold Oper.wpIn
  refine ⟨?_, ?_⟩
  · simp [Oper.about, hop, resolve, Target.leads, Sem.run_pure]
  · rw [Oper.semAt_plain F _ _ (by rw [hop]; intro c hc'; cases hc')]
    have hs : a.eval (.const (.slice none 0 0)) = .slice none 0 0 := rfl
    have hrun' : (Builtin.append_ #[22, 22] o.type #[.slice none 0 0, .slice A ts.length cap]).run Tryz.prog w = .ok v' w' := by rw [hty]; exact hrun
    clear hlen hk hrun
    simp [execOp, hop, resolve, invoke, builtin, hs, hx, hrun', Result.andThen]
    exact hK' _ _ (hK v' w' cs r1 r2 r3)
end Go.Proofs.YtjpmghgmmeemkaaGreatDoor
