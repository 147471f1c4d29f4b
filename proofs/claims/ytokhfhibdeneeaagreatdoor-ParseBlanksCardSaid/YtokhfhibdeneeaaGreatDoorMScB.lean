/- The lexer's plain law for ParseBlanks: two blanks ahead of a token move it and what stands behind it by two places, and nothing else. The lexer's plain law for ParseBlanks: as for a blank, for a tab; the whole text. -/
import Derived.Test.YtokhfhibdeneeaaGreatDoorMScanD
namespace Go.Proofs.YtokhfhibdeneeaaGreatDoor

def Tok.sh (t : Tok) : Tok := ⟨t.kind, t.text, t.at_ + 2⟩
/-- Tokens from the place c on stand two places further on. -/
def Tok.from_ (c : Nat) (t : Tok) : Tok := if c ≤ t.at_ then t.sh else t

theorem litR_sh {at_ : Nat} : ∀ (n : Nat) (l : List UInt8) (i : Nat) (out : List UInt8) {o : List UInt8} {q : Nat}, l.length = n → litR at_ l i out = .ok (o, q) → litR (at_ + 2) l (i + 2) out = .ok (o, q + 2) := by
  intro n
  induction n using Nat.strongRecOn with
  | ind n ih =>
    intro l i out o q hl h
    cases l with
    | nil => rw [litR] at h; cases h
    | cons c r =>
      simp only [List.length_cons] at hl
      rw [litR] at h ⊢
      split at h
      · rename_i h1
        rw [if_pos h1]
        have h' := Rd.ok.inj h
        have e1 := congrArg Prod.fst h'
        have e2 := congrArg Prod.snd h'
        simp only at e1 e2
        rw [← e1, ← e2]
      rename_i h1
      rw [if_neg h1]
      split at h
      · cases h
      rename_i h2
      rw [if_neg h2]
      split at h
      · rename_i h3
        rw [if_pos h3]
        split at h
        · cases h
        rename_i h4
        rw [if_neg h4]
        have h5 := ih _ (by rw [List.length_drop]; omega) _ _ _ rfl h
        rw [show i + 1 + (escS r).2 + 2 = i + 2 + 1 + (escS r).2 by omega] at h5
        exact h5
      · rename_i h3
        rw [if_neg h3]
        have h5 := ih _ (by omega) _ _ _ rfl h
        rw [show i + 1 + 2 = i + 2 + 1 by omega] at h5
        exact h5
theorem signR_sh {p : Nat} {s : List UInt8} {t : Tok} {q : Nat} : ∀ {zs : List (List UInt8)}, signR p s zs = .ok (t, q) → signR (p + 2) s zs = .ok (t.sh, q + 2)
  | [], h => by cases h
  | z :: zs, h => by
    rw [signR] at h ⊢
    split at h
    · rename_i h1
      rw [if_pos h1]
      have h' := Rd.ok.inj h
      have e1 := congrArg Prod.fst h'
      have e2 := congrArg Prod.snd h'
      simp only at e1 e2
      rw [← e1, ← e2, show p + 2 + z.length = p + z.length + 2 by omega]
      rfl
    · rename_i h1
      rw [if_neg h1]
      exact signR_sh h
theorem oneR_sh {p : Nat} {s : List UInt8} {t : Tok} {q : Nat} (h : oneR p s = .ok (t, q)) : oneR (p + 2) s = .ok (t.sh, q + 2) := by
  have pair : ∀ {x : Tok} {n : Nat}, (Rd.ok (x, n) : Rd (Tok × Nat)) = .ok (t, q) → x = t ∧ n = q := fun h => by
    have h' := Rd.ok.inj h
    exact ⟨congrArg Prod.fst h', congrArg Prod.snd h'⟩
  cases s with
  | nil => cases h
  | cons c r =>
    rw [oneR] at h ⊢
    split at h
    · rename_i h1
      rw [if_pos h1]
      obtain ⟨rfl, rfl⟩ := pair h
      rfl
    rename_i h1
    rw [if_neg h1]
    split at h
    · rename_i h2
      rw [if_pos h2]
      cases hl : litR p r (p + 1) [] with
      | bad e b => rw [hl] at h; cases h
      | ok z =>
        obtain ⟨o, q'⟩ := z
        rw [hl] at h
        obtain ⟨rfl, rfl⟩ := pair h
        rw [show p + 2 + 1 = p + 1 + 2 by omega, litR_sh _ _ _ _ rfl hl]
        rfl
    rename_i h2
    rw [if_neg h2]
    split at h
    · rename_i h3
      rw [if_pos h3]
      split at h
      · cases h
      rename_i h4
      rw [if_neg h4]
      obtain ⟨rfl, rfl⟩ := pair h
      rw [Nat.add_right_comm]
      rfl
    rename_i h3
    rw [if_neg h3]
    split at h
    · rename_i h4
      rw [if_pos h4]
      split at h
      · cases h
      rename_i h5
      rw [if_neg h5]
      obtain ⟨rfl, rfl⟩ := pair h
      rw [Nat.add_right_comm]
      rfl
    rename_i h4
    rw [if_neg h4]
    exact signR_sh h

theorem from_endR {c : Nat} (ts : List Tok) : endR (ts.map (Tok.from_ c)) = endR ts := by
  unfold endR
  rw [List.getLast?_map]
  cases ts.getLast? with
  | none => rfl
  | some t => simp only [Option.map_some, Tok.from_]; split <;> rfl
theorem from_endAdd {c p : Nat} (h : c ≤ p) (ts : List Tok) : endAdd (p + 2) (ts.map (Tok.from_ c)) = (endAdd p ts).map (Tok.from_ c) := by
  unfold endAdd
  rw [from_endR]
  split
  · simp [Tok.from_, h, Tok.sh]
  · rfl
/-- From a place at or behind c on. -/
theorem scan_sh {c : Nat} : ∀ (n : Nat) (s : List UInt8) (p : Nat) (ts : List Tok) {l : List Tok}, s.length = n → c ≤ p → scanR p s ts = .ok l → scanR (p + 2) s (ts.map (Tok.from_ c)) = .ok (l.map (Tok.from_ c)) := by
  intro n
  induction n using Nat.strongRecOn with
  | ind n ih =>
    intro s p ts l hn hc h
    cases s with
    | nil =>
      rw [scanR_nil] at h ⊢
      obtain rfl := Rd.ok.inj h
      rw [from_endAdd hc]
    | cons d r =>
      simp only [List.length_cons] at hn
      rw [scanR_cons] at h ⊢
      split at h
      · rename_i h1
        rw [if_pos h1, from_endAdd hc, Nat.add_right_comm]
        exact ih _ (by omega) _ _ _ rfl (by omega) h
      rename_i h1
      rw [if_neg h1]
      split at h
      · rename_i h2
        rw [if_pos h2, Nat.add_right_comm]
        exact ih _ (by omega) _ _ _ rfl (by omega) h
      rename_i h2
      rw [if_neg h2]
      split at h
      · rename_i h3
        rw [if_pos h3]
        split at h
        · rename_i h4
          rw [if_pos h4, Nat.add_right_comm]
          exact ih _ (by rw [List.length_drop]; omega) _ _ _ rfl (by omega) h
        · rename_i h4
          rw [if_neg h4, Nat.add_right_comm]
          exact ih _ (by simp; omega) _ _ _ rfl (by omega) h
      rename_i h3
      rw [if_neg h3]
      split at h
      · cases h
      · rename_i x hx
        obtain ⟨t, q⟩ := x
        rw [oneR_sh hx]
        have h1 := oneR_next hx
        have h2 := oneR_at hx
        simp only at h h1 h2 ⊢
        have h5 := ih _ (by rw [List.length_drop]; omega) _ _ _ rfl (by omega) h
        rw [show q + 2 - (p + 2) - 1 = q - p - 1 by omega]
        rw [List.map_append] at h5
        rw [show [t.sh] = [t].map (Tok.from_ c) by simp [Tok.from_]; omega]
        exact h5

theorem ixb_at : ∀ {a z : List UInt8} {c : UInt8}, c ∉ a → Lib.indexByte (a ++ c :: z) c = a.length
  | [], z, c, _ => by simp [Lib.indexByte]
  | d :: r, z, c, h => by
    have hd : (d == c) = false := by
      cases hb : d == c with
      | false => rfl
      | true => exact absurd (List.mem_cons.2 (.inl (by have := eq_of_beq hb; exact this.symm))) h
    have ih := ixb_at (a := r) (z := z) (c := c) (fun hm => h (List.mem_cons_of_mem _ hm))
    rw [List.cons_append, Lib.indexByte, hd, ih]
    simp only [Bool.false_eq_true, if_false, List.length_cons]
    rw [if_neg (by simp)]
    omega
/-- Both texts come to the same tokens ahead of the place where the blanks are put. -/
theorem scan_arrive {b : UInt8} (hb : b = 32 ∨ b = 9) (hone : ∀ {p : Nat} {a x y : List UInt8} {t : Tok} {q : Nat}, oneR p (a ++ x) = .ok (t, q) → q ≤ p + a.length → oneR p (a ++ b :: y) = .ok (t, q))
    {x : List UInt8} {l : List Tok} {k : Nat} {tk : Tok} (hk : l[k]? = some tk) : ∀ (n : Nat) (a : List UInt8) (p : Nat) (ts : List Tok), a.length = n →
    scanR p (a ++ x) ts = .ok l → ts.length ≤ k → tk.at_ = p + a.length → (∀ t ∈ ts, t.at_ < p + a.length) →
    ∃ ts', scanR (p + a.length) x ts' = .ok l ∧ scanR p (a ++ b :: b :: x) ts = scanR (p + a.length + 2) x ts' ∧ ∀ t ∈ ts', t.at_ < p + a.length := by
  have hb10 : ¬ b = 10 := by rcases hb with rfl | rfl <;> decide
  have hb47 : ¬ b = 47 := by rcases hb with rfl | rfl <;> decide
  intro n
  induction n using Nat.strongRecOn with
  | ind n ih =>
    intro a p ts hn h htk hat hts
    cases a with
    | nil =>
      refine ⟨ts, by simpa using h, ?_, hts⟩
      simp only [List.nil_append, List.length_nil, Nat.add_zero]
      rw [scanR_cons, if_neg hb10, if_pos hb, scanR_cons, if_neg hb10, if_pos hb]
    | cons c r =>
      simp only [List.length_cons] at hn hat hts ⊢
      simp only [List.cons_append] at h ⊢
      rw [scanR_cons] at h
      rw [scanR_cons]
      have hsum : p + (r.length + 1) = p + 1 + r.length := by omega
      by_cases h10 : c = 10
      · rw [if_pos h10] at h ⊢
        rw [hsum] at hat hts ⊢
        rcases Nat.lt_or_ge k (endAdd p ts).length with hl | hl
        · exfalso
          have he : (endAdd p ts).length = k + 1 ∧ (endAdd p ts)[k]? = some ⟨1, [], p⟩ := by
            unfold endAdd at hl ⊢
            split at hl
            · rename_i he
              rw [if_pos he]
              simp at hl ⊢
              have : k = ts.length := by omega
              subst this
              simp
            · omega
          obtain ⟨m, hm, _, _⟩ := scan_more _ _ _ _ _ rfl h
          rw [hm, List.getElem?_append_left hl, he.2] at hk
          injection hk with hk
          subst hk
          simp at hat
          omega
        · refine ih r.length (by omega) r (p + 1) _ rfl h hl hat fun t ht => ?_
          unfold endAdd at ht
          split at ht
          · rcases List.mem_append.1 ht with ht | ht
            · exact hts t ht
            · rw [List.mem_singleton.1 ht]; simp only; omega
          · exact hts t ht
      rw [if_neg h10] at h ⊢
      by_cases hbl : c = 32 ∨ c = 9
      · rw [if_pos hbl] at h ⊢
        rw [hsum] at hat hts ⊢
        exact ih r.length (by omega) r (p + 1) _ rfl h htk hat hts
      rw [if_neg hbl] at h ⊢
      have hpf : Lib.hasPrefix (c :: (r ++ b :: b :: x)) [47, 47] = Lib.hasPrefix (c :: (r ++ x)) [47, 47] := by
        cases r with
        | cons d r' =>
          have h1 := hasPrefix_split (a := c :: d :: r') (x := b :: b :: x) (z := [47, 47]) (by simp)
          have h2 := hasPrefix_split (a := c :: d :: r') (x := x) (z := [47, 47]) (by simp)
          simp only [List.cons_append] at h1 h2 ⊢
          rw [h1, h2]
        | nil =>
          have h1 : Lib.hasPrefix (c :: ([] ++ b :: b :: x)) [47, 47] = false := by
            cases hq : Lib.hasPrefix (c :: ([] ++ b :: b :: x)) [47, 47] with
            | false => rfl
            | true =>
              obtain ⟨z, hz⟩ := List.isPrefixOf_iff_prefix.1 hq
              simp at hz
              exact absurd hz.2.1.symm hb47
          rw [h1]
          cases hq : Lib.hasPrefix (c :: ([] ++ x)) [47, 47] with
          | false => rfl
          | true =>
            exfalso
            rw [if_pos hq] at h
            have h2 := hasPrefix_two hq
            split at h
            · rename_i h3
              have h4 := scan_late h htk hk
              have h5 : 2 ≤ (Lib.indexByte (c :: ([] ++ x)) 10).toNat := by
                obtain ⟨z, hz⟩ := List.isPrefixOf_iff_prefix.1 hq
                rw [← hz] at h3 ⊢
                have h6 := ixb_late (a := [47, 47]) (x := z) (c := 10) (by decide) (by simpa using h3)
                simpa using h6
              simp at hat
              omega
            · have h4 := scan_late h htk hk
              simp at h2 hat h4
              omega
      rw [hpf]
      by_cases hcm : Lib.hasPrefix (c :: (r ++ x)) [47, 47] = true
      · rw [if_pos hcm] at h ⊢
        by_cases hin : (10 : UInt8) ∈ c :: r
        · have e1 : Lib.indexByte (c :: (r ++ x)) 10 = Lib.indexByte (c :: r) 10 := ixb_pre (a := c :: r) hin
          have e2 : Lib.indexByte (c :: (r ++ b :: b :: x)) 10 = Lib.indexByte (c :: r) 10 := ixb_pre (a := c :: r) hin
          have h0 := ixb_mem hin
          have hlt := ixb_lt r c 10
          have hne : (Lib.indexByte (c :: r) 10).toNat ≠ 0 := fun e => h10 (ixb_zero h0 e)
          rw [e1, if_pos h0] at h
          rw [e2, if_pos h0]
          have hle : (Lib.indexByte (c :: r) 10).toNat - 1 ≤ r.length := by omega
          rw [List.drop_append_of_le_length hle] at h ⊢
          have hl' : (r.drop ((Lib.indexByte (c :: r) 10).toNat - 1)).length = r.length - ((Lib.indexByte (c :: r) 10).toNat - 1) := List.length_drop
          have hs : p + (Lib.indexByte (c :: r) 10).toNat + (r.drop ((Lib.indexByte (c :: r) 10).toNat - 1)).length = p + (r.length + 1) := by rw [hl']; omega
          have := ih _ (by rw [hl']; omega) _ _ _ rfl h htk (by rw [hs]; exact hat) (by rw [hs]; exact hts)
          rw [hs] at this
          exact this
        · have hlate : ∀ z, 0 ≤ Lib.indexByte (c :: (r ++ z)) 10 → r.length + 1 ≤ (Lib.indexByte (c :: (r ++ z)) 10).toNat := fun z hz => ixb_late (a := c :: r) hin hz
          split at h
          · rename_i h0
            have h4 := scan_late h htk hk
            have h5 := hlate x h0
            obtain ⟨o, ho⟩ : ∃ o : Nat, Lib.indexByte (c :: (r ++ x)) 10 = o := ⟨_, (Int.toNat_of_nonneg h0).symm⟩
            have h6 := (Lib.indexByte_some ho).1
            rw [ho] at h4 h5 h
            simp only [Int.toNat_natCast] at h4 h5 h
            have h7 : o = r.length + 1 := by omega
            subst h7
            cases x with
            | nil => simp at h6
            | cons d x =>
              have h8 : d = 10 := by simpa using h6
              subst h8
              have h9 : Lib.indexByte (c :: (r ++ b :: b :: 10 :: x)) 10 = ((r.length + 3 : Nat) : Int) := by
                have := ixb_at (a := c :: (r ++ [b, b])) (z := x) (c := 10) (by
                  intro hm
                  rcases List.mem_cons.1 hm with hm | hm
                  · exact hin (List.mem_cons.2 (.inl hm))
                  · rcases List.mem_append.1 hm with hm | hm
                    · exact hin (List.mem_cons_of_mem _ hm)
                    · simp at hm; exact hb10 hm.symm)
                simp at this ⊢
                omega
              rw [h9, if_pos (by omega)]
              refine ⟨ts, ?_, ?_, hts⟩
              · simpa using h
              · simp only [Int.toNat_natCast]
                rw [show r.length + 3 - 1 = (r ++ [b, b]).length by simp, show r ++ b :: b :: 10 :: x = (r ++ [b, b]) ++ 10 :: x by simp, List.drop_left]
                rw [show p + (r.length + 3) = p + (r.length + 1) + 2 by omega]
          · have h4 := scan_late h htk hk
            have hx : x = [] := by
              cases x with
              | nil => rfl
              | cons d x => simp at h4 hat; omega
            subst hx
            have h9 : ¬ 0 ≤ Lib.indexByte (c :: (r ++ [b, b])) 10 := by
              intro h0
              have hnm : (10 : UInt8) ∉ c :: (r ++ [b, b]) := by
                intro hm
                rcases List.mem_cons.1 hm with hm | hm
                · exact hin (List.mem_cons.2 (.inl hm))
                · rcases List.mem_append.1 hm with hm | hm
                  · exact hin (List.mem_cons_of_mem _ hm)
                  · simp at hm; exact hb10 hm.symm
              have h1 := ixb_late (a := c :: (r ++ [b, b])) (x := []) hnm (by simpa using h0)
              have h2 := ixb_lt (r ++ [b, b]) c 10
              simp at h1 h2
              omega
            rw [if_neg h9]
            refine ⟨ts, by simpa using h, ?_, hts⟩
            rw [show p + ((r ++ [b, b]).length + 1) = p + (r.length + 1) + 2 by simp; omega]
      rw [if_neg hcm] at h ⊢
      cases ho : oneR p (c :: (r ++ x)) with
      | bad e q => rw [ho] at h; cases h
      | ok z =>
        obtain ⟨t, q⟩ := z
        rw [ho] at h
        have h1 := oneR_next ho
        have h2 := oneR_at ho
        simp only at h h1 h2
        rcases Nat.lt_or_ge (p + (r.length + 1)) q with hq | hq
        · exfalso
          obtain ⟨m, hm, hm2, _⟩ := scan_more _ _ _ _ _ rfl h
          have hkt : tk ∈ [t] ++ m := by
            rw [hm, List.append_assoc, List.getElem?_append_right htk] at hk
            exact List.mem_of_getElem? hk
          rcases List.mem_append.1 hkt with hx | hx
          · rw [List.mem_singleton.1 hx] at hat; omega
          · have := (hm2 tk hx).1; omega
        · have h9 : oneR p (c :: (r ++ b :: b :: x)) = .ok (t, q) := hone (a := c :: r) (x := x) (y := b :: x) ho (by simpa using hq)
          rw [h9]
          simp only
          have hle : q - p - 1 ≤ r.length := by omega
          rw [List.drop_append_of_le_length hle] at h ⊢
          have hl' : (r.drop (q - p - 1)).length = r.length - (q - p - 1) := List.length_drop
          have hs : q + (r.drop (q - p - 1)).length = p + (r.length + 1) := by rw [hl']; omega
          have hkk : (ts ++ [t]).length ≤ k := by
            rcases Nat.lt_or_ge k (ts ++ [t]).length with hl | hl
            · exfalso
              obtain ⟨m, hm, _, _⟩ := scan_more _ _ _ _ _ rfl h
              have : k = ts.length := by simp at hl; omega
              subst this
              rw [hm, List.getElem?_append_left hl] at hk
              simp at hk
              subst hk
              omega
            · exact hl
          have := ih _ (by rw [hl']; omega) _ _ _ rfl h hkk (by rw [hs]; exact hat) (fun u hu => by
            rw [hs]
            rcases List.mem_append.1 hu with hu | hu
            · exact hts u hu
            · rw [List.mem_singleton.1 hu]; omega)
          rw [hs] at this
          exact this
end Go.Proofs.YtokhfhibdeneeaaGreatDoor

namespace Go.Proofs.YtokhfhibdeneeaaGreatDoor
namespace Tab

theorem escS_pre {r x y : List UInt8} (h0 : (escS (r ++ x)).2 ≠ 0) (h : (escS (r ++ x)).2 ≤ r.length) : escS (r ++ y) = escS (r ++ x) := by
  cases r with
  | nil => exact absurd (Nat.le_zero.1 h) h0
  | cons c r =>
    simp only [List.cons_append, escS] at h0 h ⊢
    split
    · rfl
    rename_i h1
    rw [if_neg h1] at h0 h
    split
    · rfl
    rename_i h2
    rw [if_neg h2] at h0 h
    split
    · rfl
    rename_i h3
    rw [if_neg h3] at h0 h
    split
    · rename_i h4
      rw [if_pos h4] at h0 h
      cases r with
      | nil =>
        exfalso
        cases x with
        | nil => simp at h0
        | cons a x =>
          cases x with
          | nil => simp at h0
          | cons b x =>
            simp only [List.nil_append] at h0 h
            split at h
            · simp at h
            · rename_i h5; rw [if_neg h5] at h0; simp at h0
      | cons a r =>
        cases r with
        | nil =>
          exfalso
          cases x with
          | nil => simp at h0
          | cons b x =>
            simp only [List.cons_append, List.nil_append] at h0 h
            split at h
            · simp at h
            · rename_i h5; rw [if_neg h5] at h0; simp at h0
        | cons b r => rfl
    · rfl

theorem litR_pre {at_ : Nat} {x y : List UInt8} : ∀ (n : Nat) (a : List UInt8) (i : Nat) (out : List UInt8) {o : List UInt8} {q : Nat}, a.length = n → litR at_ (a ++ x) i out = .ok (o, q) → q ≤ i + a.length → litR at_ (a ++ y) i out = .ok (o, q) := by
  intro n
  induction n using Nat.strongRecOn with
  | ind n ih =>
    intro a i out o q hn h hq
    cases a with
    | nil =>
      have := (litR_next _ _ _ _ rfl h).1
      simp at hq
      omega
    | cons c r =>
      simp only [List.cons_append] at h ⊢
      rw [litR] at h ⊢
      simp only [List.length_cons] at hn hq
      split at h
      · rename_i h1
        rw [if_pos h1]
        exact h
      rename_i h1
      rw [if_neg h1]
      split at h
      · cases h
      rename_i h2
      rw [if_neg h2]
      split at h
      · rename_i h3
        rw [if_pos h3]
        split at h
        · cases h
        rename_i h4
        have h5 := (litR_next _ _ _ _ rfl h).1
        have h6 : (escS (r ++ x)).2 ≤ r.length := by
          simp only at h5
          omega
        have he : escS (r ++ y) = escS (r ++ x) := escS_pre h4 h6
        rw [he, if_neg h4]
        rw [List.drop_append_of_le_length h6] at h ⊢
        exact ih _ (by rw [List.length_drop]; omega) _ _ _ rfl h (by rw [List.length_drop]; omega)
      · rename_i h3
        rw [if_neg h3]
        exact ih _ (by omega) _ _ _ rfl h (by omega)

theorem runN_blank {b : Bool} {y : List UInt8} : ∀ a : List UInt8, runN b (a ++ 9 :: y) = runN b a
  | [] => by cases b <;> rfl
  | c :: r => by
    simp only [List.cons_append, runN]
    rw [runN_blank r]
theorem runN_pre {b : Bool} {x : List UInt8} : ∀ a : List UInt8, runN b (a ++ x) ≤ a.length → runN b (a ++ x) = runN b a
  | [], h => by simp at h; simp [h, runN]
  | c :: r, h => by
    simp only [List.cons_append, runN] at h ⊢
    split
    · rename_i hc
      rw [if_pos hc] at h
      rw [runN_pre r (by simp at h; omega)]
    · rfl
theorem runN_same {b : Bool} {x y : List UInt8} {a : List UInt8} (h : runN b (a ++ x) ≤ a.length) : runN b (a ++ 9 :: y) = runN b (a ++ x) := by
  rw [runN_blank, runN_pre a h]
theorem take_pre {α : Type} {n : Nat} {a x y : List α} (h : n ≤ a.length) : (a ++ x).take n = (a ++ y).take n := by
  rw [List.take_append_of_le_length h, List.take_append_of_le_length h]

theorem hasPrefix_split {a x z : List UInt8} (h : z.length ≤ a.length) : Lib.hasPrefix (a ++ x) z = Lib.hasPrefix a z := by
  have h1 : Lib.hasPrefix (a ++ x) z = true ↔ Lib.hasPrefix a z = true := by
    constructor
    · intro h'
      have h2 := List.isPrefixOf_iff_prefix.1 h'
      exact List.isPrefixOf_iff_prefix.2 (List.prefix_of_prefix_length_le h2 (List.prefix_append a x) h)
    · intro h'
      exact List.isPrefixOf_iff_prefix.2 ((List.isPrefixOf_iff_prefix.1 h').trans (List.prefix_append a x))
  cases hb : Lib.hasPrefix a z with
  | true => exact h1.2 hb
  | false =>
    cases hb' : Lib.hasPrefix (a ++ x) z with
    | false => rfl
    | true => rw [h1.1 hb'] at hb; cases hb
/-- A sign that has no blank does not go over one. -/
theorem hasPrefix_blank {a y z : List UInt8} (hz : 9 ∉ z) : Lib.hasPrefix (a ++ 9 :: y) z = Lib.hasPrefix a z := by
  rcases Nat.lt_or_ge a.length z.length with h | h
  · have h1 : Lib.hasPrefix (a ++ 9 :: y) z = false := by
      cases hb : Lib.hasPrefix (a ++ 9 :: y) z with
      | false => rfl
      | true =>
        exfalso
        obtain ⟨t, ht⟩ := List.isPrefixOf_iff_prefix.1 hb
        have : z[a.length]? = some 9 := by
          have h2 : (z ++ t)[a.length]? = (a ++ 9 :: y)[a.length]? := by rw [ht]
          rw [List.getElem?_append_left h, List.getElem?_append_right (Nat.le_refl _)] at h2
          simpa using h2
        exact hz (List.mem_of_getElem? this)
    have h2 : Lib.hasPrefix a z = false := by
      cases hb : Lib.hasPrefix a z with
      | false => rfl
      | true =>
        have := (List.isPrefixOf_iff_prefix.1 hb).length_le
        omega
    rw [h1, h2]
  · exact hasPrefix_split h

theorem signR_pre {p : Nat} {a x y : List UInt8} {t : Tok} {q : Nat} : ∀ {zs : List (List UInt8)}, (∀ z ∈ zs, 9 ∉ z) → signR p (a ++ x) zs = .ok (t, q) → q ≤ p + a.length → signR p (a ++ 9 :: y) zs = .ok (t, q)
  | [], _, h, _ => by cases h
  | z :: zs, hz, h, hq => by
    rw [signR] at h ⊢
    rw [hasPrefix_blank (hz z (List.mem_cons_self ..))]
    cases hp : Lib.hasPrefix (a ++ x) z with
    | true =>
      rw [hp] at h
      simp only [if_true] at h
      have h' := Rd.ok.inj h
      have hq' : p + z.length = q := congrArg Prod.snd h'
      rw [← hasPrefix_split (x := x) (by omega), hp]
      simp only [if_true]
      exact h
    | false =>
      rw [hp] at h
      have hp' : Lib.hasPrefix a z = false := by
        cases hb : Lib.hasPrefix a z with
        | false => rfl
        | true =>
          rw [← hasPrefix_split (x := x) (List.isPrefixOf_iff_prefix.1 hb).length_le, hp] at hb
          cases hb
      rw [hp']
      simp only [Bool.false_eq_true, if_false] at h ⊢
      exact signR_pre (fun z hz' => hz z (List.mem_cons_of_mem _ hz')) h hq

theorem numN_ge (s : List UInt8) : runN false s ≤ numN s := Nat.le_add_right _ _
theorem floatB_pre {a x y : List UInt8} (h : floatB (a ++ x) = true → 2 ≤ a.length) : floatB (a ++ 9 :: y) = floatB (a ++ x) := by
  cases a with
  | nil =>
    have h1 : floatB ([] ++ x) = false := by
      cases hb : floatB ([] ++ x) with
      | false => rfl
      | true => have := h hb; simp at this
    rw [h1]
    cases y with
    | nil => rfl
    | cons d y => simp [floatB]
  | cons c a =>
    cases a with
    | nil =>
      have h1 : floatB ([c] ++ x) = false := by
        cases hb : floatB ([c] ++ x) with
        | false => rfl
        | true => have := h hb; simp at this
      rw [h1]
      simp only [List.cons_append, List.nil_append, floatB]
      have : digitB ((9 : UInt8).toNat : Int) = false := by decide
      rw [this, Bool.and_false]
    | cons d a => rfl

theorem part_pos {l : List UInt8} (h : floatB l = true) : 1 ≤ ((l.drop 1).take (runN false (l.drop 1))).length := by
  obtain ⟨d, c, r, rfl, hc⟩ := floatB_two h
  rw [List.length_take]
  have := runN_go (letters := false) (c := c) (r := r) (by simp [runP, hc])
  simp only [List.drop_succ_cons, List.drop_zero, this, List.length_cons]
  omega
theorem num_pre {a x y : List UInt8} (hn : numN (a ++ x) ≤ a.length) (hb : numBad (a ++ x) = false) :
    numBad (a ++ 9 :: y) = false ∧ numKind (a ++ 9 :: y) = numKind (a ++ x) ∧ numN (a ++ 9 :: y) = numN (a ++ x) := by
  have h1 : runN false (a ++ x) ≤ a.length := Nat.le_trans (numN_ge _) hn
  have e1 : runN false (a ++ 9 :: y) = runN false (a ++ x) := runN_same h1
  have ew : whL (a ++ 9 :: y) = whL (a ++ x) := by unfold whL; rw [e1, take_pre h1]
  have er : restL (a ++ x) = a.drop (runN false (a ++ x)) ++ x := by unfold restL; rw [List.drop_append_of_le_length h1]
  have er' : restL (a ++ 9 :: y) = a.drop (runN false (a ++ x)) ++ 9 :: y := by unfold restL; rw [e1, List.drop_append_of_le_length h1]
  have hf : floatB (restL (a ++ x)) = true → 2 ≤ (a.drop (runN false (a ++ x))).length := fun hf => by
    have h2 := hn
    unfold numN at h2
    rw [if_pos hf] at h2
    have h3 := part_pos hf
    have h4 : partL (a ++ x) = ((restL (a ++ x)).drop 1).take (runN false ((restL (a ++ x)).drop 1)) := by unfold partL; rw [if_pos hf]
    rw [← h4] at h3
    rw [List.length_drop]
    omega
  have ef : floatB (restL (a ++ 9 :: y)) = floatB (restL (a ++ x)) := by
    rw [er, er']
    rw [er] at hf
    exact floatB_pre hf
  have ep : partL (a ++ 9 :: y) = partL (a ++ x) := by
    unfold partL
    rw [ef]
    cases hfl : floatB (restL (a ++ x)) with
    | false => rfl
    | true =>
      simp only [if_true]
      have h2 := hf hfl
      have h3 := hn
      unfold numN at h3
      rw [if_pos hfl] at h3
      unfold partL at h3
      rw [if_pos hfl] at h3
      rw [er] at h3 ⊢
      rw [er']
      rw [List.drop_append_of_le_length (by omega)] at h3 ⊢
      rw [List.drop_append_of_le_length (by omega)]
      have h4 : runN false ((a.drop (runN false (a ++ x))).drop 1 ++ x) ≤ ((a.drop (runN false (a ++ x))).drop 1).length := by
        rw [List.length_take, Nat.min_eq_left (runN_le _ _)] at h3
        rw [List.length_drop, List.length_drop]
        omega
      rw [runN_same h4, take_pre h4]
  have en : numN (a ++ 9 :: y) = numN (a ++ x) := by unfold numN; rw [e1, ef, ep]
  refine ⟨?_, by unfold numKind; rw [ef], en⟩
  have hb2 := hb
  unfold numBad at hb2 ⊢
  rw [ef, ew, ep, en]
  have hz : runN true ((a ++ x).drop (numN (a ++ x))) = 0 := by
    have : decide (0 < runN true ((a ++ x).drop (numN (a ++ x)))) = false := by
      simp only [Bool.or_eq_false_iff] at hb2
      exact hb2.1.1.2
    have := of_decide_eq_false this
    omega
  have hz' : runN true ((a ++ 9 :: y).drop (numN (a ++ x))) = runN true ((a ++ x).drop (numN (a ++ x))) := by
    rw [List.drop_append_of_le_length hn] at hz ⊢
    rw [List.drop_append_of_le_length hn]
    exact runN_same (by rw [hz]; exact Nat.zero_le _)
  rw [hz']
  exact hb2

theorem signL_blank : ∀ z ∈ signL, (9 : UInt8) ∉ z := by decide
theorem oneR_pre {p : Nat} {a x y : List UInt8} {t : Tok} {q : Nat} (h : oneR p (a ++ x) = .ok (t, q)) (hq : q ≤ p + a.length) : oneR p (a ++ 9 :: y) = .ok (t, q) := by
  cases a with
  | nil =>
    have := (oneR_next h).1
    simp at hq
    simp only at this
    omega
  | cons c r =>
    simp only [List.cons_append] at h ⊢
    rw [oneR] at h ⊢
    split
    · rename_i h1
      rw [if_pos h1] at h
      exact h
    rename_i h1
    rw [if_neg h1] at h
    split
    · rename_i h2
      rw [if_pos h2] at h
      cases hl : litR p (r ++ x) (p + 1) [] with
      | bad e b => rw [hl] at h; cases h
      | ok z =>
        rw [hl] at h
        obtain ⟨o, q'⟩ := z
        have h' := Rd.ok.inj h
        have hq' : q' = q := congrArg Prod.snd h'
        subst hq'
        rw [litR_pre _ r (p + 1) [] rfl hl (by simp at hq; omega)]
        exact h
    rename_i h2
    rw [if_neg h2] at h
    split
    · rename_i h3
      rw [if_pos h3] at h
      split at h
      · cases h
      rename_i h4
      have h' := Rd.ok.inj h
      have hq' : p + ((c :: (r ++ x)).take (numN (c :: (r ++ x)))).length = q := congrArg Prod.snd h'
      have hn : numN ((c :: r) ++ x) ≤ (c :: r).length := by
        rw [List.length_take, Nat.min_eq_left (numN_le _)] at hq'
        simp only [List.cons_append]
        omega
      obtain ⟨g1, g2, g3⟩ := num_pre (y := y) hn (by simpa using h4)
      have g4 := take_pre (x := x) (y := 9 :: y) hn
      simp only [List.cons_append] at g1 g2 g3 g4
      rw [g1, g2, g3, ← g4]
      exact h
    rename_i h3
    rw [if_neg h3] at h
    split
    · rename_i h4
      rw [if_pos h4] at h
      split at h
      · cases h
      rename_i h5
      have h' := Rd.ok.inj h
      have hq' : p + runN true (c :: (r ++ x)) = q := congrArg Prod.snd h'
      have hn : runN true ((c :: r) ++ x) ≤ (c :: r).length := by simp only [List.cons_append]; omega
      have g1 := runN_same (y := y) hn
      have g2 := take_pre (x := x) (y := 9 :: y) hn
      simp only [List.cons_append] at g1 g2
      rw [g1, ← g2, if_neg h5]
      exact h
    rename_i h4
    rw [if_neg h4] at h
    exact signR_pre (a := c :: r) signL_blank h hq

theorem signR_at {p : Nat} {s : List UInt8} : ∀ {zs : List (List UInt8)} {t : Tok × Nat}, signR p s zs = .ok t → t.1.at_ = p
  | [], _, h => by cases h
  | z :: zs, _, h => by
    rw [signR] at h
    split at h
    · obtain rfl := Rd.ok.inj h; rfl
    · exact signR_at h
theorem oneR_at {p : Nat} {s : List UInt8} {t : Tok × Nat} (h : oneR p s = .ok t) : t.1.at_ = p := by
  cases s with
  | nil => cases h
  | cons c r =>
    rw [oneR] at h
    split at h
    · obtain rfl := Rd.ok.inj h; rfl
    split at h
    · cases hl : litR p r (p + 1) [] with
      | bad e b => rw [hl] at h; cases h
      | ok z => rw [hl] at h; obtain rfl := Rd.ok.inj h; rfl
    split at h
    · split at h
      · cases h
      · obtain rfl := Rd.ok.inj h; rfl
    split at h
    · split at h
      · cases h
      · obtain rfl := Rd.ok.inj h; rfl
    exact signR_at h
end Tab

/-- Two blanks, or tabs, ahead of a token. -/
theorem scanT_blank {b : UInt8} (hb : b = 32 ∨ b = 9) {s : List UInt8} {l : List Tok} {k : Nat} {tk : Tok} (h : scanT s = .ok l) (hk : l[k]? = some tk) (hlen : s.length + 2 ≤ 60000) :
    tk.at_ ≤ s.length ∧ scanT (s.take tk.at_ ++ b :: b :: s.drop tk.at_) = .ok (l.map (Tok.from_ tk.at_)) := by
  unfold scanT at h
  rw [if_neg (by omega)] at h
  obtain ⟨m, hm, hm2, _⟩ := scan_more _ s 0 [] l rfl h
  have hle : tk.at_ ≤ s.length := by
    have := (hm2 tk (by rw [hm] at hk; simpa using List.mem_of_getElem? hk)).2
    omega
  refine ⟨hle, ?_⟩
  have hlt : (s.take tk.at_).length = tk.at_ := by rw [List.length_take]; omega
  have hone : ∀ {p : Nat} {a x y : List UInt8} {t : Tok} {q : Nat}, oneR p (a ++ x) = .ok (t, q) → q ≤ p + a.length → oneR p (a ++ b :: y) = .ok (t, q) := by
    rcases hb with rfl | rfl
    · exact oneR_pre
    · exact Tab.oneR_pre
  have h0 : scanR 0 (s.take tk.at_ ++ s.drop tk.at_) [] = .ok l := by rw [List.take_append_drop]; exact h
  obtain ⟨ts', h1, h2, h3⟩ := scan_arrive hb hone hk _ _ _ _ rfl h0 (Nat.zero_le _) (by rw [hlt]; omega) (fun t ht => by cases ht)
  unfold scanT
  rw [if_neg (by simp only [List.length_append, List.length_cons, List.length_drop, hlt]; omega), h2]
  have h4 := scan_sh (c := tk.at_) _ _ _ _ rfl (by rw [hlt]; omega) h1
  have h5 : ts'.map (Tok.from_ tk.at_) = ts' := by
    conv => rhs; rw [← List.map_id ts']
    refine List.map_congr_left fun t ht => ?_
    have := h3 t ht
    rw [hlt] at this
    simp [Tok.from_]
    omega
  rw [h5] at h4
  exact h4
end Go.Proofs.YtokhfhibdeneeaaGreatDoor
