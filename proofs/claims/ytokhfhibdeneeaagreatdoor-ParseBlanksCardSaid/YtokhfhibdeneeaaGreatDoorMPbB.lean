/- parseT under blanks ahead of a token. For ParseBlanks: pick; a right tree has few nodes, so Same says of two trees that differ in their places that they are the same. -/
import Derived.Test.YtokhfhibdeneeaaGreatDoorMScI
import Derived.Test.YtokhfhibdeneeaaGreatDoorMScB
import Derived.Test.YtokhfhibdeneeaaGreatDoorMRtM
namespace Go.Proofs.YtokhfhibdeneeaaGreatDoor

/-- Where a place goes: from c on two further. -/
def shI (c : Nat) (a : Int) : Int := if (c : Int) ≤ a then a + 2 else a
theorem tkOf_from (c : Nat) (t : Tok) : tkOf (t.from_ c) = (tkOf t).mv (shI c) := by
  unfold Tok.from_ tkOf Tk.mv shI
  by_cases h : c ≤ t.at_
  · rw [if_pos h, if_pos (by simp only; omega)]
    simp [Tok.sh]
  · rw [if_neg h, if_neg (by simp only; omega)]
theorem envOf_blank {l l' : List UInt8} {c : Nat} (hl : l'.length = l.length + 2) (hc : c ≤ l.length) (ts : List Tok) : envOf l' (ts.map (Tok.from_ c)) = (envOf l ts).mv (shI c) := by
  unfold envOf Env.mv
  simp only [List.length_map, List.getElem?_map]
  congr 1
  funext j
  cases ts[j]? with
  | none =>
    simp only [Option.map_none, Tk.mv, shI, hl]
    rw [if_pos (by omega)]
    rfl
  | some t => exact tkOf_from c t

theorem envOf_E {l : List UInt8} {ts : List Tok} (_ : scanT l = .ok ts) : (envOf l ts).Ok := fun i hi => by rw [envOf_past hi]
/-- The same, but for places. -/
def OutMv (f : Int → Int) : Out → Out → Prop
  | .tree t, .tree t' => t.nowhere = t'.nowhere
  | .wrong c a n, .wrong c' a' n' => c' = c ∧ a' = f a ∧ n' = n
  | _, _ => False
theorem rightW_mv {f : Int → Int} (t : Nd) : rightW (t.mv f) = (rightW t).map (Wr.mv f) := by unfold rightW; rw [look_mv]
theorem rightW_block (a b : Int) (ks : List Nd) : rightW (.mk 17 (bs []) 0 a ks) = rightW (.mk 17 (bs []) 0 b ks) := by
  have h : ∀ a, Nd.look intB floatsB (.mk 17 (bs []) 0 a ks) 1 0 0 = lookL intB floatsB ks (rwS 10 []) 0 1 0 1 := fun a => by
    have h1 : mayB 17 (bs []) 0 = true := by decide
    have h2 : textB intB floatsB 17 (bs []) 0 = true := by kernel_rfl
    have h3 : numberB 17 0 = true := by decide
    have h4 : shapeOf 17 (bs []) ks 0 = rwS 10 [] := by simp [shapeOf, stmtShape]
    unfold Nd.look
    rw [if_neg (by decide), if_neg (by decide), if_neg (by rw [h1, h2, h3]; simp), h4, if_neg (by simp [rwS]), if_neg (by simp [rwS])]
    rfl
  unfold rightW
  rw [h a, h b]
section
variable {E : Env} {K : Kn}
theorem stmtsL_form {stmt : Rs → Rr Nd} : ∀ n (ks : List Nd) (a : Int) s x s', stmtsL E stmt n (.mk 17 (bs []) 0 a ks) s = .ok x s' → ∃ ks', x = .mk 17 (bs []) 0 a ks'
  | 0, _, _, _, _, _, h => by cases h
  | n + 1, ks, a, s, x, s', h => by
    rw [stmtsL] at h
    split at h
    · injection h with h1 h2
      exact ⟨ks, h1.symm⟩
    · cases hs : stmt s with
      | ok y s1 =>
        rw [hs] at h
        simp only [Rr.bind] at h
        split at h
        · exact stmtsL_form n (ks ++ [y]) a _ _ _ h
        · cases h
      | bad i => rw [hs] at h; cases h
      | out => rw [hs] at h; cases h
theorem read_form {m k : Nat} {t : Nd} {s : Rs} (hk : ¬ k < 2) (h : readR E (formN E m k) = .ok t s) : ∃ ks, t = .mk 17 (bs []) 0 0 ks := by
  obtain ⟨k, rfl⟩ : ∃ j, k = j + 2 := ⟨k - 2, by omega⟩
  have h' : readR E (stmtsFormR E (kn E m)) = .ok t s := h
  unfold readR stmtsFormR stmtsR at h'
  cases hs : stmtsL E (stmtR E (kn E m)) (kn E m).fuel (.mk 17 (bs []) 0 0 []) (endsS E ⟨0, false, false, false⟩) with
  | ok y s1 =>
    rw [hs] at h'
    simp only [Rr.bind] at h'
    obtain ⟨ks, hy⟩ := stmtsL_form _ _ _ _ _ _ hs
    split at h'
    · cases h'
    · injection h' with h1 h2
      exact ⟨ks, by rw [← h1, hy]⟩
  | bad i => rw [hs] at h'; cases h'
  | out => rw [hs] at h'; cases h'
end
theorem outOf_mv {E : Env} {f : Int → Int} {k : Nat} (hne : readR E (formR E k) ≠ .out) : OutMv f (outOf E (readR E (formR E k))) (outOf (E.mv f) (readR (E.mv f) (formR (E.mv f) k))) := by
  rw [mv_form]
  cases hr : readR E (formR E k) with
  | out => exact absurd hr hne
  | bad i => exact ⟨rfl, rfl, rfl⟩
  | ok t s =>
    have hW : ∃ t', (if k < 2 then t.mv f else (t.mv f).setAt 0) = t' ∧ rightW t' = (rightW t).map (Wr.mv f) ∧ t.nowhere = t'.nowhere := by
      by_cases hk : k < 2
      · rw [if_pos hk]
        exact ⟨_, rfl, rightW_mv t, (nowhere_mv t).symm⟩
      · rw [if_neg hk]
        obtain ⟨ks, rfl⟩ := read_form hk hr
        refine ⟨_, rfl, ?_, ((nowhere_setAt _ _).trans (nowhere_mv _)).symm⟩
        rw [← rightW_mv]
        simp only [mv_mk, Nd.setAt]
        exact rightW_block _ _ _
    obtain ⟨t', e, hW, hn⟩ := hW
    simp only [Rr.mv_ok]
    rw [e]
    unfold outOf
    simp only
    rw [hW]
    cases rightW t with
    | none => exact hn
    | some x => exact ⟨rfl, rfl, rfl⟩
/-- What is read of a text with two blanks, or tabs, ahead of a token. -/
theorem parse_blank {b : UInt8} (hb : b = 32 ∨ b = 9) {s : List UInt8} {l : List Tok} {j : Nat} {tk : Tok} (h : scanT s = .ok l) (hj : l[j]? = some tk) (hlen : s.length + 2 ≤ 60000) (k : Nat) :
    tk.at_ ≤ s.length ∧ OutMv (shI tk.at_) (parseT k s) (parseT k (s.take tk.at_ ++ b :: b :: s.drop tk.at_)) := by
  obtain ⟨hle, h2⟩ := scanT_blank hb h hj hlen
  refine ⟨hle, ?_⟩
  have hlen' : (s.take tk.at_ ++ b :: b :: s.drop tk.at_).length = s.length + 2 := by
    simp only [List.length_append, List.length_take, List.length_cons, List.length_drop]
    omega
  unfold parseT
  rw [h, h2]
  simp only
  rw [envOf_blank hlen' hle]
  refine outOf_mv (read_ne (envOf_E h) ?_ k)
  have h3 := (scanT_ok h).1
  have h4 := (scanT_ok h).2.1
  show l.length ≤ 100000
  omega
end Go.Proofs.YtokhfhibdeneeaaGreatDoor

namespace Go.Proofs.YtokhfhibdeneeaaGreatDoor
open Go.RowKit

section
variable (iB fB : ByteArray → Bool)
mutual
theorem look_count : ∀ (t : Nd) (deep q seen s' : Int), t.look iB fB deep q seen = (s', none) → seen ≤ s' ∧ ∀ left, t.count left ≤ s' - seen
  | .mk k s n a ks, deep, q, seen, s', h => by
    rw [Nd.look] at h
    split at h
    · cases h
    split at h
    · cases h
    split at h
    · cases h
    split at h
    · cases h
    split at h
    · cases h
    obtain ⟨h1, h2⟩ := lookL_count ks _ _ _ _ _ _ h
    refine ⟨by omega, fun left => ?_⟩
    rw [Nd.count]
    have := h2 left 1
    omega
theorem lookL_count : ∀ (ts : List Nd) (sh : Shp) (i : Nat) (deep d seen s' : Int), lookL iB fB ts sh i deep d seen = (s', none) → seen ≤ s' ∧ ∀ left many, countL ts left many ≤ many + (s' - seen)
  | [], sh, i, deep, d, seen, s', h => by
    rw [lookL] at h
    injection h with h1 h2
    exact ⟨by omega, fun left many => by rw [countL]; omega⟩
  | t :: ts, sh, i, deep, d, seen, s', h => by
    rw [lookL] at h
    split at h
    · cases h
    split at h
    · cases h
    · rename_i s1 hs1
      obtain ⟨h1, h2⟩ := look_count t _ _ _ _ hs1
      obtain ⟨h3, h4⟩ := lookL_count ts _ _ _ _ _ _ h
      refine ⟨by omega, fun left many => ?_⟩
      rw [countL]
      split
      · omega
      · have h5 := h2 (left - many)
        have h6 := h4 left (many + t.count (left - many))
        omega
end
end
theorem right_count {t : Nd} (h : rightW t = none) (left : Int) : t.count left ≤ 20000 := by
  obtain ⟨s', hs⟩ : ∃ s', t.look intB floatsB 1 0 0 = (s', none) := ⟨_, Prod.ext rfl h⟩
  have h1 := Nd.look_bd intB floatsB t 1 0 0 (by decide)
  rw [hs] at h1
  have h2 := (look_count intB floatsB t 1 0 0 s' hs).2 left
  simp only at h1
  omega
theorem right_Same {t t' : Nd} (h : rightW t = none) (hn : t.nowhere = t'.nowhere) : t.Same t' = true := by
  have h1 := right_count h 1000000
  unfold Nd.Same
  rw [← count_nowhere hn, same_nowhere hn]
  simp
  omega
theorem parse_right {k : Nat} {l : List UInt8} {t : Nd} (h : parseT k l = .tree t) : rightW t = none := by
  unfold parseT at h
  split at h
  · cases h
  · unfold outOf at h
    split at h
    · split at h
      · rename_i hr
        injection h with h
        rw [← h]
        exact hr
      · cases h
    · cases h
    · cases h
/-- What is told is told at a place of the text. -/
theorem wrong_at {k : Nat} {l : List UInt8} {ts : List Tok} {c a : Int} {nm : ByteArray} (hs : scanT l = .ok ts) (h : parseT k l = .wrong c a nm) : 0 ≤ a ∧ a ≤ 60000 := by
  obtain ⟨h1, h2, h3, h4⟩ := scanT_ok hs
  have he : (envOf l ts).mv (fun a => if 0 ≤ a ∧ a ≤ 60000 then a else 0) = envOf l ts := by
    unfold Env.mv
    have ht : (fun j => ((envOf l ts).tok j).mv (fun a => if 0 ≤ a ∧ a ≤ 60000 then a else 0)) = (envOf l ts).tok := by
      funext j
      rcases envOf_cases l ts j with ⟨t, _, htm, e⟩ | ⟨_, e⟩
      · rw [e]
        have := (h3 t htm).2
        unfold Tk.mv tkOf
        simp only
        rw [if_pos (by omega)]
      · rw [e]
        unfold Tk.mv
        simp only
        rw [if_pos (by omega)]
    rw [ht]
  have hm := outOf_mv (E := envOf l ts) (f := fun a => if 0 ≤ a ∧ a ≤ 60000 then a else 0) (k := k) (read_ne (envOf_E hs) (by show ts.length ≤ 100000; omega) k)
  rw [he] at hm
  have hp : parseT k l = outOf (envOf l ts) (readR (envOf l ts) (formR (envOf l ts) k)) := by unfold parseT; rw [hs]
  rw [← hp, h] at hm
  have h5 : a = if 0 ≤ a ∧ a ≤ 60000 then a else 0 := hm.2.1
  split at h5
  · assumption
  · omega
theorem zero_Same : (Nd.mk 0 ⟨#[]⟩ 0 0 []).Same (.mk 0 ⟨#[]⟩ 0 0 []) = true := by kernel_rfl
set_option maxHeartbeats 1000000 in
theorem pick3_any (c n : Int) (w : World) (hc : okI c) (h0 : 0 < n) (h1 : n ≤ 9223372036854775807) : Calls Tryz.prog 15 #[.int .i64 c, .int .i64 n] w fun e w' => ∃ r : Nat, e = .returned (.int .i64 r) ∧ (r : Int) < n ∧ w' = w := by
  unfold okI at hc
  by_cases hneg : c < 0
  · have HP := Lib.hid (show 0 ≤ (-(c + 1)).tmod n ∧ (-(c + 1)).tmod n < n from ⟨Int.tmod_nonneg n (by omega), Int.tmod_lt_of_pos _ h0⟩)
    go_enter Tryz.func15, Tryz.ntmps15
    go_wp2_with fail
    go_ret
    obtain ⟨h2, h3⟩ := HP.out
    rw [Int.neg_tmod] at h2 h3
    exact ⟨_, congrArg (fun z => Ending.returned (.int .i64 z)) (Int.toNat_of_nonneg h2).symm, by omega, rfl⟩
  · have hc' : 0 ≤ c := by omega
    go_enter Tryz.func15, Tryz.ntmps15
    go_wp2_with fail
    go_ret
    have h2 := Int.emod_nonneg c (show n ≠ 0 by omega)
    have h3 := Int.emod_lt_of_pos c h0
    exact ⟨_, congrArg (fun z => Ending.returned (.int .i64 z)) (Int.toNat_of_nonneg h2).symm, by omega, rfl⟩
end Go.Proofs.YtokhfhibdeneeaaGreatDoor
