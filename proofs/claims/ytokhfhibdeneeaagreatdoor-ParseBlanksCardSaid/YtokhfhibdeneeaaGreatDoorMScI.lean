/- What all tokens of a text are: kinds, lengths; ints are digits of a number that one holds. read: a text by a form. -/
import Derived.BigQuiet
import Derived.Test.YtokhfhibdeneeaaGreatDoorMScanD
import Derived.Test.YtokhfhibdeneeaaGreatDoorQaE
import Derived.Test.YtokhfhibdeneeaaGreatDoorMLiesP
import Derived.Test.YtokhfhibdeneeaaGreatDoorMQaD
import Derived.Test.YtokhfhibdeneeaaGreatDoorMLook
import Derived.Test.YtokhfhibdeneeaaGreatDoorMNd
namespace Go.Proofs.YtokhfhibdeneeaaGreatDoor

theorem runN_all {b : Bool} : ∀ (s : List UInt8), ∀ c ∈ s.take (runN b s), runP b c.toNat = true
  | [], c, h => by simp at h
  | d :: r, c, h => by
    rw [runN] at h
    split at h
    · rename_i hd
      rw [List.take_succ_cons] at h
      rcases List.mem_cons.1 h with rfl | h
      · exact hd
      · exact runN_all r c h
    · simp at h
theorem fold_acc : ∀ (l : List UInt8) (n : Nat), l.foldl (fun n c => 10 * n + (c.toNat - 48)) n = n * 10 ^ l.length + l.foldl (fun n c => 10 * n + (c.toNat - 48)) 0
  | [], n => by simp
  | c :: r, n => by
    simp only [List.foldl_cons, List.length_cons]
    rw [fold_acc r (10 * n + (c.toNat - 48)), fold_acc r (10 * 0 + (c.toNat - 48))]
    rw [Nat.pow_succ, Nat.add_mul]
    have : 10 * n * 10 ^ r.length = n * (10 ^ r.length * 10) := by rw [Nat.mul_comm 10 n, Nat.mul_assoc, Nat.mul_comm 10]
    rw [this, Nat.mul_zero, Nat.zero_add]
    omega
def digL (l : List UInt8) : Prop := ∀ c ∈ l, 48 ≤ c.toNat ∧ c.toNat ≤ 57
theorem fold_lt : ∀ (l : List UInt8), digL l → l.foldl (fun n c => 10 * n + (c.toNat - 48)) 0 < 10 ^ l.length
  | [], _ => by simp
  | c :: r, h => by
    have h1 := h c (List.mem_cons_self ..)
    have h2 := fold_lt r fun d hd => h d (List.mem_cons_of_mem _ hd)
    simp only [List.foldl_cons, List.length_cons]
    rw [fold_acc, Nat.pow_succ]
    have h3 : (10 * 0 + (c.toNat - 48)) * 10 ^ r.length ≤ 9 * 10 ^ r.length := Nat.mul_le_mul_right _ (by omega)
    omega
theorem fold_less : ∀ (a b : List UInt8), a.length = b.length → digL a → digL b → Op.bytesLess a b = true → a.foldl (fun n c => 10 * n + (c.toNat - 48)) 0 ≤ b.foldl (fun n c => 10 * n + (c.toNat - 48)) 0
  | [], [], _, _, _, _ => Nat.le_refl _
  | [], _ :: _, h, _, _, _ => by simp at h
  | _ :: _, [], h, _, _, _ => by simp at h
  | c :: r, d :: q, hl, ha, hb, h => by
    have hl' : r.length = q.length := by simpa using hl
    have h1 := ha c (List.mem_cons_self ..)
    have h2 := hb d (List.mem_cons_self ..)
    have ha' : digL r := fun x hx => ha x (List.mem_cons_of_mem _ hx)
    have hb' : digL q := fun x hx => hb x (List.mem_cons_of_mem _ hx)
    simp only [List.foldl_cons]
    rw [fold_acc r, fold_acc q, hl']
    have h3 := fold_lt r ha'
    rw [hl'] at h3
    rw [Op.bytesLess] at h
    simp only [Bool.or_eq_true, decide_eq_true_eq, Bool.and_eq_true, beq_iff_eq] at h
    rcases h with h | ⟨rfl, h⟩
    · have h4 : c.toNat < d.toNat := UInt8.lt_iff_toNat_lt.1 h
      have h5 : (10 * 0 + (c.toNat - 48) + 1) * 10 ^ q.length ≤ (10 * 0 + (d.toNat - 48)) * 10 ^ q.length := Nat.mul_le_mul_right _ (by omega)
      rw [Nat.add_mul] at h5
      omega
    · have := fold_less r q hl' ha' hb' h
      omega
theorem dec_fit {l : List UInt8} (hd : digL l) (ho : overB l = false) : decN l ≤ 9223372036854775807 := by
  unfold decN
  have h1 := fold_lt l hd
  rcases over_no ho with h | ⟨h, hb⟩ | rfl
  · have : 10 ^ l.length ≤ 10 ^ 18 := Nat.pow_le_pow_right (by decide) (by omega)
    omega
  · have := fold_less l topL (by rw [h]; rfl) hd (by unfold digL topL; decide) hb
    have e : topL.foldl (fun n c => 10 * n + (c.toNat - 48)) 0 = 9223372036854775807 := by decide
    omega
  · decide

/-- What a token of a text of so many bytes is. -/
structure TokOk (n : Nat) (t : Tok) : Prop where
  lo : 1 ≤ t.kind
  hi : t.kind ≤ 7
  len : t.text.length ≤ n
  dig : t.kind = 4 → t.text ≠ [] ∧ digL t.text ∧ decN t.text ≤ 9223372036854775807
theorem TokOk.up {n m : Nat} {t : Tok} (h : TokOk n t) (hn : n ≤ m) : TokOk m t := ⟨h.lo, h.hi, Nat.le_trans h.len hn, h.dig⟩
theorem TokOk.of {n : Nat} {t : Tok} {k : Int} (h : t.kind = k) (h1 : 1 ≤ k) (h2 : k ≤ 7) (h4 : k ≠ 4) (hl : t.text.length ≤ n) : TokOk n t := ⟨by omega, by omega, hl, fun e => absurd (h.symm.trans e) h4⟩
theorem signR_kind {p : Nat} {s : List UInt8} : ∀ {zs : List (List UInt8)} {t : Tok × Nat}, signR p s zs = .ok t → t.1.kind = 7
  | [], _, h => by cases h
  | z :: zs, _, h => by
    rw [signR] at h
    split at h
    · obtain rfl := Rd.ok.inj h; rfl
    · exact signR_kind h
theorem oneR_ok {p : Nat} {s : List UInt8} {t : Tok × Nat} (h : oneR p s = .ok t) : TokOk s.length t.1 := by
  have hl := (oneR_next h).2.2
  cases s with
  | nil => cases h
  | cons c r =>
    rw [oneR] at h
    split at h
    · obtain rfl := Rd.ok.inj h; exact .of (k := 1) rfl (by decide) (by decide) (by decide) hl
    split at h
    · cases hq : litR p r (p + 1) [] with
      | bad e b => rw [hq] at h; cases h
      | ok z => rw [hq] at h; obtain rfl := Rd.ok.inj h; exact .of (k := 6) rfl (by decide) (by decide) (by decide) hl
    split at h
    · rename_i hd
      split at h
      · cases h
      · rename_i hb
        obtain rfl := Rd.ok.inj h
        by_cases hf : floatB (restL (c :: r)) = true
        · exact .of (k := 5) (by show numKind _ = _; unfold numKind; rw [if_pos hf]) (by decide) (by decide) (by decide) hl
        · have hk : numKind (c :: r) = 4 := by unfold numKind; rw [if_neg hf]
          have hn : numN (c :: r) = runN false (c :: r) := by unfold numN; rw [if_neg hf]; omega
          refine ⟨by show 1 ≤ numKind _; rw [hk]; decide, by show numKind _ ≤ 7; rw [hk]; decide, hl, fun _ => ?_⟩
          show (c :: r).take (numN (c :: r)) ≠ [] ∧ digL ((c :: r).take (numN (c :: r))) ∧ decN ((c :: r).take (numN (c :: r))) ≤ _
          rw [hn]
          have hdg : digL ((c :: r).take (runN false (c :: r))) := fun x hx => by
            have := runN_all _ x hx
            simp [runP, digitB] at this
            omega
          refine ⟨?_, hdg, dec_fit hdg ?_⟩
          · rw [runN_go (by simpa [runP] using hd), List.take_succ_cons]
            simp
          · have hf' : floatB (restL (c :: r)) = false := by simpa using hf
            have hb' : numBad (c :: r) = false := by simpa using hb
            unfold numBad at hb'
            rw [hf'] at hb'
            simp only [Bool.or_eq_false_iff, Bool.not_false, Bool.true_and] at hb'
            exact hb'.1.1.1
    split at h
    · split at h
      · cases h
      · obtain rfl := Rd.ok.inj h
        split at hl
        · rename_i hw
          exact .of (k := 3) (by show (if _ then _ else _) = _; rw [if_pos hw]) (by decide) (by decide) (by decide) hl
        · rename_i hw
          exact .of (k := 2) (by show (if _ then _ else _) = _; rw [if_neg hw]) (by decide) (by decide) (by decide) hl
    exact .of (signR_kind h) (by decide) (by decide) (by decide) hl
theorem endAdd_ok {n p : Nat} {ts : List Tok} (h : ∀ t ∈ ts, TokOk n t) : ∀ t ∈ endAdd p ts, TokOk n t := fun t ht => by
  unfold endAdd at ht
  split at ht
  · rcases List.mem_append.1 ht with h' | h'
    · exact h t h'
    · rw [List.mem_singleton.1 h']; exact .of (k := 1) rfl (by decide) (by decide) (by decide) (Nat.zero_le _)
  · exact h t ht
theorem scan_ok {N : Nat} : ∀ (n : Nat) (s : List UInt8) (p : Nat) (ts l : List Tok), s.length = n → n ≤ N → (∀ t ∈ ts, TokOk N t) → scanR p s ts = .ok l → ∀ t ∈ l, TokOk N t := by
  intro n
  induction n using Nat.strongRecOn with
  | ind n ih =>
    intro s p ts l hn hN hts h
    cases s with
    | nil =>
      rw [scanR_nil] at h
      obtain rfl := Rd.ok.inj h
      exact endAdd_ok hts
    | cons c r =>
      simp only [List.length_cons] at hn
      rw [scanR_cons] at h
      split at h
      · exact ih r.length (by omega) r _ _ _ rfl (by omega) (endAdd_ok hts) h
      split at h
      · exact ih r.length (by omega) r _ _ _ rfl (by omega) hts h
      split at h
      · split at h
        · exact ih _ (by rw [List.length_drop]; omega) _ _ _ _ rfl (by rw [List.length_drop]; omega) hts h
        · exact ih 0 (by omega) _ _ _ _ rfl (by omega) hts h
      · split at h
        · cases h
        · rename_i x hx
          have h1 := oneR_ok hx
          have h2 := oneR_next hx
          simp only [List.length_cons] at h2
          refine ih _ (by rw [List.length_drop]; omega) _ _ _ _ rfl (by rw [List.length_drop]; omega) (fun t ht => ?_) h
          rcases List.mem_append.1 ht with h' | h'
          · exact hts t h'
          · rw [List.mem_singleton.1 h']; exact h1.up (by simp only [List.length_cons]; omega)
theorem rise_len : ∀ (l : List Tok) (p N : Nat), l.Pairwise (fun a b => a.at_ < b.at_) → (∀ t ∈ l, p ≤ t.at_ ∧ t.at_ ≤ N) → l.length ≤ N + 1 - p
  | [], _, _, _, _ => Nat.zero_le _
  | t :: l, p, N, hp, hb => by
    have h1 := hb t (List.mem_cons_self ..)
    have h2 := rise_len l (t.at_ + 1) N (List.pairwise_cons.1 hp).2 fun x hx => ⟨(List.pairwise_cons.1 hp).1 x hx, (hb x (List.mem_cons_of_mem _ hx)).2⟩
    simp only [List.length_cons]
    omega
/-- All tokens of a text. -/
theorem scanT_ok {l : List UInt8} {ts : List Tok} (h : scanT l = .ok ts) : l.length ≤ 60000 ∧ ts.length ≤ l.length + 1 ∧ (∀ t ∈ ts, TokOk l.length t ∧ t.at_ ≤ l.length) ∧ ts.Pairwise (fun a b => a.at_ < b.at_) := by
  unfold scanT at h
  split at h
  · cases h
  · rename_i hl
    obtain ⟨m, hm0, h1, h2⟩ := scan_more _ l 0 [] ts rfl h
    obtain rfl : ts = m := hm0
    have h3 := scan_ok l.length l 0 [] _ rfl (Nat.le_refl _) (fun t ht => by cases ht) h
    refine ⟨by omega, ?_, fun t ht => ⟨h3 t ht, by have := h1 t ht; omega⟩, h2⟩
    have := rise_len ts 0 l.length h2 fun t ht => by have := h1 t ht; omega
    omega
end Go.Proofs.YtokhfhibdeneeaaGreatDoor

namespace Go.Proofs.YtokhfhibdeneeaaGreatDoor
open Go.RowKit

def tkOf (t : Tok) : Tk := ⟨t.kind, t.text, t.at_⟩
/-- The tokens of a text. -/
def envOf (l : List UInt8) (ts : List Tok) : Env := ⟨fun j => match ts[j]? with | some t => tkOf t | none => ⟨0, [], l.length⟩, ts.length⟩
theorem envOf_at {l : List UInt8} {ts : List Tok} {j : Nat} {t : Tok} (h : ts[j]? = some t) : (envOf l ts).tok j = tkOf t := by simp [envOf, h]
theorem envOf_past {l : List UInt8} {ts : List Tok} {j : Nat} (h : ts.length ≤ j) : (envOf l ts).tok j = ⟨0, [], l.length⟩ := by simp [envOf, List.getElem?_eq_none h]
theorem envOf_cases (l : List UInt8) (ts : List Tok) (j : Nat) : (∃ t, ts[j]? = some t ∧ t ∈ ts ∧ (envOf l ts).tok j = tkOf t) ∨ (ts.length ≤ j ∧ (envOf l ts).tok j = ⟨0, [], l.length⟩) := by
  rcases Nat.lt_or_ge j ts.length with h | h
  · exact .inl ⟨ts[j], List.getElem?_eq_getElem h, List.getElem_mem h, envOf_at (List.getElem?_eq_getElem h)⟩
  · exact .inr ⟨h, envOf_past h⟩
theorem envOf_ok {l : List UInt8} {ts : List Tok} (h : scanT l = .ok ts) {M : Rm} (hl : M.long = l.length) (hA : ts.length = 0 ∨ M.A = some ⟨M.tb, 0, none⟩) (hne : M.tb ≠ M.bp) (hc : ts.length ≤ M.cap ∧ M.cap ≤ 9223372036854775807) : EnvOk (envOf l ts) M := by
  obtain ⟨h1, h2, h3, h4⟩ := scanT_ok h
  refine ⟨fun i hi => ?_, ?_, fun j hj => ?_, hA, hne, hc, fun j => ?_, fun j => ?_, fun j => ?_⟩
  · rw [envOf_past hi]
  · show ts.length ≤ 100000; omega
  · rw [envOf_past hj, hl]
  · rcases envOf_cases l ts j with ⟨t, _, ht, e⟩ | ⟨_, e⟩
    · rw [e]; have := (h3 t ht).1; exact ⟨by show -9223372036854775808 ≤ t.kind; have := this.lo; omega, by show t.kind ≤ 9223372036854775807; have := this.hi; omega⟩
    · rw [e]; exact ok_lit (n := 0)
  · rcases envOf_cases l ts j with ⟨t, _, ht, e⟩ | ⟨_, e⟩
    · rw [e]; have := (h3 t ht).2; exact ⟨by show -9223372036854775808 ≤ (t.at_ : Int); omega, by show (t.at_ : Int) ≤ 9223372036854775807; omega⟩
    · rw [e]; exact ⟨by show -9223372036854775808 ≤ (l.length : Int); omega, by show (l.length : Int) ≤ 9223372036854775807; omega⟩
  · rcases envOf_cases l ts j with ⟨t, _, ht, e⟩ | ⟨_, e⟩
    · rw [e]; have := (h3 t ht).1.len; show t.text.length ≤ 1000000; omega
    · rw [e]; exact Nat.zero_le _
theorem envOf_dig {l : List UInt8} {ts : List Tok} (h : scanT l = .ok ts) : DigOk (envOf l ts) := fun j hj => by
  obtain ⟨h1, h2, h3, h4⟩ := scanT_ok h
  rcases envOf_cases l ts j with ⟨t, _, ht, e⟩ | ⟨_, e⟩
  · rw [e] at hj ⊢
    exact (h3 t ht).1.dig (by simpa [tkOf] using hj)
  · rw [e] at hj
    cases hj

/-- What comes of reading a text. -/
inductive Out where
  | tree (t : Nd)
  | wrong (code at_ : Int) (name : ByteArray)
def rightW (t : Nd) : Option Wr := (t.look intB floatsB 1 0 0).2
def outOf (E : Env) : Rr Nd → Out
  | .ok t _ => match rightW t with
    | none => .tree t
    | some x => .wrong x.code x.at_ x.name
  | .bad i => .wrong 30 (E.tok i).at_ (E.tok i).str
  | .out => .wrong 0 0 ⟨#[]⟩
/-- Reading a text: as a program (0), an expression (1), statements (others). -/
def parseT (k : Nat) (l : List UInt8) : Out :=
  match scanT l with
  | .bad c a => .wrong c a ⟨#[]⟩
  | .ok ts => outOf (envOf l ts) (readR (envOf l ts) (formR (envOf l ts) k))
def zeroNdV : Value := .agg #[.int .i64 0, .string ⟨#[]⟩, .int .i64 0, .int .i64 0, .slice none 0 0]
def OutPost (w : World) (o : Out) (e : Ending) (w' : World) : Prop := Below w.heap.size w w' ∧
  match o with
  | .tree t => ∃ v, e = .returned (.tuple #[v, .nilIface]) ∧ LiesA w' w.heap.size w'.heap.size t v
  | .wrong c a nm => ∃ b, e = .returned (.tuple #[zeroNdV, .iface 43 (.pointer (some ⟨b, 0, none⟩))]) ∧ w.heap.size ≤ b ∧ WrongAt w' b c a nm

/-- A function value that reads a form. -/
structure FormOk (k : Nat) (f : FuncId) : Prop where
  ent : ∀ (v : Value) W, Sem.run Tryz.prog (callFunc f #[v]) W = .ok (.enter f #[v]) W
  run : ∀ E M W, EnvOk E M → DigOk E → RdAt E M ⟨0, false, false, false⟩ W → Calls Tryz.prog f #[.pointer (some ⟨M.bp, 0, none⟩)] W (Post E M VNd W (formR E k ⟨0, false, false, false⟩))

/-- The result's and the error's variable. -/
structure Rd2 (w : World) (v0 v1 v2 v3 v4 x : Value) (W : World) : Prop where
  res : W.heap[w.heap.size]? = some (.cells #[v0, v1, v2, v3, v4] 25 (0, 0))
  err : W.heap[w.heap.size + 1]? = some (.cells #[x] 27 (0, 0))
  below : Below w.heap.size w W
section
variable {w W W' : World} {v0 v1 v2 v3 v4 x : Value}
theorem Rd2.init (w : World) : Rd2 w (.int .i64 0) (.string ⟨#[]⟩) (.int .i64 0) (.int .i64 0) (.slice none 0 0) .nilIface ((w.alloc (.cells #[.int .i64 0, .string ⟨#[]⟩, .int .i64 0, .int .i64 0, .slice none 0 0] 25)).alloc (.cells #[.nilIface] 27)) := by
  refine ⟨?_, ?_, ((Below.refl _ _).alloc (Nat.le_refl _) _).alloc (by simp) _⟩
  · exact (Below.refl _ _ |>.alloc (Nat.le_refl _) _).block w.heap.size (by simp) |>.trans (heap_alloc_new _ _)
  · have := heap_alloc_new (w.alloc (.cells #[.int .i64 0, .string ⟨#[]⟩, .int .i64 0, .int .i64 0, .slice none 0 0] 25)) (.cells #[.nilIface] 27)
    rwa [World.size_alloc] at this
theorem Rd2.lt (h : Rd2 w v0 v1 v2 v3 v4 x W) : w.heap.size + 1 < W.heap.size := (Array.getElem?_eq_some_iff.1 h.err).1
theorem Rd2.keep (h : Rd2 w v0 v1 v2 v3 v4 x W) (hb : Below W.heap.size W W') : Rd2 w v0 v1 v2 v3 v4 x W' :=
  ⟨(hb.block _ (by have := h.lt; omega)).trans h.res, (hb.block _ h.lt).trans h.err, h.below.trans (hb.mono (by have := h.lt; omega))⟩
theorem Rd2.fp (h : Rd2 w v0 v1 v2 v3 v4 x W) {bp : Nat} (hf : Fp bp W W') (hbp : w.heap.size + 2 ≤ bp) : Rd2 w v0 v1 v2 v3 v4 x W' :=
  ⟨(hf.block (by have := h.lt; omega) (by omega)).trans h.res, (hf.block h.lt (by omega)).trans h.err, h.below.trans (Foot.to (Foot.mono hf (Nat.le_refl _) fun _ _ h => h) (by have := h.lt; omega) fun k hk => by have : k = bp := hk; omega)⟩
theorem Rd2.alloc (h : Rd2 w v0 v1 v2 v3 v4 x W) (o : Obj) : Rd2 w v0 v1 v2 v3 v4 x (W.alloc o) := h.keep ((Below.refl _ _).alloc (Nat.le_refl _) o)
theorem Rd2.drew (h : Rd2 w v0 v1 v2 v3 v4 x W) : Rd2 w v0 v1 v2 v3 v4 x W.drew := h.keep ((Below.refl _ _).drew)
theorem Rd2.setE (h : Rd2 w v0 v1 v2 v3 v4 x W) (y : Value) : Rd2 w v0 v1 v2 v3 v4 y (W.setCell ⟨w.heap.size + 1, 0, none⟩ y) :=
  ⟨(Below.heap_setCell _ _ _ _ (by show w.heap.size ≠ w.heap.size + 1; omega)).trans h.res, heap_setCell_same W _ 0 _ _ y h.err, h.below.setCell (p := ⟨w.heap.size + 1, 0, none⟩) (Nat.le_succ _) y⟩
theorem Rd2.setR (h : Rd2 w v0 v1 v2 v3 v4 x W) (y0 y1 y2 y3 y4 : Value) : Rd2 w y0 y1 y2 y3 y4 x (((((W.setCell ⟨w.heap.size, 0, none⟩ y0).setCell ⟨w.heap.size, 1, none⟩ y1).setCell ⟨w.heap.size, 2, none⟩ y2).setCell ⟨w.heap.size, 3, none⟩ y3).setCell ⟨w.heap.size, 4, none⟩ y4) := by
  refine ⟨?_, ?_, ((((h.below.setCell (p := ⟨w.heap.size, 0, none⟩) (Nat.le_refl _) y0).setCell (p := ⟨w.heap.size, 1, none⟩) (Nat.le_refl _) y1).setCell (p := ⟨w.heap.size, 2, none⟩) (Nat.le_refl _) y2).setCell (p := ⟨w.heap.size, 3, none⟩) (Nat.le_refl _) y3).setCell (p := ⟨w.heap.size, 4, none⟩) (Nat.le_refl _) y4⟩
  · exact heap_setCell_same _ _ 4 _ _ y4 (heap_setCell_same _ _ 3 _ _ y3 (heap_setCell_same _ _ 2 _ _ y2 (heap_setCell_same _ _ 1 _ _ y1 (heap_setCell_same W _ 0 _ _ y0 h.res))))
  · have hne : w.heap.size + 1 ≠ w.heap.size := by omega
    rw [Below.heap_setCell _ _ _ _ hne, Below.heap_setCell _ _ _ _ hne, Below.heap_setCell _ _ _ _ hne, Below.heap_setCell _ _ _ _ hne, Below.heap_setCell _ _ _ _ hne]
    exact h.err
theorem Rd2.c0 (h : Rd2 w v0 v1 v2 v3 v4 x W) : W.cell? ⟨w.heap.size, 0, none⟩ = some v0 := cell_of_row W _ 0 _ _ _ h.res
theorem Rd2.c1 (h : Rd2 w v0 v1 v2 v3 v4 x W) : W.cell? ⟨w.heap.size, 1, none⟩ = some v1 := cell_of_row W _ 1 _ _ _ h.res
theorem Rd2.c2 (h : Rd2 w v0 v1 v2 v3 v4 x W) : W.cell? ⟨w.heap.size, 2, none⟩ = some v2 := cell_of_row W _ 2 _ _ _ h.res
theorem Rd2.c3 (h : Rd2 w v0 v1 v2 v3 v4 x W) : W.cell? ⟨w.heap.size, 3, none⟩ = some v3 := cell_of_row W _ 3 _ _ _ h.res
theorem Rd2.c4 (h : Rd2 w v0 v1 v2 v3 v4 x W) : W.cell? ⟨w.heap.size, 4, none⟩ = some v4 := cell_of_row W _ 4 _ _ _ h.res
theorem Rd2.ce (h : Rd2 w v0 v1 v2 v3 v4 x W) : W.cell? ⟨w.heap.size + 1, 0, none⟩ = some x := cell_of_row W _ 0 _ _ _ h.err
theorem Rd2.fr (h : Rd2 w v0 v1 v2 v3 v4 x W) (i : Nat) : W.frozen? ⟨w.heap.size, i, none⟩ = false := frozen_of_row W _ i _ _ h.res
theorem Rd2.fe (h : Rd2 w v0 v1 v2 v3 v4 x W) (i : Nat) : W.frozen? ⟨w.heap.size + 1, i, none⟩ = false := frozen_of_row W _ i _ _ h.err
theorem Rd2.fin (h : Rd2 w v0 v1 v2 v3 v4 x W) {tmps : Array Value} {R : Ending → World → Prop} (h4 : tmps.getD 4 undef = .pointer (some ⟨w.heap.size, 0, none⟩)) (h5 : tmps.getD 5 undef = .pointer (some ⟨w.heap.size + 1, 0, none⟩)) (hR : R (.returned (.tuple #[.agg #[v0, v1, v2, v3, v4], x])) W) :
    Leaves Tryz.prog Tryz.f35 tmps R [] .returning W := by
  have h4' : tmps[4]?.getD undef = .pointer (some ⟨w.heap.size, 0, none⟩) := by simpa using h4
  have h5' : tmps[5]?.getD undef = .pointer (some ⟨w.heap.size + 1, 0, none⟩) := by simpa using h5
  have e0 := h.c0
  have e1 := h.c1
  have e2 := h.c2
  have e3 := h.c3
  have e4 := h.c4
  have e5 := h.ce
  exact ⟨_, by simp [results, Tryz.f35, go_sem, h4', h5', e0, e1, e2, e3, e4, e5], hR⟩
theorem heap_setE {b g : Nat} {y : Value} (hb : b ≠ g) : (W.setCell ⟨g, 0, none⟩ y).heap[b]? = W.heap[b]? := Below.heap_setCell _ _ _ _ hb
theorem heap_setR {b g : Nat} {y0 y1 y2 y3 y4 : Value} (hb : b ≠ g) : (((((W.setCell ⟨g, 0, none⟩ y0).setCell ⟨g, 1, none⟩ y1).setCell ⟨g, 2, none⟩ y2).setCell ⟨g, 3, none⟩ y3).setCell ⟨g, 4, none⟩ y4).heap[b]? = W.heap[b]? := by
  rw [Below.heap_setCell _ _ _ _ hb, Below.heap_setCell _ _ _ _ hb, Below.heap_setCell _ _ _ _ hb, Below.heap_setCell _ _ _ _ hb, Below.heap_setCell _ _ _ _ hb]
theorem row_wrong {b : Nat} {c a : Int} {nm : ByteArray} (h : W.heap[b]? = some (.cells #[.int .i64 c, .int .i64 a, .string nm] 32 (0, 0))) : WrongAt W b c a nm :=
  ⟨cell_of_row W _ 0 _ _ _ h, cell_of_row W _ 1 _ _ _ h, cell_of_row W _ 2 _ _ _ h, frozen_of_row W _ 0 _ _ h, frozen_of_row W _ 1 _ _ h, frozen_of_row W _ 2 _ _ h⟩
theorem errAt_wrong {b : Nat} {c a : Int} (h : ErrAt W b c a) : WrongAt W b c a ⟨#[]⟩ := row_wrong h
/-- What gave up is caught. -/
theorem Rd2.caught (h : Rd2 w v0 v1 v2 v3 v4 x W) {tmps : Array Value} (h4 : tmps.getD 4 undef = .pointer (some ⟨w.heap.size, 0, none⟩)) (h5 : tmps.getD 5 undef = .pointer (some ⟨w.heap.size + 1, 0, none⟩)) {t : Tk} {R : Out} (hR : R = .wrong 30 t.at_ t.str) :
    Leaves Tryz.prog Tryz.f35 tmps (OutPost w R) [{ target := .fn (.func 81) #[.pointer (some ⟨w.heap.size, 0, none⟩), .pointer (some ⟨w.heap.size + 1, 0, none⟩)], args := #[] }] (.panicking (stuckP t)) W := by
  refine leaves_cons (f := 81) (args := #[.pointer (some ⟨w.heap.size, 0, none⟩), .pointer (some ⟨w.heap.size + 1, 0, none⟩)]) (by simp) (by simp [go_sem]) ?_
  refine (catch_stuck w.heap.size (w.heap.size + 1) t W (by omega) h.res h.err).mono ?_
  rintro e u' w'' ⟨rfl, rfl, rfl⟩
  have h2 := ((((h.setR (.int .i64 0) (.string ⟨#[]⟩) (.int .i64 0) (.int .i64 0) (.slice none 0 0)).setE (.iface 43 (.pointer (some ⟨W.heap.size + 1, 0, none⟩)))).alloc (.cells #[.int .i64 t.kind, .string t.str, .int .i64 t.at_] 111 (0, 0))).alloc (.cells #[.int .i64 30, .int .i64 t.at_, .string t.str] 32 (0, 0))).drew
  refine Rd2.fin (W := caughtW w.heap.size (w.heap.size + 1) t W) h2 h4 h5 ⟨h2.below, ?_⟩
  rw [hR]
  refine ⟨W.heap.size + 1, rfl, by have := h.lt; omega, row_wrong ?_⟩
  unfold caughtW
  have hd : ∀ X : World, X.drew.heap = X.heap := fun _ => rfl
  rw [hd]
  have := heap_alloc_new ((((((((W.setCell ⟨w.heap.size, 0, none⟩ (.int .i64 0)).setCell ⟨w.heap.size, 1, none⟩ (.string ⟨#[]⟩)).setCell ⟨w.heap.size, 2, none⟩ (.int .i64 0)).setCell ⟨w.heap.size, 3, none⟩ (.int .i64 0)).setCell ⟨w.heap.size, 4, none⟩ (.slice none 0 0)).setCell ⟨w.heap.size + 1, 0, none⟩ (.iface 43 (.pointer (some ⟨W.heap.size + 1, 0, none⟩)))).alloc
    (.cells #[.int .i64 t.kind, .string t.str, .int .i64 t.at_] 111 (0, 0)))) (.cells #[.int .i64 30, .int .i64 t.at_, .string t.str] 32 (0, 0))
  simpa only [World.size_alloc, World.size_setCell] using this
/-- A return: nothing is caught. -/
theorem Rd2.idle (h : Rd2 w v0 v1 v2 v3 v4 x W) {tmps : Array Value} {R : Ending → World → Prop} (h4 : tmps.getD 4 undef = .pointer (some ⟨w.heap.size, 0, none⟩)) (h5 : tmps.getD 5 undef = .pointer (some ⟨w.heap.size + 1, 0, none⟩)) (hR : R (.returned (.tuple #[.agg #[v0, v1, v2, v3, v4], x])) W) :
    Leaves Tryz.prog Tryz.f35 tmps R [{ target := .fn (.func 81) #[.pointer (some ⟨w.heap.size, 0, none⟩), .pointer (some ⟨w.heap.size + 1, 0, none⟩)], args := #[] }] .returning W := by
  refine leaves_cons (f := 81) (args := #[.pointer (some ⟨w.heap.size, 0, none⟩), .pointer (some ⟨w.heap.size + 1, 0, none⟩)]) (by simp) (by simp [go_sem]) ?_
  refine (catch_idle w.heap.size (w.heap.size + 1) W).mono ?_
  rintro e u' w'' ⟨rfl, rfl, rfl⟩
  exact h.fin h4 h5 hR
theorem RdAt.setOther {E : Env} {M : Rm} {s : Rs} (h : RdAt E M s W) {g : Nat} (h1 : M.bp ≠ g) (h2 : E.n = 0 ∨ M.tb ≠ g) {y0 y1 y2 y3 y4 : Value} : RdAt E M s (((((W.setCell ⟨g, 0, none⟩ y0).setCell ⟨g, 1, none⟩ y1).setCell ⟨g, 2, none⟩ y2).setCell ⟨g, 3, none⟩ y3).setCell ⟨g, 4, none⟩ y4) :=
  ⟨(heap_setR h1).trans h.blk, fun j hj => by
    have hb : M.tb ≠ g := h2.resolve_left (by omega)
    have e : ∀ o, (((((W.setCell ⟨g, 0, none⟩ y0).setCell ⟨g, 1, none⟩ y1).setCell ⟨g, 2, none⟩ y2).setCell ⟨g, 3, none⟩ y3).setCell ⟨g, 4, none⟩ y4).cell? ⟨M.tb, o, none⟩ = W.cell? ⟨M.tb, o, none⟩ := fun o => World.cell?_of_block (w := W) (heap_setR hb)
    rw [e, e, e]
    exact h.toks j hj, h.le⟩
end
mutual
theorem each_numsQ {w : World} {B : Nat} : ∀ {t : Nd} {v : Value}, Lies w B t v → t.Each (NumsAt intB floatsB)
  | .mk k s n a ks, v, h => by
    unfold Lies at h
    unfold Nd.Each
    obtain ⟨A, cap, _, _, _, _, hs, _, _, hk⟩ := h
    refine ⟨⟨fun _ => IntsAt_any s hs, fun _ => FloatsAt_any s hs⟩, ?_⟩
    rcases hk with rfl | ⟨b, o, _, _, hl⟩
    · exact trivial
    · exact eachL_numsQ hl
theorem eachL_numsQ {w : World} {B : Nat} : ∀ {ts : List Nd} {b o : Nat}, LiesL w B ts b o → EachL (NumsAt intB floatsB) ts
  | [], _, _, _ => trivial
  | t :: ts, b, o, h => by
    unfold LiesL at h
    unfold EachL
    obtain ⟨⟨c0, c1, c2, c3, c4, _, _, _, _, _, ht⟩, hl⟩ := h
    exact ⟨each_numsQ ht, eachL_numsQ hl⟩
end
theorem wrongAt_block {W W' : World} {b : Nat} {c a : Int} {nm : ByteArray} (h : WrongAt W b c a nm) (he : W'.heap[b]? = W.heap[b]?) : WrongAt W' b c a nm := by
  have e1 : ∀ o, W'.cell? ⟨b, o, none⟩ = W.cell? ⟨b, o, none⟩ := fun o => World.cell?_of_block (w := W) he
  have e2 : ∀ o, W'.frozen? ⟨b, o, none⟩ = W.frozen? ⟨b, o, none⟩ := fun o => World.frozen?_of_block he
  unfold WrongAt
  rw [e1, e1, e1, e2, e2, e2]
  exact h
theorem sizeN (W : World) (n : Nat) : (W.drewN n).heap.size = W.heap.size := rfl
theorem belowN (W : World) (n : Nat) : Below W.heap.size W (W.drewN n) := ⟨rfl, rfl, rfl, Nat.le_refl _, fun _ _ => rfl⟩
theorem tokCells_at : ∀ {ts : List Tok} {j : Nat} {t : Tok}, ts[j]? = some t → ∀ o, o < 3 → (tokCells ts)[j * 3 + o]? = (Tok.cells t)[o]?
  | [], j, _, h, _, _ => by simp at h
  | x :: ts, 0, t, h, o, ho => by
    obtain rfl : x = t := by simpa using h
    have e : tokCells (x :: ts) = Tok.cells x ++ tokCells ts := rfl
    rw [e, Nat.zero_mul, Nat.zero_add, List.getElem?_append_left (by simpa [Tok.cells] using ho)]
  | x :: ts, j + 1, t, h, o, ho => by
    have h' : ts[j]? = some t := by simpa using h
    have e : tokCells (x :: ts) = Tok.cells x ++ tokCells ts := rfl
    have e2 : (j + 1) * 3 + o = (Tok.cells x).length + (j * 3 + o) := by simp [Tok.cells]; omega
    rw [e, e2, List.getElem?_append_right (by omega), Nat.add_sub_cancel_left]
    exact tokCells_at h' o ho

set_option maxRecDepth 100000 in
set_option maxHeartbeats 2000000 in
theorem read_any (k : Nat) (f : FuncId) (hF : FormOk k f) (l : List UInt8) (w : World) (hgl : Gl w) (hbig : l.length ≤ 140737488351232) :
    Calls Tryz.prog 35 #[.string ⟨⟨l⟩⟩, .func (.func f) #[] #[]] w (OutPost w (parseT k l)) := by
  have hmf : ∀ (fn : Fn) (first cap : Array Value) (w : World), (Instr.makeFunc fn first cap).run Tryz.prog w = .ok (.func fn first cap) w := fun _ _ _ _ => rfl
  have hent := hF.ent
  have HFR := Lib.hid hF.run
  obtain ⟨R, HR⟩ : ∃ R, Hid (parseT k l = R) := ⟨_, rfl⟩
  rw [HR.out]
  clear hF
  go_enter_defers Tryz.func35, Tryz.ntmps35
  have HS0 := Lib.hid (Rd2.init w)
  have hg0 := hgl.below hgl.2.2 HS0.out.below
  have hsc := Scan_any l _ hg0 hbig
  cases hs : scanT l with
  | bad c a =>
    rw [hs] at hsc
    have hfin : R = .wrong c a ⟨#[]⟩ := by rw [← HR.out, parseT, hs]
    have HFI := Lib.hid hfin
    have HSC := Lib.hid hsc
    clear hsc hfin hg0 hgl HFR HR
    go_wp2_with (go_at_call 14; refine HSC.out.mono ?_; rintro e w2 ⟨hb2, h⟩; obtain ⟨c', a', eb, hq, rfl, heb, hea⟩ := h.resolve_left (by rintro ⟨_, _, h, _⟩; cases h); have hs2 := HS0.out.keep hb2; have q0 := hs2.c0; have q1 := hs2.c1; have q2 := hs2.c2; have q3 := hs2.c3; have q4 := hs2.c4; have q5 := hs2.ce; have f0 := hs2.fr; have f1 := hs2.fe; have HS2 := Lib.hid hs2; have HEA := Lib.hid (And.intro hq (And.intro heb hea)); clear h hs2 hq heb hea)
    go_region
    go_wp2_with fail
    obtain ⟨rfl, rfl⟩ : c = c' ∧ a = a' := by
      have := HEA.out.1
      injection this with h1 h2
      exact ⟨h1, h2⟩
    have heb := HEA.out.2.1
    simp only [World.size_alloc] at heb
    refine (((HS2.out.setE _).setR _ _ _ _ _).setE _).drew.fin rfl rfl ⟨(((HS2.out.setE _).setR _ _ _ _ _).setE _).drew.below, ?_⟩
    rw [HFI.out]
    refine ⟨eb, rfl, by omega, errAt_wrong ?_⟩
    have hd : ∀ X : World, X.drew.heap = X.heap := fun _ => rfl
    unfold ErrAt
    rw [hd, heap_setE (by omega), heap_setR (by omega), heap_setE (by omega)]
    exact HEA.out.2.2
  | ok ts =>
    rw [hs] at hsc
    have hfin : outOf (envOf l ts) (readR (envOf l ts) (formR (envOf l ts) k)) = R := by rw [← HR.out, parseT, hs]
    have HFI := Lib.hid hfin
    have HSC := Lib.hid hsc
    have HSK := Lib.hid hs
    have HG := Lib.hid hgl
    clear hsc hfin hg0 HR hs hgl
    go_wp2_with (go_at_call 14; refine HSC.out.mono ?_; rintro e w2 ⟨hb2, h⟩; obtain ⟨ts', v, hq, rfl, ho⟩ := h.resolve_right (by rintro ⟨_, _, _, h, _⟩; cases h); obtain rfl := Rd.ok.inj hq; obtain ⟨A, cap, rfl, hcl, hcm⟩ := row_form ho; have hs2 := HS0.out.keep hb2; have q5 := hs2.ce; have f1 := hs2.fe; have HS2 := Lib.hid (And.intro hs2 ho); clear h hs2 hq ho)
    have hlt2 := HS2.out.1.lt
    obtain ⟨tb, htb1, htb2⟩ : ∃ tb, tb ≠ w2.heap.size ∧ (ts.length = 0 ∨ (A = some ⟨tb, 0, none⟩ ∧ w.heap.size + 2 ≤ tb ∧ tb < w2.heap.size)) := by
      rcases Nat.eq_zero_or_pos ts.length with h0 | h0
      · exact ⟨w2.heap.size + 1, by omega, .inl h0⟩
      · obtain ⟨b, hA, h1, h2⟩ := row_some HS2.out.2 h0
        simp only [World.size_alloc] at h1
        exact ⟨b, by omega, .inr ⟨hA, by omega, h2⟩⟩
    have hM : EnvOk (envOf l ts) ⟨w2.heap.size, tb, A, cap, l.length⟩ := envOf_ok HSK.out rfl (htb2.imp id (·.1)) htb1 ⟨hcl, hcm⟩
    have hD := envOf_dig HSK.out
    have hrd : RdAt (envOf l ts) ⟨w2.heap.size, tb, A, cap, l.length⟩ ⟨0, false, false, false⟩ ((w2.setCell ⟨w.heap.size + 1, 0, none⟩ .nilIface).alloc (.cells #[.slice A ts.length cap, .int .i64 0, .int .i64 l.length, .bool false, .bool false, .bool false] 81)) := by
      refine ⟨?_, fun j hj => ?_, Nat.zero_le _⟩
      · have := heap_alloc_new (w2.setCell ⟨w.heap.size + 1, 0, none⟩ .nilIface) (.cells #[.slice A ts.length cap, .int .i64 0, .int .i64 l.length, .bool false, .bool false, .bool false] 81)
        rwa [World.size_setCell] at this
      · obtain ⟨h0, h1, h2⟩ : A = some ⟨tb, 0, none⟩ ∧ w.heap.size + 2 ≤ tb ∧ tb < w2.heap.size := htb2.resolve_left (by have : j < ts.length := hj; omega)
        subst h0
        obtain ⟨t, ht⟩ : ∃ t, ts[j]? = some t := ⟨_, List.getElem?_eq_getElem hj⟩
        rw [envOf_at ht]
        have hblk : ∀ o, ((w2.setCell ⟨w.heap.size + 1, 0, none⟩ .nilIface).alloc (.cells #[.slice (some ⟨tb, 0, none⟩) ts.length cap, .int .i64 0, .int .i64 l.length, .bool false, .bool false, .bool false] 81)).cell? ⟨tb, o, none⟩ = w2.cell? ⟨tb, o, none⟩ := fun o => by
          refine World.cell?_of_block (w := w2) (((Below.refl _ _).alloc (Nat.le_refl _) _).block _ (by rw [World.size_setCell]; exact h2) |>.trans ?_)
          exact Below.heap_setCell _ _ _ _ (by show tb ≠ w.heap.size + 1; omega)
        have hc : ∀ o, o < 3 → ∀ u, (Tok.cells t)[o]? = some u → w2.cell? ⟨tb, j * 3 + o, none⟩ = some u := fun o ho u hu => by
          have := HS2.out.2.cells (g := tb) rfl (j * 3 + o) u (by rw [tokCells_at ht o ho]; exact hu)
          rw [show ((⟨tb, 0, none⟩ : Addr).add (j * 3 + o)) = ⟨tb, j * 3 + o, none⟩ by simp [Addr.add]; omega] at this
          exact this
        exact ⟨(hblk _).trans (hc 0 (by decide) _ rfl), (hblk _).trans (hc 1 (by decide) _ rfl), (hblk _).trans (hc 2 (by decide) _ rfl)⟩
    have HME := Lib.hid (And.intro hM (And.intro hD hrd))
    clear hM hD hrd q5 f1
    refine (HFR.out _ _ _ HME.out.1 HME.out.2.1 HME.out.2.2).mono ?_
    intro e w3 hpost
    cases hfr : formR (envOf l ts) k ⟨0, false, false, false⟩ with
    | out => exact absurd hfr (form_ne HME.out.1.ok HME.out.1.n k)
    | bad i =>
      rw [hfr] at hpost
      obtain ⟨rfl, hf3⟩ := hpost
      have hs3 := ((HS2.out.1.setE .nilIface).alloc (.cells #[.slice A ts.length cap, .int .i64 0, .int .i64 l.length, .bool false, .bool false, .bool false] 81)).fp hf3 (by show _ ≤ w2.heap.size; omega)
      refine hs3.caught rfl rfl ?_
      rw [← HFI.out, readR, hfr]
      rfl
    | ok t s1 =>
      obtain ⟨k3, x3, n3, a3, ks3⟩ := t
      rw [hfr] at hpost
      obtain ⟨⟨v3, rfl, hv3⟩, hr3, hf3⟩ := hpost
      obtain ⟨A3, cap3, rfl⟩ := VNd.form hv3
      have hs3 := ((HS2.out.1.setE .nilIface).alloc (.cells #[.slice A ts.length cap, .int .i64 0, .int .i64 l.length, .bool false, .bool false, .bool false] 81)).fp hf3 (by show _ ≤ w2.heap.size; omega)
      have q0 := hs3.c0
      have q1 := hs3.c1
      have q2 := hs3.c2
      have q3 := hs3.c3
      have q4 := hs3.c4
      have q5 := hs3.ce
      have f0 := hs3.fr
      have f1 := hs3.fe
      have r0 := hr3.c0
      have r1 := hr3.c1
      have hnb : (w2.heap.size = w.heap.size) = False := by simp; omega
      have hnb' : (w.heap.size = w2.heap.size) = False := by simp; omega
      have hsz3 := Foot.size hf3
      simp only [World.size_alloc, World.size_setCell] at hsz3
      have HS3 := Lib.hid (And.intro hs3 (And.intro hr3 (And.intro hv3 hf3)))
      clear hs3 hr3 hv3 hf3
      have hfin : outOf (envOf l ts) (if s1.i < (envOf l ts).n then .bad s1.i else .ok (.mk k3 x3 n3 a3 ks3) s1) = R := by rw [← HFI.out, readR, hfr]; rfl
      by_cases hlt : s1.i < (envOf l ts).n
      · have hd : decide ((s1.i : Int) < (((envOf l ts).n : Nat) : Int)) = true := decide_eq_true (by omega)
        rw [if_pos hlt] at hfin
        have HFN := Lib.hid hfin
        clear hfin
        go_wp2_with fail
        go_quiet (fail)
        have hs4 := (HS3.out.1.setR (.int .i64 k3) (.string x3) (.int .i64 n3) (.int .i64 a3) (.slice A3 ks3.length cap3)).keep (belowN _ nq)
        have hr4 : RdAt (envOf l ts) ⟨w2.heap.size, tb, A, cap, l.length⟩ s1 ((((((w3.setCell ⟨w.heap.size, 0, none⟩ (.int .i64 k3)).setCell ⟨w.heap.size, 1, none⟩ (.string x3)).setCell ⟨w.heap.size, 2, none⟩ (.int .i64 n3)).setCell ⟨w.heap.size, 3, none⟩ (.int .i64 a3)).setCell ⟨w.heap.size, 4, none⟩ (.slice A3 ks3.length cap3)).drewN nq) :=
          (HS3.out.2.1.setOther (by show w2.heap.size ≠ w.heap.size; omega) (htb2.imp id fun h => by show tb ≠ w.heap.size; omega)).below (belowN _ nq)
        have HS4 := Lib.hid (And.intro hs4 hr4)
        clear hs4 hr4
        go_wp2_with (go_at_call 44; refine (fail_any HME.out.1 HS4.out.2).mono ?_; rintro e wz ⟨rfl, hbz⟩)
        exact (HS4.out.1.keep hbz).caught rfl rfl HFN.out.symm
      · have hd : decide ((s1.i : Int) < (((envOf l ts).n : Nat) : Int)) = false := decide_eq_false (by omega)
        rw [if_neg hlt] at hfin
        have HFN := Lib.hid hfin
        clear hfin
        go_wp2_with fail
        go_quiet (fail)
        have hs4 := (HS3.out.1.setR (.int .i64 k3) (.string x3) (.int .i64 n3) (.int .i64 a3) (.slice A3 ks3.length cap3)).keep (belowN _ nq)
        have hv4 : LiesA ((((((w3.setCell ⟨w.heap.size, 0, none⟩ (.int .i64 k3)).setCell ⟨w.heap.size, 1, none⟩ (.string x3)).setCell ⟨w.heap.size, 2, none⟩ (.int .i64 n3)).setCell ⟨w.heap.size, 3, none⟩ (.int .i64 a3)).setCell ⟨w.heap.size, 4, none⟩ (.slice A3 ks3.length cap3)).drewN nq) (w2.heap.size + 1) w3.heap.size (.mk k3 x3 n3 a3 ks3) (.agg #[.int .i64 k3, .string x3, .int .i64 n3, .int .i64 a3, .slice A3 ks3.length cap3]) := by
          have hv3 := HS3.out.2.2.1
          unfold VNd at hv3
          rw [World.size_alloc, World.size_setCell] at hv3
          refine hv3.keep (fun b h1 h2 => ?_) (Nat.le_refl _) (Nat.le_refl _)
          exact (heap_setR (W := w3) (b := b) (g := w.heap.size) (by omega))
        have hlt4 := hs4.lt
        have hl4 := LiesA.lies hv4
        have hrg := Right_any intB floatsB _ (each_numsQ hl4) _ _ (HG.out.below HG.out.2.2 hs4.below) (hl4.more (by rw [sizeN]; simp only [World.size_setCell]; exact Nat.le_refl _))
        obtain ⟨r, Hr⟩ : ∃ r, Hid (((Nd.mk k3 x3 n3 a3 ks3).look intB floatsB 1 0 0).2 = r) := ⟨_, rfl⟩
        rw [Hr.out] at hrg
        have p0 := hs4.c0
        have p1 := hs4.c1
        have p2 := hs4.c2
        have p3 := hs4.c3
        have p4 := hs4.c4
        have HS4 := Lib.hid (And.intro hs4 (And.intro hv4 hrg))
        clear hs4 hv4 hl4 hrg q0 q1 q2 q3 q4 q5 f0 f1 r0 r1
        cases r with
        | none =>
          go_wp2_with (go_at_call 17; refine HS4.out.2.2.mono ?_; rintro e w5 ⟨hb5, h⟩; obtain ⟨_, rfl⟩ := h.resolve_right (by rintro ⟨_, _, h, _⟩; cases h); have hs5 := HS4.out.1.keep hb5; have q0 := hs5.c0; have q1 := hs5.c1; have q2 := hs5.c2; have q3 := hs5.c3; have q4 := hs5.c4; have q5 := hs5.ce; have f0 := hs5.fr; have f1 := hs5.fe; have HS5 := Lib.hid (And.intro hs5 hb5); clear h hs5 hb5)
          have hs6 := (HS5.out.1.setR (.int .i64 k3) (.string x3) (.int .i64 n3) (.int .i64 a3) (.slice A3 ks3.length cap3)).setE .nilIface
          have hsz5 := HS5.out.2.size
          rw [sizeN] at hsz5
          simp only [World.size_setCell] at hsz5
          refine hs6.idle rfl rfl ⟨hs6.below, ?_⟩
          have hR : R = .tree (.mk k3 x3 n3 a3 ks3) := by rw [← HFN.out, outOf, rightW, Hr.out]
          rw [hR]
          refine ⟨_, rfl, HS4.out.2.1.keep (fun b h1 h2 => ?_) (by omega) (by simp only [World.size_setCell]; exact hsz5)⟩
          rw [heap_setE (by omega), heap_setR (by omega)]
          exact HS5.out.2.block b (by rw [sizeN]; simp only [World.size_setCell]; exact h2)
        | some x =>
          go_wp2_with (go_at_call 17; refine HS4.out.2.2.mono ?_; rintro e w5 ⟨hb5, h⟩; obtain ⟨x', pb, hx, rfl, hpb, hpb2, hw⟩ := h.resolve_left (by rintro ⟨h, _⟩; cases h); have hs5 := HS4.out.1.keep hb5; have q0 := hs5.c0; have q1 := hs5.c1; have q2 := hs5.c2; have q3 := hs5.c3; have q4 := hs5.c4; have q5 := hs5.ce; have f0 := hs5.fr; have f1 := hs5.fe; have HS5 := Lib.hid (And.intro hs5 (And.intro hb5 (And.intro hx (And.intro hpb hw)))); clear h hs5 hb5 hx hpb hpb2 hw)
          have hs6 := (HS5.out.1.setR (.int .i64 0) (.string ⟨#[]⟩) (.int .i64 0) (.int .i64 0) (.slice none 0 0)).setE (.iface 43 (.pointer (some ⟨pb, 0, none⟩)))
          have hpb := HS5.out.2.2.2.1
          obtain rfl : x = x' := Option.some.inj HS5.out.2.2.1
          refine hs6.idle rfl rfl ⟨hs6.below, ?_⟩
          have hR : R = .wrong x.code x.at_ x.name := by rw [← HFN.out, outOf, rightW, Hr.out]
          rw [hR]
          refine ⟨pb, rfl, ?_, wrongAt_block HS5.out.2.2.2.2 ?_⟩
          · have : w3.heap.size ≤ pb := by have := hpb; rw [sizeN] at this; simpa only [World.size_setCell] using this
            omega
          · have : w3.heap.size ≤ pb := by have := hpb; rw [sizeN] at this; simpa only [World.size_setCell] using this
            rw [heap_setE (by omega), heap_setR (by omega)]
end Go.Proofs.YtokhfhibdeneeaaGreatDoor
