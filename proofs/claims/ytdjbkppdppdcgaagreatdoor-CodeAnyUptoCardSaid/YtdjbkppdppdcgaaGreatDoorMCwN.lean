/- code.leaves. code.hand. code.fits: what it lays, the loop. -/
import Derived.LaidEqlPtr
import Derived.Laws.MakeOwn
import Derived.Laws.OwnMore
import Derived.Deep.LoopGhost
import Derived.Test.YtdjbkppdppdcgaaGreatDoorMCwB
import Derived.Test.YtdjbkppdppdcgaaGreatDoorMCwA
import Derived.Test.YtdjbkppdppdcgaaGreatDoorMCwL
import Derived.Test.YtdjbkppdppdcgaaGreatDoorMCdD
import Derived.Test.YtdjbkppdppdcgaaGreatDoorMLex1
namespace Go.Proofs.YtdjbkppdppdcgaaGreatDoor
open Go.RowKit

/-- What leaves answers: the stack for the next one, the one for where it jumps. -/
def LeavesPost (w : World) (B : Nat) (T : Tab) (o : Option (List UInt8 × List UInt8)) (e : Ending) (w' : World) : Prop :=
  ∃ T', Stk 108 w' B T' ∧ (∀ x ∈ T, x ∈ T') ∧ (∀ x ∈ T', x ∈ T ∨ w.heap.size ≤ x.1) ∧ Foot w.heap.size (fun k => ∃ s, (k, s) ∈ T) w w' ∧
    match o with
    | none => ∃ v, e = .returned (.tuple #[.pointer none, v])
    | some (a, b) => ∃ ga gb, e = .returned (.tuple #[.pointer (some ⟨ga, 0, none⟩), .pointer (some ⟨gb, 0, none⟩)]) ∧ (ga, a) ∈ T' ∧ (gb, b) ∈ T'
theorem forms_bytes (op : Int) : (∀ c ∈ (formOf op).takes, c ≠ 0) ∧ (∀ c ∈ (formOf op).lays, c = 118 ∨ c = 112 ∨ c = 116) ∧ (formOf op).takes.length ≤ 2 ∧ (formOf op).lays.length ≤ 3 ∧ (formOf op).a ≤ 11 := by
  have hall : ∀ F ∈ formsT, (∀ c ∈ F.takes, c ≠ 0) ∧ (∀ c ∈ F.lays, c = 118 ∨ c = 112 ∨ c = 116) ∧ F.takes.length ≤ 2 ∧ F.lays.length ≤ 3 ∧ F.a ≤ 11 := by decide
  unfold formOf
  split
  · rw [List.getD_eq_getElem?_getD]
    cases h : formsT[op.toNat]? with
    | none => simp [Cform.no]
    | some F => exact hall F (List.mem_of_getElem? h)
  · simp [Cform.no]

def takesO (o : Option (List UInt8)) (l : List UInt8) : Option (List UInt8) := match o with
  | none => none
  | some s => takesP s l
def tailP (op : Int) (F : Cform) (o : Option (List UInt8)) : Option (List UInt8 × List UInt8) := match o with
  | none => none
  | some s2 => match laysP s2 F.lays with
    | none => none
    | some s3 => some (s3, if op = 36 ∨ op = 37 then 118 :: s2 else s2)
def pairO (th : List UInt8) : Option (List UInt8) → Option (List UInt8 × List UInt8)
  | none => none
  | some s3 => some (s3, th)
theorem tail_some (op : Int) (F : Cform) (s2 : List UInt8) : tailP op F (some s2) = pairO (if op = 36 ∨ op = 37 then 118 :: s2 else s2) (laysP s2 F.lays) := by
  unfold tailP
  simp only
  cases laysP s2 F.lays <;> rfl
theorem leaves_eq (x : Ci) (s : List UInt8) : leavesP x s = tailP x.op (formOf x.op) (takesO (lessP s (countedP x).1 (countedP x).2.toNat) (formOf x.op).takes.reverse) := by
  unfold leavesP
  cases lessP s (countedP x).1 (countedP x).2.toNat with
  | none => rfl
  | some s1 =>
    simp only [takesO]
    cases takesP s1 (formOf x.op).takes.reverse with
    | none => rfl
    | some s2 => rfl
theorem takesO_step {o : Option (List UInt8)} {l : List UInt8} {i : Nat} {c : UInt8} (hc : l[i]? = some c) : takesO o ((l.take (i + 1)).reverse) = match o with
    | none => none
    | some s => takesO (lessP s c 1) ((l.take i).reverse) := by
  have e : l.take (i + 1) = l.take i ++ [c] := by rw [List.take_add_one, hc]; rfl
  cases o with
  | none => rfl
  | some s =>
    simp only [takesO]
    rw [e, List.reverse_append]
    show takesP s (c :: (l.take i).reverse) = _
    rw [takesP]
    cases lessP s c 1 <;> rfl
theorem less_len {c : UInt8} : ∀ (n : Nat) (s : List UInt8) {s' : List UInt8}, lessP s c n = some s' → s'.length ≤ s.length
  | 0, s, s', h => by
    rw [lessP] at h
    injection h with h
    rw [h]
    exact Nat.le_refl _
  | n + 1, [], s', h => by rw [lessP] at h; cases h
  | n + 1, t :: r, s', h => by
    rw [lessP] at h
    split at h
    · have := less_len n r h
      simp only [List.length_cons]
      omega
    · cases h
theorem node_deep {ty : TypeId} {w : World} {B : Nat} {T : Tab} (h : Stk ty w B T) {b : Nat} {c : UInt8} {s : List UInt8} (hb : (b, c :: s) ∈ T) : w.cell? ⟨b, 2, none⟩ = some (.int .i64 ((s.length : Int) + 1)) := by
  obtain ⟨_, _, _, k2, _⟩ := nodeCells h hb
  rw [k2]
  simp
/-- Within leaves: the instruction's and the form's own blocks, the stacks. -/
structure LvAt (w : World) (B : Nat) (T : Tab) (x : Ci) (F : Cform) (xb fb : Nat) (T' : Tab) (W : World) : Prop where
  xr : W.heap[xb]? = some (.cells #[.int .i64 x.op, .int .i64 x.a, .int .i64 x.b, .string x.text, .int .i64 x.at_] 46 (0, 0))
  fr : W.heap[fb]? = some (.cells #[.string ⟨⟨F.word⟩⟩, .int .i64 F.a, .int .i64 F.text, .string ⟨⟨F.takes⟩⟩, .string ⟨⟨F.lays⟩⟩] 80 (0, 0))
  stk : Stk 108 W B T'
  sub : ∀ y ∈ T, y ∈ T'
  new : ∀ y ∈ T', y ∈ T ∨ w.heap.size ≤ y.1
  foot : Foot w.heap.size (fun k => ∃ s, (k, s) ∈ T) w W
  xn : ∀ s, (xb, s) ∉ T'
  fn : ∀ s, (fb, s) ∉ T'
theorem LvAt.with {w W W' : World} {B xb fb : Nat} {T T' : Tab} {x : Ci} {F : Cform} {c : UInt8} {s : List UInt8} {e : Ending} (h : LvAt w B T x F xb fb T' W) (hp : WithPost W B T' c s e W') :
    ∃ g T'', e = .returned (.pointer (some ⟨g, 0, none⟩)) ∧ (g, c :: s) ∈ T'' ∧ LvAt w B T x F xb fb T'' W' ∧ ∀ y ∈ T', y ∈ T'' := by
  obtain ⟨g, T'', he, hg, hs, hsub, hnew, hf⟩ := hp
  have hxl := (Array.getElem?_eq_some_iff.1 h.xr).1
  have hfl := (Array.getElem?_eq_some_iff.1 h.fr).1
  refine ⟨g, T'', he, hg, ⟨?_, ?_, hs, fun y hy => hsub y (h.sub y hy), fun y hy => ?_, ?_, fun s hs2 => ?_, fun s hs2 => ?_⟩, hsub⟩
  · rw [hf.block xb hxl (fun ⟨s, hs⟩ => h.xn s hs)]; exact h.xr
  · rw [hf.block fb hfl (fun ⟨s, hs⟩ => h.fn s hs)]; exact h.fr
  · rcases hnew y hy with hy | hy
    · exact h.new y hy
    · exact .inr (Nat.le_trans h.foot.size hy)
  · refine h.foot.trans (hf.mono h.foot.size fun k hk ⟨s, hs⟩ => ?_)
    rcases h.new _ hs with hs | hs
    · exact ⟨s, hs⟩
    · exact absurd hk (Nat.not_lt.2 hs)
  · rcases hnew _ hs2 with hs2 | hs2
    · exact h.xn s hs2
    · exact absurd hxl (Nat.not_lt.2 hs2)
  · rcases hnew _ hs2 with hs2 | hs2
    · exact h.fn s hs2
    · exact absurd hfl (Nat.not_lt.2 hs2)
theorem LvAt.xc {w W : World} {B xb fb : Nat} {T T' : Tab} {x : Ci} {F : Cform} (h : LvAt w B T x F xb fb T' W) : W.cell? ⟨xb, 0, none⟩ = some (.int .i64 x.op) := cell_of_row W xb 0 _ _ _ h.xr
theorem LvAt.fc {w W : World} {B xb fb : Nat} {T T' : Tab} {x : Ci} {F : Cform} (h : LvAt w B T x F xb fb T' W) : W.cell? ⟨fb, 3, none⟩ = some (.string ⟨⟨F.takes⟩⟩) ∧ W.cell? ⟨fb, 4, none⟩ = some (.string ⟨⟨F.lays⟩⟩) := ⟨cell_of_row W fb 3 _ _ _ h.fr, cell_of_row W fb 4 _ _ _ h.fr⟩

set_option maxRecDepth 100000 in
set_option maxHeartbeats 4000000 in
theorem leaves_any {x : Ci} (hcnt : CountedOk x) (hc : 0 ≤ (countedP x).2 ∧ (countedP x).2 ≤ 40000) {w : World} {B : Nat} {T : Tab} (h : Stk 108 w B T) {b : Nat} {s : List UInt8} (hb : (b, s) ∈ T) (hs : s.length ≤ 30000) :
    Calls Tryz.prog 61 #[insV x, .pointer (some ⟨b, 0, none⟩)] w (LeavesPost w B T (leavesP x s)) := by
  obtain ⟨R, HR⟩ : ∃ R, Hid (leavesP x s = R) := ⟨_, rfl⟩
  rw [HR.out]
  have HC := Lib.hid hcnt
  obtain ⟨cc, cn, hcp⟩ : ∃ cc cn, countedP x = (cc, cn) := ⟨_, _, rfl⟩
  have hcc : cc ≠ 0 := by
    have : (countedP x).1 = cc := by rw [hcp]
    rw [← this]
    have h1 : (118 : UInt8) ≠ 0 := by decide
    have h2 : (116 : UInt8) ≠ 0 := by decide
    unfold countedP
    split
    · exact h1
    · split
      · exact h1
      · split
        · exact h1
        · split
          · exact h2
          · exact h1
  rw [hcp] at hc
  dsimp only at hc
  have hl := HR.out
  rw [leaves_eq, hcp] at hl
  dsimp only at hl
  have HFM := Lib.hid (forms_call x.op)
  have HFB := Lib.hid (forms_bytes x.op)
  obtain ⟨F, hF⟩ : ∃ F, formOf x.op = F := ⟨_, rfl⟩
  rw [hF] at HFM HFB hl
  have HL := Lib.hid hl
  have HX : Hid (insV x = .agg #[.int .i64 x.op, .int .i64 x.a, .int .i64 x.b, .string x.text, .int .i64 x.at_]) := rfl
  have HK : Hid (∀ w, Calls Tryz.prog 87 #[.agg #[.int .i64 x.op, .int .i64 x.a, .int .i64 x.b, .string x.text, .int .i64 x.at_]] w fun e w' => e = .returned (.tuple #[.int .u8 cc.toNat, .int .i64 cn]) ∧ Below w.heap.size w w') := Lib.hid fun w => by
    have := HC.out w
    rw [hcp] at this
    exact this
  rw [HX.out]
  clear hl hcp hcnt
  have H := Lib.hid h
  clear h
  go_enter Tryz.func61, Tryz.ntmps61
  go_wp2_with (first
    | (go_at_call 87; refine (HK.out _).mono ?_; rintro e w1 ⟨rfl, hb1⟩; have hx1 := (hb1.block w.heap.size (by simp)).trans (heap_alloc_new w _); have k0 := cell_of_row w1 _ 0 _ _ _ hx1; have HS1 : Hid (Stk 108 w1 B T) := Lib.hid (H.out.keep fun b s hb => (hb1.block b (by have := (H.out.node b s hb).2.1; simp; omega)).trans (heap_alloc_old w _ (H.out.node b s hb).2.1)); have HX1 := Lib.hid hx1; clear hx1)
    | (go_at_call 88; refine (less_any HS1.out hb cc hcc cn (by omega)).mono ?_; rintro e w2 ⟨rfl, v, rfl, hv⟩)
    | (go_at_call 39; refine (HFM.out _).mono ?_; rintro e w3 ⟨rfl, hb3⟩))
  have hW0 : LvAt w B T x F w.heap.size w3.heap.size T (w3.alloc (.cells #[.string ⟨⟨F.word⟩⟩, .int .i64 F.a, .int .i64 F.text, .string ⟨⟨F.takes⟩⟩, .string ⟨⟨F.lays⟩⟩] 80 (0, 0))) := by
    have hx2 := (heap_alloc_old w3 (.cells #[.string ⟨⟨F.word⟩⟩, .int .i64 F.a, .int .i64 F.text, .string ⟨⟨F.takes⟩⟩, .string ⟨⟨F.lays⟩⟩] 80 (0, 0)) (show w.heap.size < w3.heap.size by have := hb1.size; have := hb3.size; simp at *; omega)).trans ((hb3.block _ (by have := hb1.size; simp at *; omega)).trans HX1.out)
    have hbW : Below w.heap.size w (w3.alloc (.cells #[.string ⟨⟨F.word⟩⟩, .int .i64 F.a, .int .i64 F.text, .string ⟨⟨F.takes⟩⟩, .string ⟨⟨F.lays⟩⟩] 80 (0, 0))) := (((Below.refl w.heap.size w).alloc (Nat.le_refl _) _).trans ((hb1.mono (by simp)).trans (hb3.mono (by have := hb1.size; simp at *; omega)))).alloc (by have := hb1.size; have := hb3.size; simp at *; omega) _
    refine ⟨hx2, heap_alloc_new _ _, H.out.keep fun b s hb => hbW.block b (H.out.node b s hb).2.1, fun _ h => h, fun _ h => .inl h, Foot.of hbW, fun s hs => ?_, fun s hs => ?_⟩
    · exact absurd (H.out.node _ s hs).2.1 (Nat.lt_irrefl _)
    · have := (H.out.node _ s hs).2.1
      have := hb1.size; have := hb3.size; simp at *; omega
  obtain ⟨xb, hxb⟩ : ∃ xb, w.heap.size = xb := ⟨_, rfl⟩
  obtain ⟨fb, hfb⟩ : ∃ fb, w3.heap.size = fb := ⟨_, rfl⟩
  obtain ⟨W0, hWW⟩ : ∃ W0, w3.alloc (.cells #[.string ⟨⟨F.word⟩⟩, .int .i64 F.a, .int .i64 F.text, .string ⟨⟨F.takes⟩⟩, .string ⟨⟨F.lays⟩⟩] 80 (0, 0)) = W0 := ⟨_, rfl⟩
  rw [hWW, hfb] at hW0
  simp only [hxb] at hW0
  rw [hWW]
  simp only [hxb, hfb]
  have HLV : Hid (LvAt w B T x F xb fb T W0) := Lib.hid (by simpa only [hxb] using hW0)
  obtain ⟨TR, HTR⟩ : ∃ TR, Hid (takesO (lessP s cc cn.toNat) F.takes.reverse = TR) := ⟨_, rfl⟩
  have hL2 : tailP x.op F TR = R := by rw [← HL.out, HTR.out]
  have HL2 := Lib.hid hL2
  have hlen : ∀ s1, lessP s cc cn.toNat = some s1 → s1.length ≤ 30000 := fun s1 e => Nat.le_trans (less_len _ _ e) hs
  have HLEN := Lib.hid hlen
  obtain ⟨c3, c4⟩ := HLV.out.fc
  have c0 := HLV.out.xc
  obtain ⟨_, _, ht2, hl3, _⟩ := HFB.out
  clear hW0 hWW hL2 hlen hxb hfb k0 hb1 hb3 HX1 HS1 HL HC HK HFM HX hF
  go_loopw [1, 9] (fun v9 k wr => wr = W0 ∧ ∃ (i : Nat) (o : Option (List UInt8)), k = .int .i64 ((i : Int) - 1) ∧ i ≤ F.takes.length ∧ StkOr T o v9 ∧ Hid (takesO o ((F.takes.take i).reverse) = TR) ∧ Hid (∀ s1, o = some s1 → s1.length ≤ 30000)) (fun _ k _ => (intOf k + 1).toNat)
  case atStart => exact ⟨rfl, F.takes.length, _, congrArg _ (by unfold wrap64; omega), Nat.le_refl _, hv, by rw [List.take_length]; exact HTR, HLEN⟩
  case round =>
    obtain ⟨rfl, i, o, rfl, hi, ho, HO, HOL⟩ := hrel
    cases o with
    | none =>
      obtain rfl : _ = Value.pointer none := ho
      have hR : R = none := by rw [← HL2.out, ← HO.out]; rfl
      have HRN := Lib.hid hR
      clear hR
      by_cases h0 : i = 0
      · have d : decide (0 ≤ (i : Int) - 1) = false := by simp; omega
        go_wp2_with fail
        go_ret2
        rw [HRN.out]
        exact ⟨T, HLV.out.stk, fun _ h => h, fun _ h => .inl h, HLV.out.foot, _, rfl⟩
      · have d : decide (0 ≤ (i : Int) - 1) = true := by simp; omega
        go_wp2_with fail
        go_ret2
        rw [HRN.out]
        exact ⟨T, HLV.out.stk, fun _ h => h, fun _ h => .inl h, HLV.out.foot, _, rfl⟩
    | some s1 =>
      obtain ⟨b1, rfl, hb1⟩ := ho
      by_cases h0 : i = 0
      · subst h0
        have hT : TR = some s1 := by rw [← HO.out]; rfl
        rw [hT] at HL2
        have hs1 := HOL.out s1 rfl
        clear hT
        -- TAIL
        by_cases h36 : x.op = 36 ∨ x.op = 37
        · have hth : (if x.op = 36 ∨ x.op = 37 then 118 :: s1 else s1) = 118 :: s1 := if_pos h36
          have H36 := Lib.hid h36
          rcases h36 with h36 | h36
          · have e1 : (x.op == 36) = true := by simp [h36]
            clear h36
            go_wp2_with (go_at_call 89; refine (with_any HLV.out.stk hb1 118 (.inl rfl) (by omega)).mono ?_; intro e w6 hp; obtain ⟨gt, T1, rfl, hgt1, hl1, hsub1⟩ := HLV.out.with hp; have m4a := hl1.fc.2; have HLV1 := Lib.hid hl1; clear hp hl1; try dsimp only)
            obtain ⟨LR, HLR⟩ : ∃ LR, Hid (laysP s1 F.lays = LR) := ⟨_, rfl⟩
            have hR2 : pairO (118 :: s1) LR = R := by rw [← HL2.out, tail_some, HLR.out, if_pos H36.out]
            have HR2 := Lib.hid hR2
            clear hR2 HL2
            go_loopw [1, 58] (fun v1 k wr => ∃ (j b2 : Nat) (s2 : List UInt8) (T2 : Tab), v1 = .pointer (some ⟨b2, 0, none⟩) ∧ k = .int .i64 j ∧ j ≤ F.lays.length ∧ (b2, s2) ∈ T2 ∧ (gt, 118 :: s1) ∈ T2 ∧ s2.length ≤ 30000 ∧ Hid (laysP s2 (F.lays.drop j) = LR) ∧ Hid (LvAt w B T x F xb fb T2 wr)) (fun _ k _ => F.lays.length - (intOf k).toNat)
            case atStart => exact ⟨0, b1, s1, T1, rfl, rfl, Nat.zero_le _, hsub1 _ hb1, hgt1, hs1, HLR, HLV1⟩
            case round =>
              obtain ⟨j, b2, s2, T2, rfl, rfl, hj, hb2, hgt, hs2, HLS, HLV2⟩ := hrel
              by_cases hlt : j < F.lays.length
              · obtain ⟨c, hcj⟩ : ∃ c, F.lays[j]? = some c := ⟨_, List.getElem?_eq_getElem hlt⟩
                have hc3 : c = 118 ∨ c = 112 ∨ c = 116 := HFB.out.2.1 c (List.mem_of_getElem? hcj)
                have hix : ∀ h, (⟨⟨F.lays⟩⟩ : ByteArray)[j]'h = c := fun h => (List.getElem?_eq_some_iff.1 hcj).2
                have hls := HLS.out
                rw [drop_cons hcj, laysP] at hls
                have m4 := HLV2.out.fc.2
                clear hcj
                by_cases hov : 30000 < s2.length + 1
                · rw [if_pos hov] at hls
                  subst hls
                  have d : decide (30000 < (s2.length : Int) + 1) = true := by simp; omega
                  go_wp2_with (go_at_call 89; refine (with_any HLV2.out.stk hb2 c hc3 (by omega)).mono ?_; intro e w7 hp; obtain ⟨g, T3, rfl, hg3, hl3', hsub3⟩ := HLV2.out.with hp; have n2 := node_deep hl3'.stk hg3; have HLV3 := Lib.hid hl3'; clear hp hl3'; try dsimp only)
                  go_ret2
                  rw [← HR2.out]
                  exact ⟨T3, HLV3.out.stk, HLV3.out.sub, HLV3.out.new, HLV3.out.foot, _, rfl⟩
                · rw [if_neg hov] at hls
                  have HLS2 := Lib.hid hls
                  have d : decide (30000 < (s2.length : Int) + 1) = false := by simp; omega
                  clear hls
                  go_wp2_with (go_at_call 89; refine (with_any HLV2.out.stk hb2 c hc3 (by omega)).mono ?_; intro e w7 hp; obtain ⟨g, T3, rfl, hg3, hl3', hsub3⟩ := HLV2.out.with hp; have n2 := node_deep hl3'.stk hg3; have HLV3 := Lib.hid hl3'; clear hp hl3'; try dsimp only)
                  go_roundw
                  case rel => exact ⟨j + 1, g, c :: s2, T3, rfl, by go_num, by omega, hg3, hsub3 _ hgt, by simp only [List.length_cons]; omega, HLS2, HLV3⟩
                  case measure => simp [intOf]; omega
              · obtain rfl : j = F.lays.length := by omega
                have hls := HLS.out
                rw [List.drop_length, laysP] at hls
                subst hls
                go_wp2_with fail
                go_ret2
                rw [← HR2.out]
                exact ⟨T2, HLV2.out.stk, HLV2.out.sub, HLV2.out.new, HLV2.out.foot, b2, gt, rfl, hb2, hgt⟩
          · have e1 : (x.op == 36) = false := by simp [h36]
            have e2 : (x.op == 37) = true := by simp [h36]
            clear h36
            go_wp2_with (go_at_call 89; refine (with_any HLV.out.stk hb1 118 (.inl rfl) (by omega)).mono ?_; intro e w6 hp; obtain ⟨gt, T1, rfl, hgt1, hl1, hsub1⟩ := HLV.out.with hp; have m4a := hl1.fc.2; have HLV1 := Lib.hid hl1; clear hp hl1; try dsimp only)
            obtain ⟨LR, HLR⟩ : ∃ LR, Hid (laysP s1 F.lays = LR) := ⟨_, rfl⟩
            have hR2 : pairO (118 :: s1) LR = R := by rw [← HL2.out, tail_some, HLR.out, if_pos H36.out]
            have HR2 := Lib.hid hR2
            clear hR2 HL2
            go_loopw [1, 58] (fun v1 k wr => ∃ (j b2 : Nat) (s2 : List UInt8) (T2 : Tab), v1 = .pointer (some ⟨b2, 0, none⟩) ∧ k = .int .i64 j ∧ j ≤ F.lays.length ∧ (b2, s2) ∈ T2 ∧ (gt, 118 :: s1) ∈ T2 ∧ s2.length ≤ 30000 ∧ Hid (laysP s2 (F.lays.drop j) = LR) ∧ Hid (LvAt w B T x F xb fb T2 wr)) (fun _ k _ => F.lays.length - (intOf k).toNat)
            case atStart => exact ⟨0, b1, s1, T1, rfl, rfl, Nat.zero_le _, hsub1 _ hb1, hgt1, hs1, HLR, HLV1⟩
            case round =>
              obtain ⟨j, b2, s2, T2, rfl, rfl, hj, hb2, hgt, hs2, HLS, HLV2⟩ := hrel
              by_cases hlt : j < F.lays.length
              · obtain ⟨c, hcj⟩ : ∃ c, F.lays[j]? = some c := ⟨_, List.getElem?_eq_getElem hlt⟩
                have hc3 : c = 118 ∨ c = 112 ∨ c = 116 := HFB.out.2.1 c (List.mem_of_getElem? hcj)
                have hix : ∀ h, (⟨⟨F.lays⟩⟩ : ByteArray)[j]'h = c := fun h => (List.getElem?_eq_some_iff.1 hcj).2
                have hls := HLS.out
                rw [drop_cons hcj, laysP] at hls
                have m4 := HLV2.out.fc.2
                clear hcj
                by_cases hov : 30000 < s2.length + 1
                · rw [if_pos hov] at hls
                  subst hls
                  have d : decide (30000 < (s2.length : Int) + 1) = true := by simp; omega
                  go_wp2_with (go_at_call 89; refine (with_any HLV2.out.stk hb2 c hc3 (by omega)).mono ?_; intro e w7 hp; obtain ⟨g, T3, rfl, hg3, hl3', hsub3⟩ := HLV2.out.with hp; have n2 := node_deep hl3'.stk hg3; have HLV3 := Lib.hid hl3'; clear hp hl3'; try dsimp only)
                  go_ret2
                  rw [← HR2.out]
                  exact ⟨T3, HLV3.out.stk, HLV3.out.sub, HLV3.out.new, HLV3.out.foot, _, rfl⟩
                · rw [if_neg hov] at hls
                  have HLS2 := Lib.hid hls
                  have d : decide (30000 < (s2.length : Int) + 1) = false := by simp; omega
                  clear hls
                  go_wp2_with (go_at_call 89; refine (with_any HLV2.out.stk hb2 c hc3 (by omega)).mono ?_; intro e w7 hp; obtain ⟨g, T3, rfl, hg3, hl3', hsub3⟩ := HLV2.out.with hp; have n2 := node_deep hl3'.stk hg3; have HLV3 := Lib.hid hl3'; clear hp hl3'; try dsimp only)
                  go_roundw
                  case rel => exact ⟨j + 1, g, c :: s2, T3, rfl, by go_num, by omega, hg3, hsub3 _ hgt, by simp only [List.length_cons]; omega, HLS2, HLV3⟩
                  case measure => simp [intOf]; omega
              · obtain rfl : j = F.lays.length := by omega
                have hls := HLS.out
                rw [List.drop_length, laysP] at hls
                subst hls
                go_wp2_with fail
                go_ret2
                rw [← HR2.out]
                exact ⟨T2, HLV2.out.stk, HLV2.out.sub, HLV2.out.new, HLV2.out.foot, b2, gt, rfl, hb2, hgt⟩
        · have h1 : x.op ≠ 36 := fun e => h36 (.inl e)
          have h2 : x.op ≠ 37 := fun e => h36 (.inr e)
          have e1 : (x.op == 36) = false := by simp [h1]
          have e2 : (x.op == 37) = false := by simp [h2]
          have H36 := Lib.hid h36
          clear h36 h1 h2
          go_wp2_with fail
          obtain ⟨LR, HLR⟩ : ∃ LR, Hid (laysP s1 F.lays = LR) := ⟨_, rfl⟩
          have hR2 : pairO (s1) LR = R := by rw [← HL2.out, tail_some, HLR.out, if_neg H36.out]
          have HR2 := Lib.hid hR2
          clear hR2 HL2
          go_loopw [1, 58] (fun v1 k wr => ∃ (j b2 : Nat) (s2 : List UInt8) (T2 : Tab), v1 = .pointer (some ⟨b2, 0, none⟩) ∧ k = .int .i64 j ∧ j ≤ F.lays.length ∧ (b2, s2) ∈ T2 ∧ (b1, s1) ∈ T2 ∧ s2.length ≤ 30000 ∧ Hid (laysP s2 (F.lays.drop j) = LR) ∧ Hid (LvAt w B T x F xb fb T2 wr)) (fun _ k _ => F.lays.length - (intOf k).toNat)
          case atStart => exact ⟨0, b1, s1, T, rfl, rfl, Nat.zero_le _, hb1, hb1, hs1, HLR, HLV⟩
          case round =>
            obtain ⟨j, b2, s2, T2, rfl, rfl, hj, hb2, hgt, hs2, HLS, HLV2⟩ := hrel
            by_cases hlt : j < F.lays.length
            · obtain ⟨c, hcj⟩ : ∃ c, F.lays[j]? = some c := ⟨_, List.getElem?_eq_getElem hlt⟩
              have hc3 : c = 118 ∨ c = 112 ∨ c = 116 := HFB.out.2.1 c (List.mem_of_getElem? hcj)
              have hix : ∀ h, (⟨⟨F.lays⟩⟩ : ByteArray)[j]'h = c := fun h => (List.getElem?_eq_some_iff.1 hcj).2
              have hls := HLS.out
              rw [drop_cons hcj, laysP] at hls
              have m4 := HLV2.out.fc.2
              clear hcj
              by_cases hov : 30000 < s2.length + 1
              · rw [if_pos hov] at hls
                subst hls
                have d : decide (30000 < (s2.length : Int) + 1) = true := by simp; omega
                go_wp2_with (go_at_call 89; refine (with_any HLV2.out.stk hb2 c hc3 (by omega)).mono ?_; intro e w7 hp; obtain ⟨g, T3, rfl, hg3, hl3', hsub3⟩ := HLV2.out.with hp; have n2 := node_deep hl3'.stk hg3; have HLV3 := Lib.hid hl3'; clear hp hl3'; try dsimp only)
                go_ret2
                rw [← HR2.out]
                exact ⟨T3, HLV3.out.stk, HLV3.out.sub, HLV3.out.new, HLV3.out.foot, _, rfl⟩
              · rw [if_neg hov] at hls
                have HLS2 := Lib.hid hls
                have d : decide (30000 < (s2.length : Int) + 1) = false := by simp; omega
                clear hls
                go_wp2_with (go_at_call 89; refine (with_any HLV2.out.stk hb2 c hc3 (by omega)).mono ?_; intro e w7 hp; obtain ⟨g, T3, rfl, hg3, hl3', hsub3⟩ := HLV2.out.with hp; have n2 := node_deep hl3'.stk hg3; have HLV3 := Lib.hid hl3'; clear hp hl3'; try dsimp only)
                go_roundw
                case rel => exact ⟨j + 1, g, c :: s2, T3, rfl, by go_num, by omega, hg3, hsub3 _ hgt, by simp only [List.length_cons]; omega, HLS2, HLV3⟩
                case measure => simp [intOf]; omega
            · obtain rfl : j = F.lays.length := by omega
              have hls := HLS.out
              rw [List.drop_length, laysP] at hls
              subst hls
              go_wp2_with fail
              go_ret2
              rw [← HR2.out]
              exact ⟨T2, HLV2.out.stk, HLV2.out.sub, HLV2.out.new, HLV2.out.foot, b2, b1, rfl, hb2, hgt⟩
      · obtain ⟨j, rfl⟩ : ∃ j, i = j + 1 := ⟨i - 1, by omega⟩
        obtain ⟨c, hcj⟩ : ∃ c, F.takes[j]? = some c := ⟨_, List.getElem?_eq_getElem (by omega)⟩
        have hcne : c ≠ 0 := HFB.out.1 c (List.mem_of_getElem? hcj)
        have ho2 := HO.out
        rw [takesO_step hcj] at ho2
        have HO2 : Hid (takesO (lessP s1 c 1) ((F.takes.take j).reverse) = TR) := ho2
        have hix : ∀ h, (⟨⟨F.takes⟩⟩ : ByteArray)[j]'h = c := fun h => (List.getElem?_eq_some_iff.1 hcj).2
        have hjl : j < F.takes.length := by omega
        have hjj : ((j + 1 : Nat) : Int) - 1 = (j : Int) := by omega
        clear ho2 hcj
        go_wp2_with (go_at_call 88; refine (less_any HLV.out.stk hb1 c hcne 1 (by omega)).mono ?_; rintro e w5 ⟨rfl, v5, rfl, hv5⟩)
        go_roundw
        case rel => exact ⟨by trivial, j, _, by go_num, by omega, hv5, HO2, Lib.hid fun s2 e => Nat.le_trans (less_len _ _ e) (HOL.out s1 rfl)⟩
        case measure => simp [intOf]
end Go.Proofs.YtdjbkppdppdcgaaGreatDoor

namespace Go.Proofs.YtdjbkppdppdcgaaGreatDoor
open Go.RowKit

def seenV (b : Bool) : Value := .int .i64 (if b then 1 else 0)
/-- Within fits: the stacks at each instruction, what was seen, what is to do. -/
structure FtAt (w0 : World) (ab sb tb n g cap : Nat) (T : Tab) (c : Cst) (W : World) : Prop where
  below : Below w0.heap.size w0 W
  stk : Stk 108 W w0.heap.size T
  atr : ∃ vs : List Value, W.heap[ab]? = some (.cells vs.toArray 105 (0, 0)) ∧ vs.length = n + 1 ∧ ∀ j, j ≤ n → ∃ v, vs[j]? = some v ∧ StkOr T (c.at_.getD j none) v
  seen : W.heap[sb]? = some (.cells (c.seen.map seenV).toArray 3 (0, 0))
  todo : TodoAt w0.heap.size tb g cap c.todo W
  la : c.at_.length = n + 1
  ls : c.seen.length = n
  lo : w0.heap.size ≤ ab ∧ w0.heap.size ≤ sb ∧ w0.heap.size ≤ tb
  ne : ab ≠ sb ∧ ab ≠ tb ∧ ab ≠ g ∧ sb ≠ tb ∧ sb ≠ g
  nn : ∀ s, (ab, s) ∉ T ∧ (sb, s) ∉ T ∧ (tb, s) ∉ T ∧ (g, s) ∉ T
  deep : ∀ j s, c.at_.getD j none = some s → s.length ≤ 30000
section
variable {w0 W W1 W' : World} {ab sb tb n g cap : Nat} {T T' : Tab} {c : Cst}
theorem FtAt.alt (h : FtAt w0 ab sb tb n g cap T c W) : ab < W.heap.size ∧ sb < W.heap.size ∧ tb < W.heap.size ∧ g < W.heap.size := by
  obtain ⟨vs, h1, _⟩ := h.atr
  exact ⟨(Array.getElem?_eq_some_iff.1 h1).1, (Array.getElem?_eq_some_iff.1 h.seen).1, (Array.getElem?_eq_some_iff.1 h.todo.box).1, own_blk h.todo.own⟩
/-- What stands at an instruction. -/
theorem FtAt.at_ (h : FtAt w0 ab sb tb n g cap T c W) {k : Nat} (hk : k ≤ n) : ∃ v, W.cell? ⟨ab, k, none⟩ = some v ∧ StkOr T (c.at_.getD k none) v ∧ W.frozen? ⟨ab, k, none⟩ = false := by
  obtain ⟨vs, h1, h2, h3⟩ := h.atr
  obtain ⟨v, hv, hs⟩ := h3 k hk
  exact ⟨v, (cell_of_row W ab k _ _ _ h1).trans (by simpa using hv), hs, frozen_of_row W ab k _ _ h1⟩
theorem FtAt.seenAt (h : FtAt w0 ab sb tb n g cap T c W) {k : Nat} (hk : k < n) : W.cell? ⟨sb, k, none⟩ = some (seenV (c.seen.getD k false)) ∧ W.frozen? ⟨sb, k, none⟩ = false := by
  refine ⟨(cell_of_row W sb k _ _ _ h.seen).trans ?_, frozen_of_row W sb k _ _ h.seen⟩
  have : k < c.seen.length := by rw [h.ls]; exact hk
  simp [List.getD_eq_getElem?_getD, List.getElem?_eq_getElem this]
/-- A call that may add stacks, and else leaves all as it was. -/
theorem FtAt.more (h : FtAt w0 ab sb tb n g cap T c W) (hs : Stk 108 W' w0.heap.size T') (hsub : ∀ y ∈ T, y ∈ T') (hnew : ∀ y ∈ T', y ∈ T ∨ W.heap.size ≤ y.1) (hf : Foot W.heap.size (fun k => ∃ s, (k, s) ∈ T) W W') : FtAt w0 ab sb tb n g cap T' c W' := by
  obtain ⟨l1, l2, l3, l4⟩ := h.alt
  have hn : ∀ k, k < W.heap.size → (∀ s, (k, s) ∉ T) → (∀ s, (k, s) ∉ T') := fun k hk hn s hs => by
    rcases hnew _ hs with hs | hs
    · exact hn s hs
    · exact absurd hk (Nat.not_lt.2 hs)
  have hk : ∀ k, k < W.heap.size → (∀ s, (k, s) ∉ T) → W'.heap[k]? = W.heap[k]? := fun k hk hn => hf.block k hk (fun ⟨s, hs⟩ => hn s hs)
  obtain ⟨vs, h1, h2, h3⟩ := h.atr
  have hn' := h.nn
  refine ⟨h.below.trans (hf.to (C := w0.heap.size) h.below.size fun k ⟨s, hs⟩ => (h.stk.node k s hs).1), hs, ⟨vs, (hk ab l1 fun s => (hn' s).1).trans h1, h2, fun j hj => ?_⟩, (hk sb l2 fun s => (hn' s).2.1).trans h.seen, h.todo.keep (hk tb l3 fun s => (hn' s).2.2.1) (hk g l4 fun s => (hn' s).2.2.2), h.la, h.ls, h.lo, h.ne, fun s => ⟨hn ab l1 (fun s => (hn' s).1) s, hn sb l2 (fun s => (hn' s).2.1) s, hn tb l3 (fun s => (hn' s).2.2.1) s, hn g l4 (fun s => (hn' s).2.2.2) s⟩, h.deep⟩
  obtain ⟨v, hv, hs⟩ := h3 j hj
  refine ⟨v, hv, ?_⟩
  revert hs
  cases c.at_.getD j none with
  | none => exact id
  | some s => rintro ⟨b, e, hb⟩; exact ⟨b, e, hsub _ hb⟩
/-- A stack is laid where none stood, and the instruction is to do. -/
theorem FtAt.hand (h : FtAt w0 ab sb tb n g cap T c W) {k b g' cap' : Nat} {s : List UInt8} (hk : k ≤ n) (hb : (b, s) ∈ T) (hs : s.length ≤ 30000)
    (ht : TodoAt w0.heap.size tb g' cap' (pushL c.todo k) W') (hg : g' = g ∨ (W.setCell ⟨ab, k, none⟩ (.pointer (some ⟨b, 0, none⟩))).heap.size ≤ g')
    (hf : Foot (W.setCell ⟨ab, k, none⟩ (.pointer (some ⟨b, 0, none⟩))).heap.size (fun k => k = tb ∨ k = g) (W.setCell ⟨ab, k, none⟩ (.pointer (some ⟨b, 0, none⟩))) W') :
    FtAt w0 ab sb tb n g' cap' T { c with at_ := c.at_.set k (some s), todo := pushL c.todo k } W' := by
  obtain ⟨l1, l2, l3, l4⟩ := h.alt
  obtain ⟨vs, h1, h2, h3⟩ := h.atr
  have hsz : (W.setCell ⟨ab, k, none⟩ (.pointer (some ⟨b, 0, none⟩))).heap.size = W.heap.size := by simp
  rw [hsz] at hg hf
  have hfs := hf.size
  rw [hsz] at hfs
  obtain ⟨n1, n2, n3, n4, n5⟩ := h.ne
  have hn' := h.nn
  have hk2 : ∀ i, i < W.heap.size → i ≠ ab → i ≠ tb → i ≠ g → W'.heap[i]? = W.heap[i]? := fun i hi e1 e2 e3 => (hf.block i hi (by rintro (e | e); exact e2 e; exact e3 e)).trans (Below.heap_setCell W _ _ _ e1)
  have hab : W'.heap[ab]? = some (.cells (vs.set k (.pointer (some ⟨b, 0, none⟩))).toArray 105 (0, 0)) := by
    rw [hf.block ab l1 (by rintro (e | e); exact n2 e; exact n3 e), heap_setCell_same W ab k _ _ _ h1]
    simp
  have hge : w0.heap.size ≤ W.heap.size := h.below.size
  have hg2 : ∀ s, (g', s) ∉ T := fun s hs => by
    rcases hg with e | e
    · rw [e] at hs; exact (hn' s).2.2.2 hs
    · exact absurd (h.stk.node _ s hs).2.1 (Nat.not_lt.2 e)
  refine ⟨⟨hf.os.trans h.below.os, hf.tape.trans h.below.tape, hf.output.trans h.below.output, Nat.le_trans hge hfs, fun i hi => ?_⟩, h.stk.keep fun b s hb => ?_, ⟨vs.set k (.pointer (some ⟨b, 0, none⟩)), hab, by simpa using h2, fun j hj => ?_⟩, (hk2 sb l2 (Ne.symm n1) n4 n5).trans h.seen, ht, by simp only [List.length_set]; exact h.la, h.ls, h.lo, ⟨n1, n2, ?_, n4, ?_⟩, fun s => ⟨(hn' s).1, (hn' s).2.1, (hn' s).2.2.1, hg2 s⟩, fun j t => ?_⟩
  · have := h.lo
    have := h.todo.lo
    rw [hk2 i (by omega) (by omega) (by omega) (by omega)]
    exact h.below.block i hi
  · have hn := h.stk.node b s hb
    refine hk2 b hn.2.1 (fun e => (hn' s).1 (e ▸ hb)) (fun e => (hn' s).2.2.1 (e ▸ hb)) (fun e => (hn' s).2.2.2 (e ▸ hb))
  · obtain ⟨v, hv, hs2⟩ := h3 j hj
    by_cases e : k = j
    · subst e
      refine ⟨.pointer (some ⟨b, 0, none⟩), by rw [List.getElem?_set_self (by omega)], ?_⟩
      simp only [List.getD_eq_getElem?_getD]
      rw [List.getElem?_set_self (by rw [h.la]; omega)]
      exact ⟨b, rfl, hb⟩
    · refine ⟨v, by rw [List.getElem?_set_ne e]; exact hv, ?_⟩
      simp only [List.getD_eq_getElem?_getD] at hs2 ⊢
      rw [List.getElem?_set_ne e]
      exact hs2
  · rcases hg with e | e <;> omega
  · rcases hg with e | e <;> omega
  · intro ht
    by_cases e : k = j
    · subst e
      simp only [List.getD_eq_getElem?_getD] at ht
      rw [List.getElem?_set_self (by rw [h.la]; omega)] at ht
      simp only [Option.getD_some, Option.some.injEq] at ht
      rw [← ht]; exact hs
    · simp only [List.getD_eq_getElem?_getD] at ht
      rw [List.getElem?_set_ne e] at ht
      exact h.deep j t (by rw [List.getD_eq_getElem?_getD]; exact ht)
end

theorem stackInfo : (Tryz.prog.info? 108).map (·.size) = some 6 := by kernel_rfl
theorem stack_eq {w : World} {B : Nat} {T : Tab} (h : Stk 108 w B T) {b b' : Nat} {s s' : List UInt8} (hb : (b, s) ∈ T) (hb' : (b', s') ∈ T) :
    (binOp .eql 105 (.pointer (some ⟨b, 0, none⟩)) (.pointer (some ⟨b', 0, none⟩))).run Tryz.prog w = .ok (.bool (s == s')) w := by
  obtain ⟨j, hj, hjs⟩ := Option.map_eq_some_iff.1 stackInfo
  by_cases e : b = b'
  · subst e
    obtain rfl := h.same _ _ _ hb hb'
    rw [run_eql_ptr_same w _ Tryz.underlying105 hj]
    simp
  · obtain ⟨_, _, _, _, _, _, h1, _⟩ := h.node b s hb
    obtain ⟨_, _, _, _, _, _, h2, _⟩ := h.node b' s' hb'
    have hs : (s == s') = false := by
      simp only [beq_eq_false_iff_ne, ne_eq]
      intro e2
      subst e2
      exact e (h.one _ _ _ hb hb')
    rw [run_eql_ptr_other w Tryz.underlying105 hj (by rw [hjs]; decide) (fun e2 => e (by injection e2)) h1 h2, hs]
theorem getD_set {α : Type} {l : List (Option α)} {k : Nat} (hk : k < l.length) (v : Option α) : (l.set k v).getD k none = v := by
  rw [List.getD_eq_getElem?_getD, List.getElem?_set_self hk]
  rfl
set_option maxRecDepth 100000 in
set_option maxHeartbeats 4000000 in
theorem hand_any {w0 W : World} {ab sb tb n g cap : Nat} {T : Tab} {c : Cst} (h : FtAt w0 ab sb tb n g cap T c W) {k b : Nat} {s : List UInt8} (hk : k ≤ n) (hb : (b, s) ∈ T) (hs : s.length ≤ 30000) (hl : c.todo.length ≤ 900000) :
    Calls Tryz.prog 62 #[.slice (some ⟨ab, 0, none⟩) (n + 1) (n + 1), .pointer (some ⟨tb, 0, none⟩), .int .i64 k, .pointer (some ⟨b, 0, none⟩)] W fun e w' =>
      e = .returned (.bool (handP c k s).2) ∧ (∃ g' cap', FtAt w0 ab sb tb n g' cap' T (handP c k s).1 w' ∧ (g' = g ∨ W.heap.size ≤ g')) ∧ Foot W.heap.size (fun i => i = ab ∨ i = tb ∨ i = g) W w' := by
  obtain ⟨v, k0, hv, f0⟩ := h.at_ hk
  have H := Lib.hid h
  go_enter Tryz.func62, Tryz.ntmps62
  unfold handP
  cases hat : c.at_.getD k none with
  | none =>
    rw [hat] at hv
    obtain rfl : v = .pointer none := hv
    have h1 : TodoAt w0.heap.size tb g cap c.todo (W.setCell ⟨ab, k, none⟩ (.pointer (some ⟨b, 0, none⟩))) := h.todo.keep (Below.heap_setCell W _ _ _ (Ne.symm h.ne.2.1)) (Below.heap_setCell W _ _ _ (Ne.symm h.ne.2.2.1))
    have HT := Lib.hid h1
    have hlo : w0.heap.size ≤ (W.setCell ⟨ab, k, none⟩ (.pointer (some ⟨b, 0, none⟩))).heap.size := by simpa using h.below.size
    clear h h1 hat
    simp only
    go_wp2_with (go_at_call 90; refine (push_any HT.out k hl hlo).mono ?_; rintro e w1 ⟨rfl, g', cap', ht1, hg1, hf1⟩; have hF := H.out.hand hk hb hs ht1 hg1 hf1; obtain ⟨v2, k2, hv2, f2⟩ := hF.at_ hk; simp only at hv2; rw [getD_set (by rw [H.out.la]; omega)] at hv2; obtain ⟨b3, rfl, hb3⟩ := hv2; have q1 := stack_eq hF.stk hb3 hb; rw [beq_self_eq_true] at q1; have hfo : Foot W.heap.size (fun i => i = ab ∨ i = tb ∨ i = g) W w1 := (Foot.set (g := fun i => i = ab ∨ i = tb ∨ i = g) (p := ⟨ab, k, none⟩) (Foot.refl W.heap.size _ W) (.inr (.inl rfl)) (.pointer (some ⟨b, 0, none⟩))).trans (hf1.mono (by simp) fun i _ e => .inr e); have HF := Lib.hid hF; have hg2 : g' = g ∨ W.heap.size ≤ g' := (by simpa using hg1); clear hF ht1 hf1 hg1 hb3)
    go_ret
    exact ⟨rfl, ⟨g', cap', HF.out, hg2⟩, hfo⟩
  | some t =>
    rw [hat] at hv
    obtain ⟨b2, rfl, hb2⟩ := hv
    have q1 := stack_eq h.stk hb2 hb
    clear h hat
    simp only
    go_wp2_with fail
    go_ret
    exact ⟨rfl, ⟨g, cap, H.out, .inl rfl⟩, Foot.refl _ _ _⟩
end Go.Proofs.YtdjbkppdppdcgaaGreatDoor

namespace Go.Proofs.YtdjbkppdppdcgaaGreatDoor
open Go.RowKit

def fitsR : Option Int → Int
  | none => -1
  | some k => k
def fnV (x : Cf × Fv) : Value := .agg #[.string x.1.name, .int .i64 x.1.params, .int .i64 x.1.slots, .slice x.2.ta x.1.taken.length x.2.tc, .int .i64 x.1.around, .slice x.2.ca x.1.code.length x.2.cc]
theorem ptrInfo : (Tryz.prog.info? 105).map (fun i => (i.zero, i.size, i.bytes)) = some (some (.pointer none), 1, 8) := by kernel_rfl
theorem make_at (n : Nat) (hn : n ≤ 100000) (w : World) : (Instr.makeSlice 104 (.int .i64 ((n : Int) + 1)) (.int .i64 ((n : Int) + 1))).run Tryz.prog w = .ok (.slice (some ⟨w.heap.size, 0, none⟩) (n + 1) (n + 1)) (w.alloc (.cells (List.replicate (n + 1) (Value.pointer none)).toArray 105 (0, 0))) := by
  obtain ⟨i, hi, hz0, hz1, hz2⟩ := info_parts ptrInfo
  have := run_make (P := Tryz.prog) w 104 105 i _ Tryz.underlying104 hi hz0 .i64 .i64 ((n : Int) + 1) ((n : Int) + 1) (by omega) (by omega) (by rw [hz2]; omega) (by omega)
  rw [this, hz1, Nat.mul_one, show ((n : Int) + 1).toNat = n + 1 by omega]
  have e := toList_madeCells_one (Value.pointer none) (n + 1)
  rw [← e]
  rfl
theorem make_ints (n : Nat) (hn : n ≤ 100000) (w : World) : (Instr.makeSlice 30 (.int .i64 (n : Int)) (.int .i64 (n : Int))).run Tryz.prog w = .ok (.slice (some ⟨w.heap.size, 0, none⟩) n n) (w.alloc (.cells (List.replicate n (Value.int .i64 0)).toArray 3 (0, 0))) := by
  obtain ⟨i, hi, hz0, hz1, hz2⟩ := info_parts intInfo
  have := run_make (P := Tryz.prog) w 30 3 i _ Tryz.underlying30 hi hz0 .i64 .i64 (n : Int) (n : Int) (by omega) (by omega) (by rw [hz2]; omega) (by omega)
  rw [this, hz1, Nat.mul_one, Int.toNat_natCast]
  have e := toList_madeCells_one (Value.int .i64 0) n
  rw [← e]
  rfl

theorem allocs6 (w : World) (o0 o1 o2 o3 o4 o5 : Obj) :
    let W := (((((w.alloc o0).alloc o1).alloc o2).alloc o3).alloc o4).alloc o5
    W.heap[w.heap.size]? = some o0 ∧ W.heap[w.heap.size + 1]? = some o1 ∧ W.heap[w.heap.size + 1 + 1]? = some o2 ∧ W.heap[w.heap.size + 1 + 1 + 1]? = some o3 ∧ W.heap[w.heap.size + 1 + 1 + 1 + 1]? = some o4 ∧ W.heap[w.heap.size + 1 + 1 + 1 + 1 + 1]? = some o5 ∧ W.heap.size = w.heap.size + 6 ∧ Below (w.heap.size + 1) (w.alloc o0) W := by
  intro W
  have e : ∀ (w : World) (o : Obj), (w.alloc o).heap = w.heap.push o := fun _ _ => rfl
  have hW : W.heap = (((((w.heap.push o0).push o1).push o2).push o3).push o4).push o5 := rfl
  refine ⟨?_, ?_, ?_, ?_, ?_, ?_, ?_, ?_⟩
  · rw [hW]; simp [Array.getElem_push, Nat.add_assoc]
  · rw [hW]; simp [Array.getElem_push, Nat.add_assoc]
  · rw [hW]; simp [Array.getElem_push, Nat.add_assoc]
  · rw [hW]; simp [Array.getElem_push, Nat.add_assoc]
  · rw [hW]; simp [Array.getElem_push, Nat.add_assoc]
  · rw [hW]; simp [Array.getElem_push, Nat.add_assoc]
  · rw [hW]; simp only [Array.size_push]
  · have h1 := (Below.refl (w.heap.size + 1) (w.alloc o0)).alloc (by simp) o1
    have h2 := h1.alloc (by simp) o2
    have h3 := h2.alloc (by simp) o3
    have h4 := h3.alloc (by simp) o4
    exact h4.alloc (by simp) o5
theorem FtAt.begin (w : World) (o0 : Obj) (n : Nat) (_h0 : 0 < n) :
    FtAt (w.alloc o0) (w.heap.size + 1) (w.heap.size + 1 + 1) (w.heap.size + 1 + 1 + 1 + 1) n (w.heap.size + 1 + 1 + 1) 1 [(w.heap.size + 1 + 1 + 1 + 1 + 1, [])] ⟨some [] :: List.replicate n none, List.replicate n false, [0]⟩
      ((((((w.alloc o0).alloc (.cells ((Array.replicate (n + 1) (Value.pointer none)).setIfInBounds 0 (.pointer (some ⟨w.heap.size + 1 + 1 + 1 + 1 + 1, 0, none⟩))) 105 (0, 0))).alloc (.cells (Array.replicate n (Value.int .i64 0)) 3 (0, 0))).alloc (.cells #[.int .i64 0] 3 (0, 0))).alloc (.cells #[.slice (some ⟨w.heap.size + 1 + 1 + 1, 0, none⟩) 1 1] 30 (0, 0))).alloc
        (.cells #[.int .u8 0, .pointer none, .int .i64 0, .pointer none, .pointer none, .pointer none] 108 (0, 0))) := by
  have hA := allocs6 w o0 (.cells ((Array.replicate (n + 1) (Value.pointer none)).setIfInBounds 0 (.pointer (some ⟨w.heap.size + 1 + 1 + 1 + 1 + 1, 0, none⟩))) 105 (0, 0)) (.cells (Array.replicate n (Value.int .i64 0)) 3 (0, 0)) (.cells #[.int .i64 0] 3 (0, 0)) (.cells #[.slice (some ⟨w.heap.size + 1 + 1 + 1, 0, none⟩) 1 1] 30 (0, 0)) (.cells #[.int .u8 0, .pointer none, .int .i64 0, .pointer none, .pointer none, .pointer none] 108 (0, 0))
  dsimp only at hA
  obtain ⟨W, hW⟩ : ∃ W, (((((w.alloc o0).alloc (.cells ((Array.replicate (n + 1) (Value.pointer none)).setIfInBounds 0 (.pointer (some ⟨w.heap.size + 1 + 1 + 1 + 1 + 1, 0, none⟩))) 105 (0, 0))).alloc (.cells (Array.replicate n (Value.int .i64 0)) 3 (0, 0))).alloc (.cells #[.int .i64 0] 3 (0, 0))).alloc (.cells #[.slice (some ⟨w.heap.size + 1 + 1 + 1, 0, none⟩) 1 1] 30 (0, 0))).alloc
        (.cells #[.int .u8 0, .pointer none, .int .i64 0, .pointer none, .pointer none, .pointer none] 108 (0, 0)) = W := ⟨_, rfl⟩
  rw [hW] at hA ⊢
  obtain ⟨_, a1, a2, a3, a4, a5, hsz, hb⟩ := hA
  have hs0 : (w.alloc o0).heap.size = w.heap.size + 1 := by simp
  refine ⟨by rw [hs0]; exact hb, ⟨?_, ?_, ?_⟩, ⟨(List.replicate (n + 1) (Value.pointer none)).set 0 (.pointer (some ⟨w.heap.size + 1 + 1 + 1 + 1 + 1, 0, none⟩)), by rw [a1, ← List.setIfInBounds_toArray, List.toArray_replicate], by simp, fun j hj => ?_⟩, by rw [a2]; simp [seenV], ⟨a4, ⟨by simp [rowI], .inr ⟨_, _, _, rfl, Nat.zero_le _, a3, by simp, by decide, by simp, by simp [rowI]⟩⟩, by omega, by rw [hs0]; omega⟩, by simp, by simp, by rw [hs0]; omega, by omega, fun s => ?_, fun j s => ?_⟩
  · intro b s hb2
    rw [List.mem_singleton] at hb2
    injection hb2 with e1 e2
    subst e1
    subst e2
    refine ⟨by rw [hs0]; omega, by rw [hsz]; omega, .pointer none, .pointer none, .pointer none, .pointer none, by rw [a5]; rfl, rfl, ?_, ?_, ?_⟩ <;>
    · refine .inl ⟨rfl, fun b hb3 => ?_⟩
      rw [List.mem_singleton] at hb3
      injection hb3 with _ e
      cases e
  · intro b b' s h1 h2
    rw [List.mem_singleton] at h1 h2
    injection h1 with e1 _
    injection h2 with e2 _
    rw [e1, e2]
  · intro b s s' h1 h2
    rw [List.mem_singleton] at h1 h2
    injection h1 with _ e1
    injection h2 with _ e2
    rw [e1, e2]
  · cases j with
    | zero => exact ⟨_, by rw [List.getElem?_set_self (by simp)], _, rfl, List.mem_singleton.2 rfl⟩
    | succ j =>
      refine ⟨.pointer none, by rw [List.getElem?_set_ne (by omega), List.getElem?_replicate, if_pos (by omega)], ?_⟩
      simp only [List.getD_cons_succ]
      rw [List.getD_eq_getElem?_getD, List.getElem?_replicate]
      split <;> exact rfl
  · simp
  · intro h
    cases j with
    | zero =>
      simp only [List.getD_cons_zero, Option.some.injEq] at h
      rw [← h]; exact Nat.zero_le _
    | succ j =>
      simp only [List.getD_cons_succ] at h
      rw [List.getD_eq_getElem?_getD, List.getElem?_replicate] at h
      split at h <;> cases h
section
variable {w0 W W' : World} {ab sb tb n g cap : Nat} {T : Tab} {c : Cst}
theorem FtAt.alloc (h : FtAt w0 ab sb tb n g cap T c W) (o : Obj) : FtAt w0 ab sb tb n g cap T c (W.alloc o) :=
  h.more (h.stk.keep fun b s hb => heap_alloc_old W o (h.stk.node b s hb).2.1) (fun _ h => h) (fun _ h => .inl h) (Foot.of ((Below.refl _ W).alloc (Nat.le_refl _) o))
theorem FtAt.under (h : FtAt w0 ab sb tb n g cap T c W) (hb : Below W.heap.size W W') : FtAt w0 ab sb tb n g cap T c W' :=
  h.more (h.stk.keep fun b s hb2 => hb.block b (h.stk.node b s hb2).2.1) (fun _ h => h) (fun _ h => .inl h) (Foot.of hb)
theorem FtAt.drewN (h : FtAt w0 ab sb tb n g cap T c W) (k : Nat) : FtAt w0 ab sb tb n g cap T c (W.drewN k) := h.under ⟨rfl, rfl, rfl, Nat.le_refl _, fun _ _ => rfl⟩
/-- The least one is taken out. -/
theorem FtAt.pop (h : FtAt w0 ab sb tb n g cap T c W) (ht : TodoAt w0.heap.size tb g cap (popL c.todo).2 W') (hf : Foot W.heap.size (fun k => k = tb ∨ k = g) W W') : FtAt w0 ab sb tb n g cap T { c with todo := (popL c.todo).2 } W' := by
  obtain ⟨l1, l2, l3, l4⟩ := h.alt
  obtain ⟨vs, h1, h2, h3⟩ := h.atr
  obtain ⟨n1, n2, n3, n4, n5⟩ := h.ne
  have hn' := h.nn
  have hk : ∀ k, k < W.heap.size → k ≠ tb → k ≠ g → W'.heap[k]? = W.heap[k]? := fun k hk e1 e2 => hf.block k hk (by rintro (e | e); exact e1 e; exact e2 e)
  have hlo := h.lo
  have hlg := h.todo.lo
  exact ⟨h.below.trans (hf.to (C := w0.heap.size) h.below.size (by rintro k (e | e) <;> omega)), h.stk.keep fun b s hb => hk b (h.stk.node b s hb).2.1 (fun e => (hn' s).2.2.1 (e ▸ hb)) (fun e => (hn' s).2.2.2 (e ▸ hb)), ⟨vs, (hk ab l1 n2 n3).trans h1, h2, h3⟩, (hk sb l2 n4 n5).trans h.seen, ht, h.la, h.ls, h.lo, h.ne, h.nn, h.deep⟩
/-- An instruction is seen. -/
theorem FtAt.look (h : FtAt w0 ab sb tb n g cap T c W) {k : Nat} (_hk : k < n) : FtAt w0 ab sb tb n g cap T { c with seen := c.seen.set k true } (W.setCell ⟨sb, k, none⟩ (.int .i64 1)) := by
  obtain ⟨vs, h1, h2, h3⟩ := h.atr
  obtain ⟨n1, n2, n3, n4, n5⟩ := h.ne
  have hn' := h.nn
  have hk2 : ∀ i, i ≠ sb → (W.setCell ⟨sb, k, none⟩ (.int .i64 1)).heap[i]? = W.heap[i]? := fun i e => Below.heap_setCell W _ _ _ e
  have hlo := h.lo
  refine ⟨h.below.setCell (p := ⟨sb, k, none⟩) hlo.2.1 _, h.stk.keep fun b s hb => hk2 b (fun e => (hn' s).2.1 (e ▸ hb)), ⟨vs, (hk2 ab n1).trans h1, h2, h3⟩, ?_, h.todo.keep (hk2 tb (Ne.symm n4)) (hk2 g (Ne.symm n5)), h.la, by simp only [List.length_set]; exact h.ls, h.lo, h.ne, h.nn, h.deep⟩
  rw [heap_setCell_same W sb k _ _ _ h.seen]
  simp [List.map_set, seenV]
end
theorem lays_len : ∀ (l : List UInt8) (s : List UInt8) {s' : List UInt8}, laysP s l = some s' → s.length ≤ 30000 → s'.length ≤ 30000
  | [], s, s', h, hs => by
    rw [laysP] at h
    injection h with h
    rw [← h]; exact hs
  | c :: r, s, s', h, hs => by
    rw [laysP] at h
    split at h
    · cases h
    · exact lays_len r (c :: s) h (by simp only [List.length_cons]; omega)
theorem takes_len : ∀ (l : List UInt8) (s : List UInt8) {s' : List UInt8}, takesP s l = some s' → s'.length ≤ s.length
  | [], s, s', h => by
    rw [takesP] at h
    injection h with h
    rw [← h]; exact Nat.le_refl _
  | c :: r, s, s', h => by
    rw [takesP] at h
    cases e : lessP s c 1 with
    | none => rw [e] at h; cases h
    | some s1 =>
      rw [e] at h
      exact Nat.le_trans (takes_len r s1 h) (less_len _ _ e)
theorem leaves_len {x : Ci} {s nx th : List UInt8} (h : leavesP x s = some (nx, th)) (hs : s.length ≤ 30000) : nx.length ≤ 30000 ∧ th.length ≤ 30000 := by
  unfold leavesP at h
  split at h
  · cases h
  · rename_i s1 e1
    have l1 := less_len _ _ e1
    split at h
    · cases h
    · rename_i s2 e2
      have l2 := takes_len _ _ e2
      split at h
      · cases h
      · rename_i s3 e3
        have l3 := lays_len _ _ e3 (by omega)
        simp only [Option.some.injEq, Prod.mk.injEq] at h
        obtain ⟨rfl, rfl⟩ := h
        refine ⟨l3, ?_⟩
        split
        · rename_i ho
          have e : takesP s1 [118] = some s2 := by
            rcases ho with ho | ho
            · rw [ho] at e2; exact e2
            · rw [ho] at e2; exact e2
          rw [takesP] at e
          cases e4 : lessP s1 118 1 with
          | none => rw [e4] at e; cases e
          | some s4 =>
            rw [e4] at e
            dsimp only at e
            rw [takesP] at e
            injection e with e
            subst e
            cases s1 with
            | nil => rw [lessP] at e4; cases e4
            | cons t r =>
              rw [lessP] at e4
              split at e4
              · rw [lessP] at e4
                injection e4 with e4
                subst e4
                simp only [List.length_cons] at l1 ⊢
                omega
              · cases e4
        · omega
theorem round_eq {code : List Ci} {c : Cst} {k : Nat} {x : Ci} {s : List UInt8} (hx : code[k]? = some x) (hs : c.at_.getD k none = some s) : roundP code c k = match leavesP x s with
    | none => (some (k : Int), c)
    | some (nx, th) =>
      let h1 := if x.op = 34 ∨ x.op = 50 then (c, true) else handP c (k + 1) nx
      if h1.2 = false then (some ((k : Int) + 1), h1.1) else
      let h2 := if goesB x.op then handP h1.1 x.a.toNat th else (h1.1, true)
      if h2.2 = false then (some x.a, h2.1) else (none, h2.1) := by
  unfold roundP
  rw [hx, hs]
  rfl
end Go.Proofs.YtdjbkppdppdcgaaGreatDoor
