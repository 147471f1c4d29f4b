/- ParseBlanks, at every text, number and choice of blank, by contracts of known and reads. ParseBlanks, at every text, number and choice of blank. -/
import Derived.BigQuiet
import Derived.Deep.DeepCutAuto
import Derived.Deep.CutBlock
import Derived.Deep.LoopGhost
import Derived.Test.YtokhfhibdeneeaaGreatDoorMPbB
import Derived.Test.YtokhfhibdeneeaaGreatDoorMSame
import Derived.Test.YtokhfhibdeneeaaGreatDoorMScanD
import Derived.Test.YtokhfhibdeneeaaGreatDoorMQaF
namespace Go.Proofs.YtokhfhibdeneeaaGreatDoor
open Go.RowKit

theorem isWrong (p : Value) (w : World) : Sem.run Tryz.prog (Instr.typeAssert (.iface 43 p) 27 43 true) w = .ok (.tuple #[p, .bool true]) w := by kernel_rfl
theorem isWrongNil (w : World) : Sem.run Tryz.prog (Instr.typeAssert .nilIface 27 43 true) w = .ok (.tuple #[.pointer none, .bool false]) w := by kernel_rfl
theorem cut_two (l : List UInt8) (c : Nat) (b : UInt8) (_hc : c ≤ l.length) : (⟨⟨l⟩⟩ : ByteArray).extract 0 c ++ ⟨#[b, b]⟩ ++ (⟨⟨l⟩⟩ : ByteArray).extract c l.length = ⟨⟨l.take c ++ b :: b :: l.drop c⟩⟩ := by
  apply ByteArray.ext
  simp [ByteArray.data_extract]
  rw [List.take_of_length_le (by simp)]

set_option maxRecDepth 100000 in
set_option maxHeartbeats 4000000 in
theorem ParseBlanks_of (hknown : ∀ w, Gl w → Calls Tryz.prog 7 #[] w fun e w' => e = .returned (.bool true) ∧ Below w.heap.size w w')
    (hreads : ∀ (k : Nat), k < 3 → ∀ (l : List UInt8) (w : World), Gl w → l.length ≤ 140737488351232 → Calls Tryz.prog 8 #[.int .i64 k, .string ⟨⟨l⟩⟩] w (OutPost w (parseT k l)))
    (l : List UInt8) (c : Int) (tb : Bool) (w : World) (hgl : Gl w) (hl : l.length ≤ 140737488351232) (hc : okI c) :
    Calls Tryz.prog 5 #[.string ⟨⟨l⟩⟩, .int .i64 c, .bool tb] w fun e w' => e = .returned (.bool true) ∧ Below w.heap.size w w' := by
  have hta := isWrong
  have htn := isWrongNil
  have HG := Lib.hid hgl
  have hkn := hknown w hgl
  have HRE := Lib.hid hreads
  clear hgl hknown hreads
  cases hs : scanT l with
  | bad ec a =>
    go_enter Tryz.func5, Tryz.ntmps5
    go_wp2_with (first
      | (go_at_call 7; refine hkn.mono ?_; rintro e wa ⟨rfl, hba⟩; have hsc := Scan_any l wa (HG.out.up hba) hl; rw [hs] at hsc; have HSC := Lib.hid hsc; clear hsc)
      | (go_at_call 14; refine HSC.out.mono ?_; rintro e wb ⟨hbb, h⟩; obtain ⟨c', a', eb, hq, rfl, heb, hea⟩ := h.resolve_left (by rintro ⟨_, _, h, _⟩; cases h); clear h hq heb hea))
    go_ret
    exact ⟨rfl, hba.trans (hbb.mono hba.size)⟩
  | ok ts =>
    have HSK := Lib.hid hs
    by_cases h0 : ts.length = 0
    · have hd0 : ((ts.length : Int) == 0) = true := by rw [h0]; rfl
      go_enter Tryz.func5, Tryz.ntmps5
      go_wp2_with (first
        | (go_at_call 7; refine hkn.mono ?_; rintro e wa ⟨rfl, hba⟩; have hsc := Scan_any l wa (HG.out.up hba) hl; rw [hs] at hsc; have HSC := Lib.hid hsc; clear hsc)
        | (go_at_call 14; refine HSC.out.mono ?_; rintro e wb ⟨hbb, h⟩; obtain ⟨ts', v, hq, rfl, ho⟩ := h.resolve_right (by rintro ⟨_, _, _, h, _⟩; cases h); obtain rfl := Rd.ok.inj hq; obtain ⟨A, cap, rfl, hcl, hcm⟩ := row_form ho; have HB := Lib.hid (And.intro ho (hba.trans (hbb.mono hba.size))); clear h hq ho))
      go_ret
      exact ⟨rfl, HB.out.2⟩
    by_cases hbig : (59996 : Int) < l.length
    · have hd0 : ((ts.length : Int) == 0) = false := by simp only [beq_eq_false_iff_ne, ne_eq]; omega
      have hd1 : decide ((59996 : Int) < (l.length : Int)) = true := decide_eq_true hbig
      go_enter Tryz.func5, Tryz.ntmps5
      go_wp2_with (first
        | (go_at_call 7; refine hkn.mono ?_; rintro e wa ⟨rfl, hba⟩; have hsc := Scan_any l wa (HG.out.up hba) hl; rw [hs] at hsc; have HSC := Lib.hid hsc; clear hsc)
        | (go_at_call 14; refine HSC.out.mono ?_; rintro e wb ⟨hbb, h⟩; obtain ⟨ts', v, hq, rfl, ho⟩ := h.resolve_right (by rintro ⟨_, _, _, h, _⟩; cases h); obtain rfl := Rd.ok.inj hq; obtain ⟨A, cap, rfl, hcl, hcm⟩ := row_form ho; have HB := Lib.hid (And.intro ho (hba.trans (hbb.mono hba.size))); clear h hq ho))
      go_ret
      exact ⟨rfl, HB.out.2⟩
    have hd0 : ((ts.length : Int) == 0) = false := by simp only [beq_eq_false_iff_ne, ne_eq]; omega
    have hd1 : decide ((59996 : Int) < (l.length : Int)) = false := decide_eq_false hbig
    have hpk := fun W => pick3_any c ts.length W hc (by omega) (by have h1 := (scanT_ok HSK.out).1; have h2 := (scanT_ok HSK.out).2.1; omega)
    have HPK := Lib.hid hpk
    clear hpk
    go_enter Tryz.func5, Tryz.ntmps5
    go_upto_region 5 with (first
      | (go_at_call 7; refine hkn.mono ?_; rintro e wa ⟨rfl, hba⟩; have hsc := Scan_any l wa (HG.out.up hba) hl; rw [hs] at hsc; have HSC := Lib.hid hsc; clear hsc)
      | (go_at_call 14; refine HSC.out.mono ?_; rintro e wb ⟨hbb, h⟩; obtain ⟨ts', v, hq, rfl, ho⟩ := h.resolve_right (by rintro ⟨_, _, _, h, _⟩; cases h); obtain rfl := Rd.ok.inj hq; obtain ⟨A, cap, rfl, hcl, hcm⟩ := row_form ho; have HB := Lib.hid (And.intro ho (hba.trans (hbb.mono hba.size))); clear h hq ho))
    obtain ⟨tb', rfl, htb1, htb2⟩ := row_some HB.out.1 (by omega)
    have hcell : ∀ (r : Nat) (t : Tok), ts[r]? = some t → wb.cell? ⟨tb', r * 3 + 2, none⟩ = some (.int .i64 t.at_) := fun r t ht => by
      have := HB.out.1.cells (g := tb') rfl (r * 3 + 2) (.int .i64 t.at_) (by rw [tokCells_at ht 2 (by decide)]; rfl)
      rw [show ((⟨tb', 0, none⟩ : Addr).add (r * 3 + 2)) = ⟨tb', r * 3 + 2, none⟩ by simp [Addr.add]] at this
      exact this
    have HCE := Lib.hid hcell
    clear hcell
    go_upto_if 63 with (go_at_call 15; refine (HPK.out _).mono ?_; rintro e wc ⟨r, rfl, hr, rfl⟩; obtain ⟨tk, htk⟩ : ∃ tk, ts[r]? = some tk := ⟨_, List.getElem?_eq_getElem (by omega)⟩; have hat := HCE.out r tk htk; have HTK := Lib.hid htk; have hle := ((scanT_ok HSK.out).2.2.1 tk (List.mem_of_getElem? htk)).2; have hd2 : decide ((tk.at_ : Int) < 0) = false := decide_eq_false (by omega); have hd3 : decide (l.length < tk.at_) = false := decide_eq_false (by omega); clear htk)
    all_goals (try (exfalso; omega; done))
    go_cut [11] from 64 to 64 (fun s11 wx => ∃ b : UInt8, (b = 32 ∨ b = 9) ∧ s11 = .string ⟨#[b, b]⟩ ∧ wx = wc)
    case first =>
      cases tb with
      | true =>
        go_wp2_with fail
        go_meet
        case rel => exact ⟨9, .inr rfl, rfl, rfl⟩
      | false =>
        go_wp2_with fail
        go_meet
        case rel => exact ⟨32, .inl rfl, rfl, rfl⟩
    case rest =>
      obtain ⟨b, hb, rfl, rfl⟩ := hcut
      go_wp2_with fail
      go_quiet (fail)
      all_goals (try (exfalso; have h60 := (scanT_ok HSK.out).1; omega; done))
      obtain ⟨L2, HL2⟩ : ∃ L2, Hid (l.take tk.at_ ++ b :: b :: l.drop tk.at_ = L2) := ⟨_, rfl⟩
      rw [cut_two l tk.at_ b hle, HL2.out]
      have hl60 : l.length + 2 ≤ 60000 := by omega
      have hl2 : L2.length ≤ 140737488351232 := by rw [← HL2.out]; simp only [List.length_append, List.length_take, List.length_cons, List.length_drop]; omega
      have HLAW := Lib.hid (fun k => (parse_blank hb HSK.out HTK.out hl60 k).2)
      rw [HL2.out] at HLAW
      go_wp2_with fail
      go_loopg [13] 3 (fun f kd wr => ∃ k : Nat, k + f = 3 ∧ kd = .int .i64 k ∧ Below wc.heap.size wc wr)
      case atStart => exact ⟨0, rfl, rfl, belowN _ nq⟩
      case round =>
        obtain ⟨k, hk, rfl, hbr⟩ := hrel
        by_cases hk3 : k = 3
        · subst hk3
          go_wp2_with fail
          go_ret
          exact ⟨rfl, HB.out.2.trans (hbr.mono HB.out.2.size)⟩
        have hk' : k < 3 := by omega
        have hd4 : decide ((k : Int) < 3) = true := decide_eq_true (by omega)
        have HBR := Lib.hid (HB.out.2.trans (hbr.mono HB.out.2.size))
        obtain ⟨R, HR⟩ : ∃ R, Hid (parseT k l = R) := ⟨_, rfl⟩
        obtain ⟨R2, HR2⟩ : ∃ R2, Hid (parseT k L2 = R2) := ⟨_, rfl⟩
        have hlaw := HLAW.out k
        rw [HR.out, HR2.out] at hlaw
        have HC1 := Lib.hid (HRE.out k hk' l wr (HG.out.up HBR.out) hl)
        rw [HR.out] at HC1
        have HC2 := Lib.hid (fun W hW => HRE.out k hk' L2 W hW hl2)
        rw [HR2.out] at HC2
        cases R with
        | tree t =>
          cases R2 with
          | wrong e a nm => exact hlaw.elim
          | tree t2 =>
            have hsame := right_Same (parse_right HR.out) hlaw
            obtain ⟨k1, s1, n1, a1, ks1⟩ := t
            obtain ⟨k2, s2, n2, a2, ks2⟩ := t2
            go_upto_region 16 with (go_at_call 8; refine HC1.out.mono ?_; rintro e w1 ⟨hb1, v, rfl, hv⟩; obtain ⟨A1, cap1, rfl⟩ : ∃ A cap, v = .agg #[.int .i64 k1, .string s1, .int .i64 n1, .int .i64 a1, .slice A ks1.length cap] := (by have h := hv; unfold LiesA at h; obtain ⟨A, cap, h, _⟩ := h; exact ⟨A, cap, h⟩); have HV := Lib.hid hv; clear hv)
            have hv1 : LiesA (w1.alloc (.cells #[.int .i64 k1, .string s1, .int .i64 n1, .int .i64 a1, .slice A1 ks1.length cap1] 25)) wr.heap.size w1.heap.size (.mk k1 s1 n1 a1 ks1) (.agg #[.int .i64 k1, .string s1, .int .i64 n1, .int .i64 a1, .slice A1 ks1.length cap1]) :=
              HV.out.keep (fun b _ hb => ((Below.refl w1.heap.size w1).alloc (Nat.le_refl _) _).block b hb) (Nat.le_refl _) (Nat.le_refl _)
            have hbx := hbr.trans ((hb1.trans (((Below.refl w1.heap.size w1).alloc (Nat.le_refl _) (.cells #[.int .i64 k1, .string s1, .int .i64 n1, .int .i64 a1, .slice A1 ks1.length cap1] 25)).mono hb1.size)).mono hbr.size)
            have hg1 := heap_alloc_new w1 (.cells #[.int .i64 k1, .string s1, .int .i64 n1, .int .i64 a1, .slice A1 ks1.length cap1] 25)
            obtain ⟨X1, hX1⟩ : ∃ X1, w1.alloc (.cells #[.int .i64 k1, .string s1, .int .i64 n1, .int .i64 a1, .slice A1 ks1.length cap1] 25) = X1 := ⟨_, rfl⟩
            have hs1 : X1.heap.size = w1.heap.size + 1 := by rw [← hX1]; exact World.size_alloc _ _
            rw [hX1] at hv1 hbx hg1 ⊢
            have H1 := Lib.hid (And.intro hv1 (And.intro hbx (And.intro hg1 hs1)))
            clear hv1 hbx hg1 hX1 hs1 HV
            go_upto_region 17 with (go_at_call 8; refine (HC2.out _ (HG.out.up (HB.out.2.trans (H1.out.2.1.mono HB.out.2.size)))).mono ?_; rintro e w2 ⟨hb2, v, rfl, hv⟩; obtain ⟨A2, cap2, rfl⟩ : ∃ A cap, v = .agg #[.int .i64 k2, .string s2, .int .i64 n2, .int .i64 a2, .slice A ks2.length cap] := (by have h := hv; unfold LiesA at h; obtain ⟨A, cap, h, _⟩ := h; exact ⟨A, cap, h⟩); have HV2 := Lib.hid hv; clear hv)
            have hg2 := heap_alloc_new w2 (.cells #[.int .i64 k2, .string s2, .int .i64 n2, .int .i64 a2, .slice A2 ks2.length cap2] 25)
            have hby : Below X1.heap.size X1 (w2.alloc (.cells #[.int .i64 k2, .string s2, .int .i64 n2, .int .i64 a2, .slice A2 ks2.length cap2] 25)) := hb2.trans (((Below.refl w2.heap.size w2).alloc (Nat.le_refl _) _).mono hb2.size)
            have hv2 : LiesA (w2.alloc (.cells #[.int .i64 k2, .string s2, .int .i64 n2, .int .i64 a2, .slice A2 ks2.length cap2] 25)) X1.heap.size (w2.alloc (.cells #[.int .i64 k2, .string s2, .int .i64 n2, .int .i64 a2, .slice A2 ks2.length cap2] 25)).heap.size (.mk k2 s2 n2 a2 ks2) (.agg #[.int .i64 k2, .string s2, .int .i64 n2, .int .i64 a2, .slice A2 ks2.length cap2]) :=
              HV2.out.keep (fun b _ hb => ((Below.refl w2.heap.size w2).alloc (Nat.le_refl _) _).block b hb) (Nat.le_refl _) (by rw [World.size_alloc]; omega)
            obtain ⟨X2, hX2⟩ : ∃ X2, w2.alloc (.cells #[.int .i64 k2, .string s2, .int .i64 n2, .int .i64 a2, .slice A2 ks2.length cap2] 25) = X2 := ⟨_, rfl⟩
            rw [hX2] at hv2 hby hg2 ⊢
            have hsz := hby.size
            have hsz1 := H1.out.2.2.2
            have hv1 : LiesA X2 wr.heap.size X2.heap.size (.mk k1 s1 n1 a1 ks1) (.agg #[.int .i64 k1, .string s1, .int .i64 n1, .int .i64 a1, .slice A1 ks1.length cap1]) :=
              H1.out.1.keep (fun b _ hb => hby.block b (by omega)) (Nat.le_refl _) (by omega)
            have hg1 := (hby.block w1.heap.size (by omega)).trans H1.out.2.2.1
            have HSM := Lib.hid (Same_any _ _ _ _ X2 hv1.lies hv2.lies)
            rw [hsame] at HSM
            have c0 := cell_of_row X2 w1.heap.size 0 _ _ _ hg1
            have c1 := cell_of_row X2 w1.heap.size 1 _ _ _ hg1
            have c2 := cell_of_row X2 w1.heap.size 2 _ _ _ hg1
            have c3 := cell_of_row X2 w1.heap.size 3 _ _ _ hg1
            have c4 := cell_of_row X2 w1.heap.size 4 _ _ _ hg1
            have d0 := cell_of_row X2 w2.heap.size 0 _ _ _ hg2
            have d1 := cell_of_row X2 w2.heap.size 1 _ _ _ hg2
            have d2 := cell_of_row X2 w2.heap.size 2 _ _ _ hg2
            have d3 := cell_of_row X2 w2.heap.size 3 _ _ _ hg2
            have d4 := cell_of_row X2 w2.heap.size 4 _ _ _ hg2
            simp only [List.getElem?_toArray, List.getElem?_cons_zero, List.getElem?_cons_succ] at c0 c1 c2 c3 c4 d0 d1 d2 d3 d4
            have H2 := Lib.hid (H1.out.2.1.trans (hby.mono H1.out.2.1.size))
            clear hv1 hv2 hg1 hg2 hby hX2 HV2 hsz hsz1
            go_upto_region 18 with (go_at_call 16; refine HSM.out.mono ?_; rintro e w3 ⟨rfl, hb3⟩)
            have HB3 := Lib.hid hb3
            clear hb3 c0 c1 c2 c3 c4 d0 d1 d2 d3 d4
            go_wp2_with fail
            go_quiet (fail)
            go_wp2_with fail
            cases gk with
            | zero => exact absurd hk (by omega)
            | succ g =>
            go_roundg g
            case measure => omega
            case rel => exact ⟨k + 1, by omega, by go_num, H2.out.trans ((HB3.out.trans ((belowN _ nq).mono HB3.out.size)).mono H2.out.size)⟩
        | wrong e a nm =>
          cases R2 with
          | tree t => exact hlaw.elim
          | wrong e2 a2 nm2 =>
            obtain ⟨he, ha2, hnm⟩ := hlaw
            rw [he, ha2, hnm] at HC2
            have hab := wrong_at HSK.out HR.out
            have hz : ∀ X : World, Lies X X.heap.size (.mk 0 ⟨#[]⟩ 0 0 []) (.agg #[.int .i64 0, .string ⟨#[]⟩, .int .i64 0, .int .i64 0, .slice none 0 0]) := fun X => by
              unfold Lies
              exact ⟨none, 0, rfl, ok_lit, ok_lit, ok_lit, Nat.zero_le _, Nat.le_refl _, by decide, .inl rfl⟩
            have HSM := Lib.hid (fun X => Same_any _ _ _ _ X (hz X) (hz X))
            rw [zero_Same] at HSM
            clear hz he ha2 hnm
            go_upto_region 16 with (go_at_call 8; refine HC1.out.mono ?_; rintro e' w1 ⟨hb1, b1, rfl, hb1l, hww1⟩; unfold zeroNdV; have HW1 := Lib.hid hww1; clear hww1)
            have hlt1 : b1 < w1.heap.size := World.block_lt_of_cell? w1 _ HW1.out.1
            have hww1 := wrongAt_block HW1.out (((Below.refl w1.heap.size w1).alloc (Nat.le_refl _) (.cells #[.int .i64 0, .string ⟨#[]⟩, .int .i64 0, .int .i64 0, .slice none 0 0] 25)).block b1 hlt1)
            have hbx := hbr.trans ((hb1.trans (((Below.refl w1.heap.size w1).alloc (Nat.le_refl _) (.cells #[.int .i64 0, .string ⟨#[]⟩, .int .i64 0, .int .i64 0, .slice none 0 0] 25)).mono hb1.size)).mono hbr.size)
            have hg1 := heap_alloc_new w1 (.cells #[.int .i64 0, .string ⟨#[]⟩, .int .i64 0, .int .i64 0, .slice none 0 0] 25)
            obtain ⟨X1, hX1⟩ : ∃ X1, w1.alloc (.cells #[.int .i64 0, .string ⟨#[]⟩, .int .i64 0, .int .i64 0, .slice none 0 0] 25) = X1 := ⟨_, rfl⟩
            have hs1 : X1.heap.size = w1.heap.size + 1 := by rw [← hX1]; exact World.size_alloc _ _
            rw [hX1] at hww1 hbx hg1 ⊢
            have H1 := Lib.hid (And.intro hww1 (And.intro hbx (And.intro hg1 (And.intro hs1 hlt1))))
            clear hww1 hbx hg1 hX1 hs1 hlt1 HW1 hb1l
            go_upto_region 17 with (go_at_call 8; refine (HC2.out _ (HG.out.up (HB.out.2.trans (H1.out.2.1.mono HB.out.2.size)))).mono ?_; rintro e' w2 ⟨hb2, b2, rfl, hb2l, hww2⟩; unfold zeroNdV; have HW2 := Lib.hid hww2; clear hww2)
            have hlt2 : b2 < w2.heap.size := World.block_lt_of_cell? w2 _ HW2.out.1
            have hww2 := wrongAt_block HW2.out (((Below.refl w2.heap.size w2).alloc (Nat.le_refl _) (.cells #[.int .i64 0, .string ⟨#[]⟩, .int .i64 0, .int .i64 0, .slice none 0 0] 25)).block b2 hlt2)
            have hby : Below X1.heap.size X1 (w2.alloc (.cells #[.int .i64 0, .string ⟨#[]⟩, .int .i64 0, .int .i64 0, .slice none 0 0] 25)) := hb2.trans (((Below.refl w2.heap.size w2).alloc (Nat.le_refl _) _).mono hb2.size)
            have hg2 := heap_alloc_new w2 (.cells #[.int .i64 0, .string ⟨#[]⟩, .int .i64 0, .int .i64 0, .slice none 0 0] 25)
            obtain ⟨X2, hX2⟩ : ∃ X2, w2.alloc (.cells #[.int .i64 0, .string ⟨#[]⟩, .int .i64 0, .int .i64 0, .slice none 0 0] 25) = X2 := ⟨_, rfl⟩
            have hs2' : X2.heap.size = w2.heap.size + 1 := by rw [← hX2]; exact World.size_alloc _ _
            rw [hX2] at hww2 hby hg2 ⊢
            have hsz1 := H1.out.2.2.2.1
            have hlt1 := H1.out.2.2.2.2
            have hg1 := (hby.block w1.heap.size (by omega)).trans H1.out.2.2.1
            have hww1 := wrongAt_block H1.out.1 (hby.block b1 (by omega))
            have c0 := cell_of_row X2 w1.heap.size 0 _ _ _ hg1
            have c1 := cell_of_row X2 w1.heap.size 1 _ _ _ hg1
            have c2 := cell_of_row X2 w1.heap.size 2 _ _ _ hg1
            have c3 := cell_of_row X2 w1.heap.size 3 _ _ _ hg1
            have c4 := cell_of_row X2 w1.heap.size 4 _ _ _ hg1
            have d0 := cell_of_row X2 w2.heap.size 0 _ _ _ hg2
            have d1 := cell_of_row X2 w2.heap.size 1 _ _ _ hg2
            have d2 := cell_of_row X2 w2.heap.size 2 _ _ _ hg2
            have d3 := cell_of_row X2 w2.heap.size 3 _ _ _ hg2
            have d4 := cell_of_row X2 w2.heap.size 4 _ _ _ hg2
            simp only [List.getElem?_toArray, List.getElem?_cons_zero, List.getElem?_cons_succ] at c0 c1 c2 c3 c4 d0 d1 d2 d3 d4
            have HWW := Lib.hid (And.intro hww1 (And.intro hww2 (And.intro (show b1 < X2.heap.size by have := hby.size; omega) (show b2 < X2.heap.size by omega))))
            have H2 := Lib.hid (H1.out.2.1.trans (hby.mono H1.out.2.1.size))
            clear hww1 hww2 hg1 hg2 hby hX2 HW2 hsz1 hlt1 hlt2 hs2' hb2l
            go_upto_region 18 with (go_at_call 16; refine (HSM.out _).mono ?_; rintro e' w3 ⟨rfl, hb3⟩)
            have hv1 := wrongAt_block HWW.out.1 (hb3.block b1 HWW.out.2.2.1)
            have hv2 := wrongAt_block HWW.out.2.1 (hb3.block b2 HWW.out.2.2.2)
            have q0 : ∀ n, (w3.drewN n).cell? ⟨b1, 0, none⟩ = _ := fun n => (World.cell?_of_block (w := w3) (w' := w3.drewN n) rfl).trans hv1.1
            have q1 : ∀ n, (w3.drewN n).cell? ⟨b1, 1, none⟩ = _ := fun n => (World.cell?_of_block (w := w3) (w' := w3.drewN n) rfl).trans hv1.2.1
            have q2 : ∀ n, (w3.drewN n).cell? ⟨b1, 2, none⟩ = _ := fun n => (World.cell?_of_block (w := w3) (w' := w3.drewN n) rfl).trans hv1.2.2.1
            have p0 : ∀ n, (w3.drewN n).cell? ⟨b2, 0, none⟩ = _ := fun n => (World.cell?_of_block (w := w3) (w' := w3.drewN n) rfl).trans hv2.1
            have p1 : ∀ n, (w3.drewN n).cell? ⟨b2, 1, none⟩ = _ := fun n => (World.cell?_of_block (w := w3) (w' := w3.drewN n) rfl).trans hv2.2.1
            have p2 : ∀ n, (w3.drewN n).cell? ⟨b2, 2, none⟩ = _ := fun n => (World.cell?_of_block (w := w3) (w' := w3.drewN n) rfl).trans hv2.2.2.1
            have HB3 := Lib.hid hb3
            clear hb3 c0 c1 c2 c3 c4 d0 d1 d2 d3 d4 hv1 hv2
            obtain ⟨hab0, hab1⟩ := hab
            by_cases hpl : (tk.at_ : Int) ≤ a
            · have hd5 : decide ((tk.at_ : Int) ≤ a) = true := decide_eq_true hpl
              have hsh : shI tk.at_ a = a + 2 := if_pos hpl
              rw [hsh] at p1
              go_wp2_with fail
              go_quiet (fail)
              go_wp2_with fail
              go_quiet (fail)
              go_wp2_with fail
              cases gk with
              | zero => exact absurd hk (by omega)
              | succ g =>
              go_roundg g
              case measure => omega
              case rel => exact ⟨k + 1, by omega, by go_num, H2.out.trans ((HB3.out.trans ((belowN _ _).mono HB3.out.size)).mono H2.out.size)⟩
            · have hd5 : decide ((tk.at_ : Int) ≤ a) = false := decide_eq_false hpl
              have hsh : shI tk.at_ a = a := if_neg hpl
              rw [hsh] at p1
              go_wp2_with fail
              go_quiet (fail)
              go_wp2_with fail
              go_quiet (fail)
              go_wp2_with fail
              cases gk with
              | zero => exact absurd hk (by omega)
              | succ g =>
              go_roundg g
              case measure => omega
              case rel => exact ⟨k + 1, by omega, by go_num, H2.out.trans ((HB3.out.trans ((belowN _ _).mono HB3.out.size)).mono H2.out.size)⟩
end Go.Proofs.YtokhfhibdeneeaaGreatDoor

namespace Go.Proofs.YtokhfhibdeneeaaGreatDoor
open Go.RowKit

theorem ParseBlanks_any (l : List UInt8) (c : Int) (tb : Bool) (w : World) (hgl : Gl w) (hl : l.length ≤ 140737488351232) (hc : okI c) :
    Calls Tryz.prog 5 #[.string ⟨⟨l⟩⟩, .int .i64 c, .bool tb] w fun e w' => e = .returned (.bool true) ∧ Below w.heap.size w w' :=
  ParseBlanks_of known_any reads_any l c tb w hgl hl hc
end Go.Proofs.YtokhfhibdeneeaaGreatDoor
