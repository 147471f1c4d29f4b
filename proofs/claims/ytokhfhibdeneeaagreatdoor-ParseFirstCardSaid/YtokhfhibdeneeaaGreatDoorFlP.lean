/- ParseFirst, at every two texts. -/
import Derived.BigQuiet
import Derived.Deep.DeepCutAuto
import Derived.Deep.CutBlock
import Derived.Deep.LoopGhost
import Derived.Test.YtokhfhibdeneeaaGreatDoorMQaF
import Derived.Test.YtokhfhibdeneeaaGreatDoorFlF
namespace Go.Proofs.YtokhfhibdeneeaaGreatDoor
open Go.RowKit

theorem cut_blank (l : List UInt8) (cu : Nat) : (⟨⟨l⟩⟩ : ByteArray).extract 0 cu ++ ⟨#[32]⟩ = ⟨⟨l.take cu ++ [32]⟩⟩ := by
  have h := ba_piece l 0 cu
  rw [Nat.zero_add, List.drop_zero] at h
  rw [h]
  apply ByteArray.ext
  simp
theorem app_blank (x y : List UInt8) : (⟨⟨x ++ [32]⟩⟩ : ByteArray) ++ ⟨⟨y⟩⟩ = ⟨⟨x ++ 32 :: y⟩⟩ := by
  apply ByteArray.ext
  simp
theorem wrong_nat {k : Nat} {l : List UInt8} {ts : List Tok} {a : Int} {nm : ByteArray} (hs : scanT l = .ok ts) (ho : parseT k l = .wrong 30 a nm) : ∃ n : Nat, a = n := by
  obtain ⟨h1, h2, _, _⟩ := scanT_ok hs
  rw [parseT, hs] at ho
  simp only at ho
  have hok : (envOf l ts).Ok := fun i hi => by rw [envOf_past hi]
  have hn : (envOf l ts).n ≤ 100000 := by show ts.length ≤ 100000; omega
  cases hr : readR (envOf l ts) (formR (envOf l ts) k) with
  | out => exact absurd hr (read_ne hok hn k)
  | ok t s =>
    exfalso
    rw [hr, outOf] at ho
    cases hw : rightW t with
    | none => rw [hw] at ho; cases ho
    | some x =>
      rw [hw] at ho
      injection ho with e1 _ _
      exact (look_own intB floatsB t 1 0 0 x hw).2 e1
  | bad i =>
    rw [hr, outOf] at ho
    injection ho with _ e2 _
    rcases envOf_cases l ts i with ⟨tk, _, _, e⟩ | ⟨_, e⟩
    · rw [e] at e2; exact ⟨tk.at_, e2.symm⟩
    · rw [e] at e2; exact ⟨l.length, e2.symm⟩
set_option maxRecDepth 100000 in
set_option maxHeartbeats 4000000 in
theorem ParseFirst_any (l b : List UInt8) (w : World) (hgl : Gl w) (hl : l.length ≤ 140737488351232) (hb : b.length ≤ 140737488351232) :
    Calls Tryz.prog 4 #[.string ⟨⟨l⟩⟩, .string ⟨⟨b⟩⟩] w fun e w' => e = .returned (.bool true) ∧ Below w.heap.size w w' := by
  have hta := asWrong
  have htn := asWrongNil
  have HG := Lib.hid hgl
  have hkn := known_any w hgl
  clear hgl
  cases hs : scanT l with
  | bad c a =>
    go_enter Tryz.func4, Tryz.ntmps4
    go_wp2_with (first
      | (go_at_call 7; refine hkn.mono ?_; rintro e wa ⟨rfl, hba⟩; have hsc := Scan_any l wa (HG.out.up hba) hl; rw [hs] at hsc; have HSC := Lib.hid hsc; clear hsc)
      | (go_at_call 14; refine HSC.out.mono ?_; rintro e wb ⟨hbb, h⟩; obtain ⟨c', a', eb, hq, rfl, heb, hea⟩ := h.resolve_left (by rintro ⟨_, _, h, _⟩; cases h); clear h hq heb hea))
    go_ret
    exact ⟨rfl, hba.trans (hbb.mono hba.size)⟩
  | ok ts =>
    have HSK := Lib.hid hs
    go_enter Tryz.func4, Tryz.ntmps4
    go_wp2_with (first
      | (go_at_call 7; refine hkn.mono ?_; rintro e wa ⟨rfl, hba⟩; have hsc := Scan_any l wa (HG.out.up hba) hl; rw [hs] at hsc; have HSC := Lib.hid hsc; clear hsc)
      | (go_at_call 14; refine HSC.out.mono ?_; rintro e wb ⟨hbb, h⟩; obtain ⟨ts', v, hq, rfl, ho⟩ := h.resolve_right (by rintro ⟨_, _, _, h, _⟩; cases h); obtain rfl := Rd.ok.inj hq; obtain ⟨A, cap, rfl, hcl, hcm⟩ := row_form ho; have HB := Lib.hid (And.intro ho (hba.trans (hbb.mono hba.size))); clear h hq ho))
    clear hkn HSC hba hbb hs
    go_loopw [8] (fun kd wr => ∃ k : Nat, k ≤ 3 ∧ kd = .int .i64 k ∧ Below wb.heap.size wb wr) (fun kd _ => 3 - (intOf kd).toNat)
    case atStart => exact ⟨0, by omega, rfl, Below.refl _ _⟩
    case round =>
      obtain ⟨k, hk, rfl, hbr⟩ := hrel
      by_cases hk3 : k = 3
      · subst hk3
        go_wp2_with fail
        go_ret
        exact ⟨rfl, HB.out.2.trans (hbr.mono HB.out.2.size)⟩
      have hk' : k < 3 := by omega
      have hd : decide ((k : Int) < 3) = true := decide_eq_true (by omega)
      have hrd := reads_any k hk' l wr (HG.out.up (HB.out.2.trans (hbr.mono HB.out.2.size))) hl
      obtain ⟨R, HR⟩ : ∃ R, Hid (parseT k l = R) := ⟨_, rfl⟩
      rw [HR.out] at hrd
      have HRD := Lib.hid hrd
      clear hrd
      cases R with
      | tree t =>
        obtain ⟨k1, s1, n1, a1, ks1⟩ := t
        go_wp2_with (go_at_call 8; refine HRD.out.mono ?_; rintro e wc ⟨hbc, v, rfl, hv⟩; obtain ⟨A1, cap1, rfl⟩ : ∃ A cap, v = .agg #[.int .i64 k1, .string s1, .int .i64 n1, .int .i64 a1, .slice A ks1.length cap] := (by have h := hv; unfold LiesA at h; obtain ⟨A, cap, h, _⟩ := h; exact ⟨A, cap, h⟩); clear hv)
        go_roundw
        case rel => exact ⟨k + 1, by omega, by go_num, hbr.trans ((hbc.trans (((Below.refl wc.heap.size wc).alloc (Nat.le_refl _) _).mono hbc.size)).mono hbr.size)⟩
        case measure => simp only [intOf]; omega
      | wrong c a nm =>
        have hcall : ∀ (Q : Ending → World → Prop), (∀ bw wc, Below wr.heap.size wr wc → WrongAt wc bw c a nm → Q (.returned (.tuple #[.agg #[.int .i64 0, .string ⟨#[]⟩, .int .i64 0, .int .i64 0, .slice none 0 0], .iface 43 (.pointer (some ⟨bw, 0, none⟩))])) wc) → Calls Tryz.prog 8 #[.int .i64 k, .string ⟨⟨l⟩⟩] wr Q := fun Q h => HRD.out.mono (by rintro e wc ⟨hbc, bw, rfl, _, hww⟩; exact h bw wc hbc hww)
        have HCL := Lib.hid hcall
        clear hcall
        by_cases hc : c = 30
        · subst hc
          obtain ⟨a, rfl⟩ := wrong_nat HSK.out HR.out
          by_cases ha : (l.length : Int) ≤ (a : Int)
          · have hd1 : decide ((l.length : Int) ≤ (a : Int)) = true := decide_eq_true ha
            go_wp2_with (go_at_call 8; refine HCL.out _ ?_; intro bw wc hbc hww; have hbw := World.block_lt_of_cell? wc _ hww.1; have c0 := fun o => (World.cell?_of_block (w := wc) (w' := wc.alloc o) (a := ⟨bw, 0, none⟩) (((Below.refl _ _).alloc (Nat.le_refl _) o).block _ hbw)).trans hww.1; have c1 := fun o => (World.cell?_of_block (w := wc) (w' := wc.alloc o) (a := ⟨bw, 1, none⟩) (((Below.refl _ _).alloc (Nat.le_refl _) o).block _ hbw)).trans hww.2.1; clear hww)
            go_roundw
            case rel => exact ⟨k + 1, by omega, by go_num, hbr.trans ((hbc.trans (((Below.refl wc.heap.size wc).alloc (Nat.le_refl _) _).mono hbc.size)).mono hbr.size)⟩
            case measure => simp only [intOf]; omega
          · have hd1 : decide ((l.length : Int) ≤ (a : Int)) = false := decide_eq_false ha
            go_upto_block 2 with (go_at_call 8; refine HCL.out _ ?_; intro bw wc hbc hww; have hbw := World.block_lt_of_cell? wc _ hww.1; have c0 := fun o => (World.cell?_of_block (w := wc) (w' := wc.alloc o) (a := ⟨bw, 0, none⟩) (((Below.refl _ _).alloc (Nat.le_refl _) o).block _ hbw)).trans hww.1; have c1 := fun o => (World.cell?_of_block (w := wc) (w' := wc.alloc o) (a := ⟨bw, 1, none⟩) (((Below.refl _ _).alloc (Nat.le_refl _) o).block _ hbw)).trans hww.2.1)
            have hww' := wrongAt_block hww (((Below.refl wc.heap.size wc).alloc (Nat.le_refl _) (.cells #[.int .i64 0, .string ⟨#[]⟩, .int .i64 0, .int .i64 0, .slice none 0 0] 25)).block _ hbw)
            have hb5 := hbr.trans ((hbc.trans (((Below.refl wc.heap.size wc).alloc (Nat.le_refl _) (.cells #[.int .i64 0, .string ⟨#[]⟩, .int .i64 0, .int .i64 0, .slice none 0 0] 25)).mono hbc.size)).mono hbr.size)
            obtain ⟨W5, hW5⟩ : ∃ W5, W5 = wc.alloc (.cells #[.int .i64 0, .string ⟨#[]⟩, .int .i64 0, .int .i64 0, .slice none 0 0] 25) := ⟨_, rfl⟩
            rw [← hW5] at hww' hb5 ⊢
            have hbw5 := World.block_lt_of_cell? W5 _ hww'.1
            have H5 := Lib.hid (And.intro hww' (And.intro hb5 hbw5))
            clear hww hww' hb5 hbw5 c0 c1 hbw hbc hW5 HRD HCL
            go_cut [13, 14] from 35 to 149 (fun s13 s14 wx => s13 = .int .i64 (cutOf ts a l.length : Nat) ∧ Below W5.heap.size W5 wx)
            case first =>
              go_wp2_with fail
              go_loopw [13, 14] (fun s13 s14 wx => ∃ j : Nat, j ≤ ts.length ∧ s14 = .int .i64 j ∧ s13 = .int .i64 l.length ∧ Below W5.heap.size W5 wx ∧ Hid (cutOf ts a l.length = cutOf (ts.drop j) a l.length)) (fun _ s14 _ => ts.length - (intOf s14).toNat)
              case atStart => exact ⟨0, Nat.zero_le _, rfl, rfl, Below.refl _ _, Lib.hid (by simp)⟩
              case round =>
                obtain ⟨j, hj, rfl, rfl, hbx, HCU⟩ := hrel
                by_cases hjl : j = ts.length
                · subst hjl
                  go_wp2_with fail
                  go_meet
                  case rel => exact ⟨by rw [HCU.out, List.drop_length]; rfl, hbx⟩
                · have hjt : j < ts.length := by omega
                  have hd3 : decide ((j : Int) < (ts.length : Int)) = true := decide_eq_true (by omega)
                  obtain ⟨t, ht⟩ : ∃ t, ts[j]? = some t := ⟨_, List.getElem?_eq_getElem hjt⟩
                  have hdr := drop_cons ht
                  obtain ⟨tb, rfl, htb1, htb2⟩ := row_some HB.out.1 (by omega)
                  have hc0 : wb.cell? ⟨tb, j * 3 + 2, none⟩ = some (.int .i64 t.at_) := by
                    have := HB.out.1.cells (g := tb) rfl (j * 3 + 2) (.int .i64 t.at_) (by rw [tokCells_at ht 2 (by decide)]; rfl)
                    rw [show ((⟨tb, 0, none⟩ : Addr).add (j * 3 + 2)) = ⟨tb, j * 3 + 2, none⟩ by simp [Addr.add]] at this
                    exact this
                  have hsz5 := H5.out.2.1.size
                  have hc1 : ∀ n, (wr.drewN n).cell? ⟨tb, j * 3 + 2, none⟩ = some (.int .i64 t.at_) := fun n => (World.cell?_of_block (w := wb) (a := ⟨tb, j * 3 + 2, none⟩) ((hbx.block tb (by omega)).trans (H5.out.2.1.block tb htb2))).trans hc0
                  have hc2 : wr.cell? ⟨tb, j * 3 + 2, none⟩ = some (.int .i64 t.at_) := hc1 0
                  have hv1 : wr.cell? ⟨bw, 1, none⟩ = some (.int .i64 a) := (World.cell?_of_block (w := W5) (a := ⟨bw, 1, none⟩) (hbx.block bw H5.out.2.2)).trans H5.out.1.2.1
                  by_cases hgt : (a : Int) < (t.at_ : Int)
                  · have hd4 : decide ((a : Int) < (t.at_ : Int)) = true := decide_eq_true hgt
                    go_wp2_with fail
                    go_quiet (fail)
                    go_wp2_with fail
                    go_meet
                    case rel => exact ⟨by rw [HCU.out, hdr, cutOf, if_pos (by omega)], hbx.trans ((belowN _ nq).mono hbx.size)⟩
                  · have hd4 : decide ((a : Int) < (t.at_ : Int)) = false := decide_eq_false hgt
                    go_wp2_with fail
                    go_quiet (fail)
                    go_wp2_with fail
                    go_roundw
                    case rel => exact ⟨j + 1, by omega, by go_num, rfl, hbx.trans ((belowN _ nq).mono hbx.size), Lib.hid (by rw [HCU.out, hdr, cutOf, if_neg (by omega)])⟩
                    case measure => simp only [intOf]; omega
            case rest =>
              obtain ⟨rfl, hbx⟩ := hcut
              obtain ⟨cu, HCU⟩ : ∃ cu, Hid (cutOf ts a l.length = cu) := ⟨_, rfl⟩
              rw [HCU.out]
              have hcu : cu ≤ l.length := by rw [← HCU.out]; exact cutOf_le fun t ht => ((scanT_ok HSK.out).2.2.1 t ht).2
              have hd5 : decide ((l.length : Int) < (cu : Int)) = false := decide_eq_false (by omega)
              have HL := Lib.hid (And.intro hl hb)
              clear hl hb
              go_upto_region 20 with fail
              any_goals (exfalso; have h60 := (scanT_ok HSK.out).1; omega)
              have hl6 : l.length ≤ 60000 := (scanT_ok HSK.out).1
              obtain ⟨T, HT⟩ : ∃ T : ByteArray, Hid ((⟨⟨l⟩⟩ : ByteArray).extract 0 cu ++ ⟨#[32]⟩ = T) := ⟨_, rfl⟩
              have hTl : T = ⟨⟨l.take cu ++ [32]⟩⟩ := by rw [← HT.out]; exact cut_blank l cu
              rw [HT.out]
              have hTs : (T.size : Int) = cu + 1 := by rw [hTl]; show (((l.take cu ++ [32]).length : Nat) : Int) = _; rw [List.length_append, List.length_take]; simp; omega
              have hTb : (T.size : Int) ≤ 60001 := by omega
              have HTL := Lib.hid (And.intro hTl (And.intro hTs hl6))
              clear hTl hTs hl6
              go_upto_if 108 with fail
              go_cut [15] from 35 to 149 (fun s15 wx => ∃ y : List UInt8, s15 = .string ⟨⟨l.take cu ++ 32 :: y⟩⟩ ∧ (y.length : Int) ≤ 60000 ∧ Below W5.heap.size W5 wx)
              case first =>
                by_cases hfit : (b.length : Int) ≤ 60000 - (T.size : Int)
                · have hd6 : decide ((b.length : Int) ≤ 60000 - (T.size : Int)) = true := decide_eq_true hfit
                  go_wp2_with fail
                  all_goals (try (exfalso; have h60 := HTL.out.2.2; have h61 := HTL.out.2.1; omega))
                  go_meet
                  case rel => exact ⟨b, congrArg Value.string ((congrArg (fun z : ByteArray => z ++ (⟨⟨b⟩⟩ : ByteArray)) HTL.out.1).trans (app_blank _ _)), by omega, hbx⟩
                · have hd6 : decide ((b.length : Int) ≤ 60000 - (T.size : Int)) = false := decide_eq_false hfit
                  go_wp2_with fail
                  go_meet
                  case rel => exact ⟨[], congrArg Value.string HTL.out.1, by simp, hbx⟩
              case rest =>
                obtain ⟨y, rfl, hy, hby⟩ := hcut
                obtain ⟨L2, HL2⟩ : ∃ L2, Hid (l.take cu ++ 32 :: y = L2) := ⟨_, rfl⟩
                rw [HL2.out]
                have hlen2 : L2.length ≤ 140737488351232 := by rw [← HL2.out, List.length_append, List.length_take, List.length_cons]; have h60 := HTL.out.2.2; omega
                have hb6 := HB.out.2.trans ((H5.out.2.1.trans (hby.mono H5.out.2.1.size)).mono HB.out.2.size)
                have hsc2 := Scan_any L2 wc (HG.out.up hb6) hlen2
                have HBX := Lib.hid (And.intro hby (And.intro hb6 hlen2))
                clear hby hb6 hlen2 hbx HTL HT hTb hd5 hcu
                cases hs2 : scanT L2 with
                | bad c2 a2 =>
                  rw [hs2] at hsc2
                  have HSC2 := Lib.hid hsc2
                  clear hsc2
                  go_wp2_with (go_at_call 14; refine HSC2.out.mono ?_; rintro e wd ⟨hbd, h⟩; obtain ⟨c', a', eb, hq, rfl, heb, hea⟩ := h.resolve_left (by rintro ⟨_, _, h, _⟩; cases h); clear h hq heb hea)
                  go_roundw
                  case rel => exact ⟨k + 1, by omega, by go_num, H5.out.2.1.trans ((HBX.out.1.trans (hbd.mono HBX.out.1.size)).mono H5.out.2.1.size)⟩
                  case measure => simp only [intOf]; omega
                | ok ts2 =>
                  rw [hs2] at hsc2
                  have hlaw : parseT k L2 = .wrong 30 a nm := by
                    have h := first_law (k := k) (nm := nm) HSK.out HR.out (by omega) (y := y) (ts' := ts2) (by rw [HCU.out, HL2.out]; exact hs2)
                    rw [HCU.out, HL2.out] at h
                    exact h
                  have HSC2 := Lib.hid hsc2
                  have HLW := Lib.hid hlaw
                  clear hsc2 hlaw
                  go_upto_region 24 with (go_at_call 14; refine HSC2.out.mono ?_; rintro e wd ⟨hbd, h⟩; obtain ⟨ts', v2, hq, rfl, ho2⟩ := h.resolve_right (by rintro ⟨_, _, _, h, _⟩; cases h); obtain ⟨A2, cap2, rfl, _, _⟩ := row_form ho2; clear h hq ho2)
                  have hrd2 := reads_any k hk' L2 wd (HG.out.up (HBX.out.2.1.trans (hbd.mono HBX.out.2.1.size))) HBX.out.2.2
                  rw [HLW.out] at hrd2
                  have HRD2 := Lib.hid hrd2
                  clear hrd2
                  have hsz1 := HBX.out.1.size
                  have hsz2 := hbd.size
                  have hbw1 := H5.out.2.2
                  go_upto_region 26 with (go_at_call 8; refine HRD2.out.mono ?_; rintro e we ⟨hbe, b2, rfl, hb2l, hw2⟩; unfold zeroNdV; have hb2 := World.block_lt_of_cell? we _ hw2.1; have hvv := wrongAt_block H5.out.1 ((hbe.block bw (by omega)).trans ((hbd.block bw (by omega)).trans (HBX.out.1.block bw hbw1))); have hbwe := World.block_lt_of_cell? we _ hvv.1; have c0 := fun o => (World.cell?_of_block (w := we) (w' := we.alloc o) (a := ⟨bw, 0, none⟩) (((Below.refl _ _).alloc (Nat.le_refl _) o).block _ hbwe)).trans hvv.1; have c1 := fun o => (World.cell?_of_block (w := we) (w' := we.alloc o) (a := ⟨bw, 1, none⟩) (((Below.refl _ _).alloc (Nat.le_refl _) o).block _ hbwe)).trans hvv.2.1; have c2 := fun o => (World.cell?_of_block (w := we) (w' := we.alloc o) (a := ⟨bw, 2, none⟩) (((Below.refl _ _).alloc (Nat.le_refl _) o).block _ hbwe)).trans hvv.2.2.1; have d0 := fun o => (World.cell?_of_block (w := we) (w' := we.alloc o) (a := ⟨b2, 0, none⟩) (((Below.refl _ _).alloc (Nat.le_refl _) o).block _ hb2)).trans hw2.1; have d1 := fun o => (World.cell?_of_block (w := we) (w' := we.alloc o) (a := ⟨b2, 1, none⟩) (((Below.refl _ _).alloc (Nat.le_refl _) o).block _ hb2)).trans hw2.2.1; have d2 := fun o => (World.cell?_of_block (w := we) (w' := we.alloc o) (a := ⟨b2, 2, none⟩) (((Below.refl _ _).alloc (Nat.le_refl _) o).block _ hb2)).trans hw2.2.2.1; have HBE := Lib.hid hbe; clear hvv hw2 hbe)
                  go_quiet (fail)
                  go_wp2_with fail
                  go_roundw
                  case rel => exact ⟨k + 1, by omega, by go_num, H5.out.2.1.trans ((HBX.out.1.trans ((hbd.trans ((HBE.out.trans ((((Below.refl we.heap.size we).alloc (Nat.le_refl _) _).trans ((belowN _ nq).mono (by simp))).mono HBE.out.size)).mono hbd.size)).mono HBX.out.1.size)).mono H5.out.2.1.size)⟩
                  case measure => simp only [intOf]; omega
        · go_wp2_with (go_at_call 8; refine HCL.out _ ?_; intro bw wc hbc hww; have hbw := World.block_lt_of_cell? wc _ hww.1; have c0 := fun o => (World.cell?_of_block (w := wc) (w' := wc.alloc o) (a := ⟨bw, 0, none⟩) (((Below.refl _ _).alloc (Nat.le_refl _) o).block _ hbw)).trans hww.1; have c1 := fun o => (World.cell?_of_block (w := wc) (w' := wc.alloc o) (a := ⟨bw, 1, none⟩) (((Below.refl _ _).alloc (Nat.le_refl _) o).block _ hbw)).trans hww.2.1; clear hww)
          go_roundw
          case rel => exact ⟨k + 1, by omega, by go_num, hbr.trans ((hbc.trans (((Below.refl wc.heap.size wc).alloc (Nat.le_refl _) _).mono hbc.size)).mono hbr.size)⟩
          case measure => simp only [intOf]; omega
end Go.Proofs.YtokhfhibdeneeaaGreatDoor
