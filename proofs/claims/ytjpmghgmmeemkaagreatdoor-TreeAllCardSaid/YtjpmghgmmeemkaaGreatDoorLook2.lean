/- (*walker).look: the walk. -/
import Derived.Test.YtjpmghgmmeemkaaGreatDoorLook
namespace Go.Proofs.YtjpmghgmmeemkaaGreatDoor
open Go.RowKit Go.Shelf
attribute [local go_sem] Oper.semAt_some

set_option maxRecDepth 100000 in
set_option maxHeartbeats 8000000 in
theorem look_any (iB fB : ByteArray → Bool) : ∀ (t : Nd), t.Each (NumsAt iB fB) → ∀ (v : Value) (deep q seen : Int) (bw : Nat) (w : World), Gl w → 3 ≤ bw → Lies w bw t v →
    Boxed w bw 61 (.int .i64 seen) → 0 ≤ deep → deep ≤ 100 → 0 ≤ seen → seen ≤ 20000 → 0 ≤ q ∧ q ≤ 29 →
    Calls Tryz.prog 30 #[.pointer (some ⟨bw, 0, none⟩), v, .int .i64 deep, .int .i64 q] w (LookPost bw w (t.look iB fB deep q seen)) := by
  intro t
  induction t using Nd.induct with
  | h k s n a ks ih =>
  intro heach v deep q seen bw w hgl h3 hl hw hd0 hd1 hs0 hs1 hq
  obtain ⟨A, cap, rfl, hvk, hvn, hva, hss, hcl, hcc, hkids⟩ : ∃ (A : Option Addr) (cap : Nat), v = .agg #[.int .i64 k, .string s, .int .i64 n, .int .i64 a, .slice A ks.length cap] ∧
      okI k ∧ okI n ∧ okI a ∧ s.size ≤ 140737488351232 ∧ ks.length ≤ cap ∧ cap ≤ 9223372036854775807 ∧
      (ks = [] ∨ ∃ b o, A = some ⟨b, o, none⟩ ∧ b < bw ∧ LiesL w bw ks b o) := by
    unfold Lies at hl; exact hl
  have hnums : NumsAt iB fB (.mk k s n a ks) := by unfold Nd.Each at heach; exact heach.1
  obtain ⟨sh, HSH⟩ : ∃ sh, Hid (shapeOf k s ks q = sh) := ⟨_, rfl⟩
  obtain ⟨r, HR⟩ : ∃ r, Hid (Nd.look iB fB (.mk k s n a ks) deep q seen = r) := ⟨_, rfl⟩
  rw [HR.out]
  have HFR := Lib.hid (Fr.init (deep := deep) h3 hgl hl hw)
  have HIH := Lib.hid ih
  have HE := Lib.hid heach
  have HN := Lib.hid hnums
  have HK := Lib.hid hkids
  have HQ := Lib.hid hq
  have HS := Lib.hid hss
  obtain ⟨f1, f2, f3, f4, f5, f6, f7, f8, f9, f10, f11⟩ := HFR.out.cells
  clear hgl hl ih heach hnums hkids hq hw hvk hvn hva hss
  refine (callsIn_wide (n := 6)).1 ?_
  refine callsIn_of_wp_marks Tryz.func30 rfl trivial ?_ rfl
  simp only [Tryz.ntmps30, List.size_toArray, List.length_cons, List.length_nil, Nat.reduceAdd, Nat.reduceSub, Array.replicate_succ, Array.replicate_zero, List.push_toArray, List.append_toArray, List.nil_append, List.cons_append]
  gi_wp2_with (first
    | (refine ⟨trivial, ?_⟩; gi_at_call 42; refine (callsIn_wide.2 (wrong_new _ _ _ _ _ _ _ _ _)).mono ?_; rintro e w' ⟨pb, rfl, hp1, hp2, hwr, hb⟩
       first
         | have HX := Lib.hid (HFR.out.after hb)
         | (have HX := Lib.hid ((HFR.out.alloc _).after hb); clear g1 g2 g3 g4 g5 g6 g7 g8 g9 g10 g11 k1 k2 k3 k4 k5 k6 k7 k8 k9 k10 k11)
       have HP1 := Lib.hid (show w.heap.size + 4 ≤ pb by have h1 := HFR.out.size; have h2 := hp1; (try simp only [World.size_alloc] at h1 h2); omega)
       have HP2 := Lib.hid hp2
       have HWR := Lib.hid hwr
       clear f1 f2 f3 f4 f5 f6 f7 f8 f9 f10 f11
       obtain ⟨f1, f2, f3, f4, f5, f6, f7, f8, f9, f10, f11⟩ := HX.out.cells
       clear hp1 hp2 hwr hb)
    | (refine ⟨trivial, ?_⟩; gi_at_call 43; refine (callsIn_wide.2 (may_any k s n a A ks.length cap q HQ.out _)).mono ?_; rintro e w' ⟨rfl, hb⟩
       have HFR := Lib.hid (HFR.out.after hb)
       clear f1 f2 f3 f4 f5 f6 f7 f8 f9 f10 f11
       obtain ⟨f1, f2, f3, f4, f5, f6, f7, f8, f9, f10, f11⟩ := HFR.out.cells
       clear hb)
    | (refine ⟨trivial, ?_⟩; gi_at_call 44; refine (callsIn_wide.2 (text_any iB fB k s n a A ks.length cap q _ HFR.out.gl HS.out HN.out.1 HN.out.2)).mono ?_; rintro e w' ⟨rfl, hb⟩
       have HFR := Lib.hid (HFR.out.after hb)
       clear f1 f2 f3 f4 f5 f6 f7 f8 f9 f10 f11
       obtain ⟨f1, f2, f3, f4, f5, f6, f7, f8, f9, f10, f11⟩ := HFR.out.cells
       clear hb)
    | (refine ⟨trivial, ?_⟩; gi_at_call 45; refine (callsIn_wide.2 (number_any k s n a A ks.length cap _)).mono ?_; rintro e w' ⟨rfl, hb⟩
       have HFR := Lib.hid (HFR.out.after hb)
       clear f1 f2 f3 f4 f5 f6 f7 f8 f9 f10 f11
       obtain ⟨f1, f2, f3, f4, f5, f6, f7, f8, f9, f10, f11⟩ := HFR.out.cells
       obtain ⟨g1, g2, g3, g4, g5, g6, g7, g8, g9, g10, g11⟩ := (HFR.out.tick (seen + 1)).cells
       clear hb)
    | (refine ⟨trivial, ?_⟩; gi_at_call 46; have HFR := Lib.hid (HFR.out.tick (seen + 1)); refine (callsIn_wide.2 (shaped_any k s n a A cap ks q _ HFR.out.gl (HFR.out.lies.more (by have := HFR.out.size; have := HFR.out.hB; omega)))).mono ?_; rintro e w' ⟨v, rfl, ⟨A', cap', rfl, hlen, hfirst⟩, hb⟩
       rw [HSH.out] at hlen hfirst ⊢
       have hfirst : sh.first = [] ∨ ∃ b, A' = some ⟨b, 0, none⟩ ∧ w.heap.size + 4 ≤ b ∧ b < w'.heap.size ∧ CellsAt w' b sh.first 0 := hfirst.imp id (fun ⟨b, h1, h2, h3, h4⟩ => ⟨b, h1, Nat.le_trans HFR.out.size h2, h3, h4⟩)
       have HFR := Lib.hid (HFR.out.after hb)
       clear f1 f2 f3 f4 f5 f6 f7 f8 f9 f10 f11
       obtain ⟨f1, f2, f3, f4, f5, f6, f7, f8, f9, f10, f11⟩ := HFR.out.cells
       have HF := Lib.hid hfirst
       have HL := Lib.hid hlen
       clear hb hlen hfirst g1 g2 g3 g4 g5 g6 g7 g8 g9 g10 g11
       obtain ⟨g1, g2, g3, g4, g5, g6, g7, g8, g9, g10, g11⟩ := (HFR.out.alloc (.cells #[.slice A' sh.first.length cap', .int .i64 sh.rest, .int .i64 sh.least, .int .i64 sh.most, .int .i64 sh.many] 98)).cells
       obtain ⟨k1, k2, k3, k4, k5, k6, k7, k8, k9, k10, k11⟩ := ((HFR.out.alloc (.cells #[.slice A' sh.first.length cap', .int .i64 sh.rest, .int .i64 sh.least, .int .i64 sh.most, .int .i64 sh.many] 98)).alloc (.cells #[.int .i64 0] 3)).cells)
    | (refine ⟨trivial, ?_⟩; gi_at_call 47; refine (callsIn_wide.2 (over_any _ _ _ _ _ _ _ _ _)).mono ?_; rintro e w'' ⟨rfl, rfl⟩)
    | (refine ⟨trivial, ?_⟩))
  all_goals first
    | exact look_leafW HX.out rfl HP1.out HP2.out HWR.out (HR.out.symm.trans (look_many iB fB (by assumption))) _ rfl
    | exact look_leafW HX.out rfl HP1.out HP2.out HWR.out (HR.out.symm.trans (look_deep iB fB (by assumption) (by assumption))) _ rfl
    | exact look_leafW HX.out rfl HP1.out HP2.out HWR.out (HR.out.symm.trans (look_kind iB fB (by assumption) (by assumption) (.inr (.inr (by rename_i h; simpa using h))))) _ rfl
    | exact look_leafW HX.out rfl HP1.out HP2.out HWR.out (HR.out.symm.trans (look_kind iB fB (by assumption) (by assumption) (.inr (.inl (by rename_i h; simpa using h))))) _ rfl
    | exact look_leafW HX.out rfl HP1.out HP2.out HWR.out (HR.out.symm.trans (look_kind iB fB (by assumption) (by assumption) (.inl (by rename_i h; simpa using h)))) _ rfl
    | exact look_leafW HX.out rfl HP1.out HP2.out HWR.out (HR.out.symm.trans ((look_in iB fB (by assumption) (by assumption) (by assumption) (by assumption) (by have h := ‹(!numberB k n) = false›; simpa using h) HSH.out).trans (if_pos (by assumption)))) _ rfl
    | exact look_leafW HX.out rfl HP1.out HP2.out HWR.out (HR.out.symm.trans ((look_in iB fB (by assumption) (by assumption) (by assumption) (by assumption) (by have h := ‹(!numberB k n) = false›; simpa using h) HSH.out).trans ((if_neg (by omega)).trans (if_pos ⟨by assumption, by assumption⟩)))) _ rfl
    | skip
  all_goals
    have hfw := HFR.out
    have hstart := look_start hfw (.slice A' sh.first.length cap') (.int .i64 sh.rest) (.int .i64 sh.least) (.int .i64 sh.most) (.int .i64 sh.many) (.int .i64 ks.length) 98
    have hFi := HF.out
    have hLe := HL.out
    have hr0 : r = lookL iB fB ks sh 0 deep 0 (seen + 1) := HR.out.symm.trans ((look_in iB fB (by assumption) (by assumption) (by assumption) (by assumption) (by have h := ‹(!numberB k n) = false›; simpa using h) HSH.out).trans ((if_neg (by omega)).trans (if_neg (by omega))))
    have hseen1 : seen + 1 ≤ 20000 := by omega
    have hdeep60 : deep ≤ 60 := by assumption
    clear HFR HF HL HR g1 g2 g3 g4 g5 g6 g7 g8 g9 g10 g11 k1 k2 k3 k4 k5 k6 k7 k8 k9 k10 k11 f1 f2 f3 f4 f5 f6 f7 f8 f9 f10 f11
    have hXb : w.heap.size + 4 ≤ w'.heap.size := hfw.size
    have hbwB := hfw.hB
    generalize ((((w'.alloc (.cells #[.slice A' sh.first.length cap', .int .i64 sh.rest, .int .i64 sh.least, .int .i64 sh.most, .int .i64 sh.many] 98)).alloc (.cells #[.int .i64 0] 3)).alloc (.cells #[.slice A' sh.first.length cap', .int .i64 sh.rest, .int .i64 sh.least, .int .i64 sh.most, .int .i64 sh.many] 98)).alloc (.cells #[.int .i64 ks.length] 3)) = W5 at hstart ⊢
    obtain ⟨fr5, hd5, hs0c, hs1c, hm5, hb5, hz5⟩ := hstart
    refine rangeFunc_found (F := Fence.wide) (n := 6) rfl (by omega) (gf := 70) (lb := #[.pointer (some ⟨w'.heap.size + 1 + 1 + 1, 0, none⟩), .pointer (some ⟨w'.heap.size + 1 + 1, 0, none⟩)]) rfl trivial (enters_of Tryz.func70 (by kernel_rfl) rfl)
      (over_stops Fence.wide _ trivial rfl (by omega) (w'.heap.size + 1 + 1 + 1) (w'.heap.size + 1 + 1) W5.heap.size ks.length (fun j => j = bw ∨ j = w'.heap.size + 1) sh A' cap' (by omega) W5 hm5.cell hm5.lt (by omega) (by omega) (Nat.le_refl _) hs0c hs1c hLe ?first)
      (fun h h' => h.trans h') (footK_b (Nat.le_refl _)) (Below.refl _ _) (fun _ => rfl)
      (LoopI iB fB bw k s n a A cap ks deep w'.heap.size W5.heap.size sh r w) (LoopX bw ks W5.heap.size r w)
      (LoopI.own (by omega) (by omega)) (fun c => LoopX.own (by omega) c) ⟨0, seen + 1, fr5, hd5, .inl rfl, by omega, hseen1, Nat.le_refl _, fun _ => hr0⟩ ?ab ?done ?stop
    case first =>
      rcases hFi with h | ⟨b, h1, h2, h3, h4⟩
      · exact .inl h
      · exact .inr ⟨b, h1, by omega, by omega, h4.below hb5 (by omega)⟩
    case ab =>
      apply Exists.intro
      refine And.intro ?_ ?_
      · intro l x W K hK
        gi_wp2
        exact hK.out
      · rintro l pre ⟨i, hi⟩ W ⟨d, sn, fr, hd, hd01, hs0', hs1', hHW, hrr⟩ hlt
        dsimp only
        obtain ⟨k1, s1, n1, a1, A1, cap1, ks1, L1, b, o, hA, hbb, hget, c0, c1, c2, c3, c4, hl1, hk1⟩ := look_kid fr hi
        subst hA
        obtain ⟨st, HST⟩ : ∃ st, Hid (sh.at_ i = st) := ⟨_, rfl⟩
        rw [HST.out]
        have hstb : 0 ≤ st ∧ st ≤ 29 := by rw [← HST.out, ← HSH.out]; exact (shapeOf_bd _ _ _ _).at_ i
        have HSTB := Lib.hid hstb
        obtain ⟨c, HC⟩ : ∃ c, Hid (isCase st (.mk k1 s1 n1 a1 ks1) = c) := ⟨_, rfl⟩
        have hcs : ((st == 19) = false ∧ (st == 20) = false ∧ c = false) ∨ ((st = 19 ∨ st = 20) ∧ (((k1 == 27) = false ∧ c = false) ∨ (k1 = 27 ∧ L1 = 0 ∧ c = false) ∨ (k1 = 27 ∧ ∃ ky b1 o1, 0 < L1 ∧ A1 = some ⟨b1, o1, none⟩ ∧ b1 < bw ∧ W.cell? ⟨b1, o1, none⟩ = some (.int .i64 ky) ∧ (ky == 16) = false ∧ c = false) ∨ (k1 = 27 ∧ ∃ b1 o1, 0 < L1 ∧ A1 = some ⟨b1, o1, none⟩ ∧ b1 < bw ∧ W.cell? ⟨b1, o1, none⟩ = some (.int .i64 16) ∧ c = true))) := by
          rcases isCase_cases HC.out with h | ⟨h, h' | ⟨e, e', h'⟩ | ⟨e, y, ys, e', h', h''⟩ | ⟨e, y, ys, e', h', h''⟩⟩
          · exact .inl h
          · exact .inr ⟨h, .inl h'⟩
          · rcases hk1 with ⟨h1, h2⟩ | ⟨y2, ys2, b1, o1, h1, h2, h3, h4, h5⟩
            · exact .inr ⟨h, .inr (.inl ⟨e, h2, h'⟩)⟩
            · rw [e'] at h1; cases h1
          · rcases hk1 with ⟨h1, h2⟩ | ⟨y2, ys2, b1, o1, h1, h2, h3, h4, h5⟩
            · rw [e'] at h1; cases h1
            · rw [e'] at h1; cases h1
              exact .inr ⟨h, .inr (.inr (.inl ⟨e, _, b1, o1, h2, h3, h4, h5, h', h''⟩))⟩
          · rcases hk1 with ⟨h1, h2⟩ | ⟨y2, ys2, b1, o1, h1, h2, h3, h4, h5⟩
            · rw [e'] at h1; cases h1
            · rw [e'] at h1; cases h1
              rw [h'] at h5
              exact .inr ⟨h, .inr (.inr (.inr ⟨e, b1, o1, h2, h3, h4, h5, h''⟩))⟩
        have HEK := Lib.hid (EachL.get (by have h := HE.out; unfold Nd.Each at h; exact h.2) hget)
        have HMEM := Lib.hid (List.mem_of_getElem? hget)
        have HGET := Lib.hid hget
        have HRR := Lib.hid hrr
        have hbx := fr.b0.lt
        have HFR1 := Lib.hid (fr.alloc (.cells #[.int .i64 k1, .string s1, .int .i64 n1, .int .i64 a1, .slice A1 L1 cap1] 24))
        have HBE := Lib.hid ((Below.refl bw W).alloc (by omega) (.cells #[.int .i64 k1, .string s1, .int .i64 n1, .int .i64 a1, .slice A1 L1 cap1] 24))
        have hd1 := hd.alloc (.cells #[.int .i64 k1, .string s1, .int .i64 n1, .int .i64 a1, .slice A1 L1 cap1] 24)
        have HFR2 := Lib.hid (HFR1.out.step (W' := (W.alloc (.cells #[.int .i64 k1, .string s1, .int .i64 n1, .int .i64 a1, .slice A1 L1 cap1] 24)).setCell ⟨w'.heap.size + 1, 0, none⟩ (.int .i64 (d + 1))) ((Below.refl (w.heap.size + 4) _).setCell (p := ⟨w'.heap.size + 1, 0, none⟩) (by simp; omega) _) (Nat.le_refl _))
        have hd2 := hd1.set (.int .i64 (d + 1))
        have HL1 := Lib.hid (hl1.below HBE.out)
        have HL2 := Lib.hid (HL1.out.below ((Below.refl bw _).setCell (p := ⟨w'.heap.size + 1, 0, none⟩) (by simp; omega) (.int .i64 (d + 1))))
        have HKO1 := Lib.hid (KeepsOthers.alloc W (.cells #[.int .i64 k1, .string s1, .int .i64 n1, .int .i64 a1, .slice A1 L1 cap1] 24))
        have HKO2 := Lib.hid (HKO1.out.trans (KeepsOthers.setCell _ ⟨w'.heap.size + 1, 0, none⟩ (.int .i64 (d + 1))))
        have HKF1 := Lib.hid ((Foot.refl W5.heap.size (fun j => j = bw ∨ j = w'.heap.size + 1) W).alloc hHW (.cells #[.int .i64 k1, .string s1, .int .i64 n1, .int .i64 a1, .slice A1 L1 cap1] 24))
        have HKF2 := Lib.hid (HKF1.out.set (p := ⟨w'.heap.size + 1, 0, none⟩) (.inr (.inr rfl)) (.int .i64 (d + 1)))
        have HD1 := Lib.hid hd1
        have HD2 := Lib.hid hd2
        obtain ⟨f1, f2, f3, f4, f5, f6, f7, f8, f9, f10, f11⟩ := fr.cells
        obtain ⟨g1, g2, g3, g4, g5, g6, g7, g8, g9, g10, g11⟩ := HFR1.out.cells
        obtain ⟨p1, p2, p3, p4, p5, p6, p7, p8, p9, p10, p11⟩ := HFR2.out.cells
        have hdc := hd1.cell
        have hdf := hd1.frozen
        have hdc2 := hd2.cell
        have HFR := Lib.hid fr
        have HQ2 : Hid (∀ b1 o1 v, b1 < bw → W.cell? ⟨b1, o1, none⟩ = some v → (W.alloc (.cells #[.int .i64 k1, .string s1, .int .i64 n1, .int .i64 a1, .slice A1 L1 cap1] 24)).cell? ⟨b1, o1, none⟩ = some v ∧ ((W.alloc (.cells #[.int .i64 k1, .string s1, .int .i64 n1, .int .i64 a1, .slice A1 L1 cap1] 24)).setCell ⟨w'.heap.size + 1, 0, none⟩ (.int .i64 (d + 1))).cell? ⟨b1, o1, none⟩ = some v) := fun b1 o1 v h3 h4 => by
          have h5 := HBE.out.cell (p := ⟨b1, o1, none⟩) h3
          have h6 := ((Below.refl bw (W.alloc (.cells #[.int .i64 k1, .string s1, .int .i64 n1, .int .i64 a1, .slice A1 L1 cap1] 24))).setCell (p := ⟨w'.heap.size + 1, 0, none⟩) (by simp; omega) (.int .i64 (d + 1))).cell (p := ⟨b1, o1, none⟩) h3
          exact ⟨h5.trans h4, h6.trans (h5.trans h4)⟩
        clear fr hd hrr hget hl1 hk1 hd1 hd2 hstb hr0 hm5 hs0c hs1c hb5 fr5 hd5 hfw
        have hXH : w'.heap.size + 1 < W5.heap.size := by omega
        have hH4 : w.heap.size + 4 ≤ W5.heap.size := by omega
        have hdb : d ≤ 1 := by omega
        have HD01 := Lib.hid hd01
        rcases hcs with ⟨e1, e2, rfl⟩ | ⟨rfl | rfl, ⟨e1, rfl⟩ | ⟨rfl, rfl, rfl⟩ | ⟨rfl, ky, b1, o1, hL, rfl, q1, q2, e1, rfl⟩ | ⟨rfl, b1, o1, hL, rfl, q1, q2, hEm⟩⟩
        all_goals first
          | (obtain ⟨q3, q4⟩ := HQ2.out _ _ _ q1 q2
             have hL' : (0 : Int) < (L1 : Int) := by omega
             clear HQ2)
          | clear HQ2
        all_goals first
          | (subst hEm; rcases hd01 with rfl | rfl)
          | (have HNOT : Hid (¬ (isCase (sh.at_ i) (.mk k1 s1 n1 a1 ks1) = true ∧ 1 ≤ d ∧ sn < 20000 ∧ deep < 60)) := by rw [HST.out, HC.out]; simp [Hid]
             have HIF : Hid ((if isCase (sh.at_ i) (.mk k1 s1 n1 a1 ks1) = true then d + 1 else d) = d) := by rw [HST.out, HC.out]; simp [Hid])
          | (have HNOT : Hid (¬ (isCase (sh.at_ i) (.mk 27 s1 n1 a1 ks1) = true ∧ 1 ≤ d ∧ sn < 20000 ∧ deep < 60)) := by rw [HST.out, HC.out]; simp [Hid]
             have HIF : Hid ((if isCase (sh.at_ i) (.mk 27 s1 n1 a1 ks1) = true then d + 1 else d) = d) := by rw [HST.out, HC.out]; simp [Hid])
        all_goals have HC1 := Lib.hid (HIH.out _ HMEM.out HEK.out _ (deep + 1) _ sn bw _ HFR1.out.gl h3 HL1.out HFR1.out.walker (by omega) (by omega) hs0' hs1' HSTB.out)
        all_goals have HC2 := Lib.hid (HIH.out _ HMEM.out HEK.out _ (deep + 1) _ sn bw _ HFR2.out.gl h3 HL2.out HFR2.out.walker (by omega) (by omega) hs0' hs1' HSTB.out)
        all_goals clear HD01
        all_goals gi_wp2_with (first
          | (refine ⟨trivial, ?_⟩; gi_at_call 30; refine (CallsIn.inRound l (callsIn_wide.2 HC1.out)).mono ?_; rintro e w3 ⟨hfoot, hwk, hres⟩; clear HFR2 HL2 HKO2 HKF2 HD2 HC1 HC2; have HFRW := HFR1; have HKO := HKO1; have HKF := HKF1; have HD := HD1
             have HFR3 := Lib.hid (HFR1.out.walk hfoot HFR1.out.size hwk)
             have HFT := Lib.hid hfoot
             have HWK := Lib.hid hwk
             clear f1 f2 f3 f4 f5 f6 f7 f8 f9 f10 f11 g1 g2 g3 g4 g5 g6 g7 g8 g9 g10 g11 p1 p2 p3 p4 p5 p6 p7 p8 p9 p10 p11 hdc hdf hdc2 hfoot hwk
             obtain ⟨f1, f2, f3, f4, f5, f6, f7, f8, f9, f10, f11⟩ := HFR3.out.cells
             rcases hres with ⟨hok, rfl⟩ | ⟨x, pb, herr, rfl⟩)
          | (refine ⟨trivial, ?_⟩; gi_at_call 30; refine (CallsIn.inRound l (callsIn_wide.2 HC2.out)).mono ?_; rintro e w3 ⟨hfoot, hwk, hres⟩; clear HFR1 HL1 HKO1 HKF1 HD1 HC1 HC2; have HFRW := HFR2; have HKO := HKO2; have HKF := HKF2; have HD := HD2
             have HFR3 := Lib.hid (HFR2.out.walk hfoot HFR2.out.size hwk)
             have HFT := Lib.hid hfoot
             have HWK := Lib.hid hwk
             clear f1 f2 f3 f4 f5 f6 f7 f8 f9 f10 f11 g1 g2 g3 g4 g5 g6 g7 g8 g9 g10 g11 p1 p2 p3 p4 p5 p6 p7 p8 p9 p10 p11 hdc hdf hdc2 hfoot hwk
             obtain ⟨f1, f2, f3, f4, f5, f6, f7, f8, f9, f10, f11⟩ := HFR3.out.cells
             rcases hres with ⟨hok, rfl⟩ | ⟨x, pb, herr, rfl⟩)
          | (refine ⟨trivial, ?_⟩; gi_at_call 42; refine (CallsIn.inRound l (callsIn_wide.2 (wrong_new _ _ _ _ _ _ _ _ _))).mono ?_; rintro e w3 ⟨pb, rfl, hp1, hp2, hwr, hb⟩
             have HFR3 := Lib.hid (HFR2.out.after hb)
             have HP1 := Lib.hid hp1
             have HP2 := Lib.hid hp2
             have HWR := Lib.hid hwr
             have HB := Lib.hid hb
             clear f1 f2 f3 f4 f5 f6 f7 f8 f9 f10 f11 g1 g2 g3 g4 g5 g6 g7 g8 g9 g10 g11 p1 p2 p3 p4 p5 p6 p7 p8 p9 p10 p11 hp1 hp2 hwr hb
             obtain ⟨f1, f2, f3, f4, f5, f6, f7, f8, f9, f10, f11⟩ := HFR3.out.cells)
          | (refine ⟨trivial, ?_⟩))
        all_goals first
          | exact loop_next hXH hXb hHW HKO.out HKF.out HFRW.out HD.out HFT.out HWK.out HGET.out (by rw [HST.out]; exact Prod.ext rfl hok.eq) hs1' hs0' HNOT.out HIF.out hd01 HRR.out
          | exact loop_ret hH4 hHW HKO.out HFRW.out HFT.out HWK.out herr.lo herr.hi herr.wr (fun hp hi => by subst hi; rw [HRR.out hp]; exact lookL_err iB fB HGET.out HNOT.out (by rw [HST.out]; exact Prod.ext rfl herr.eq))
          | exact loop_next hXH hXb hHW HKO.out HKF.out HFRW.out HD.out HFT.out HWK.out HGET.out (by rw [HST.out]; exact Prod.ext rfl hok.eq) hs1' hs0' (fun e => absurd e.2.1 (by decide)) (if_pos (by rw [HST.out]; exact HC.out)) (.inr rfl) HRR.out
          | exact loop_ret hH4 hHW HKO.out HFRW.out HFT.out HWK.out herr.lo herr.hi herr.wr (fun hp hi => by subst hi; rw [HRR.out hp]; exact lookL_err iB fB HGET.out (fun e => absurd e.2.1 (by decide)) (by rw [HST.out]; exact Prod.ext rfl herr.eq))
          | exact absurd hok.eq (look_err_many iB fB (by omega))
          | exact absurd hok.eq (look_err_deep iB fB (by omega) (by omega))
          | exact loop_ret hH4 hHW HKO.out HFRW.out HFT.out HWK.out herr.lo herr.hi herr.wr (fun hp hi => by subst hi; rw [HRR.out hp]; exact lookL_err iB fB HGET.out (fun e => absurd e.2.2.1 (by omega)) (by rw [HST.out]; exact Prod.ext rfl herr.eq))
          | exact loop_ret hH4 hHW HKO.out HFRW.out HFT.out HWK.out herr.lo herr.hi herr.wr (fun hp hi => by subst hi; rw [HRR.out hp]; exact lookL_err iB fB HGET.out (fun e => absurd e.2.2.2 (by omega)) (by rw [HST.out]; exact Prod.ext rfl herr.eq))
          | exact loop_ret hH4 hHW HKO2.out HFR2.out (Foot.of HB.out) ((HB.out.block _ (Nat.lt_of_lt_of_le HFR2.out.hB (Nat.le_trans (Nat.le_add_right _ 4) HFR2.out.size))).trans HFR2.out.walker) HP1.out HP2.out (x := ⟨20, a1, shortB s1⟩) HWR.out (fun hp hi => by subst hi; rw [HRR.out hp]; exact lookL_dup iB fB HGET.out (by rw [HST.out]; exact HC.out) (by decide) (by assumption) (by assumption))
    case done =>
      rintro D ys W hD hys ⟨d, sn, fr, hd, hd01, hs0', hs1', hHW, hrr⟩ hK
      have hlen : ys.length = ks.length := by have := congrArg List.length hys; simpa using this
      have hrf : r = (sn, none) := by rw [hrr (by rw [hlen]; exact hys)]; exact lookL_end iB fB (by omega)
      obtain ⟨f1, f2, f3, f4, f5, f6, f7, f8, f9, f10, f11⟩ := fr.cells
      have HRR := Lib.hid hrf
      have HFR := Lib.hid fr
      clear hrf fr hrr
      gi_wp2
      exact look_done HFR.out (by omega) hK HRR.out _ rfl
    case stop =>
      rintro D c pre W hD ⟨j, hj, hpre⟩ hx hK
      have HX := Lib.hid hx
      obtain ⟨_, _, _, rfl, _⟩ := hx
      gi_wp2
      exact look_stop (by omega) HX.out hpre hD hK _ rfl
end Go.Proofs.YtjpmghgmmeemkaaGreatDoor
