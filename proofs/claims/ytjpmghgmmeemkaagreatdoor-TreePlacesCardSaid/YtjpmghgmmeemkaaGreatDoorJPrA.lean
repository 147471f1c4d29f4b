/- The printer over any tree: trees up to places, what a step of it keeps; line, names, word. The printer over any tree: what bare and stmt write is a thing of the tree up to its places; expr, one, row, head. The printer: one, head. The printer: row, lines, block, function. -/
import Derived.Deep.DeepCutAuto
import Derived.Test.YtjpmghgmmeemkaaGreatDoorJBare
namespace Go.Proofs.YtjpmghgmmeemkaaGreatDoor
open Go.RowKit

mutual
/-- A tree without its places. -/
def Nd.strip : Nd → Nd
  | .mk k s n _ ks => .mk k s n 0 (stripL ks)
def stripL : List Nd → List Nd
  | [] => []
  | t :: ts => t.strip :: stripL ts
end
theorem stripL_map : ∀ ts : List Nd, stripL ts = ts.map Nd.strip
  | [] => rfl
  | t :: ts => by rw [stripL, stripL_map ts]; rfl
theorem stripL_length (ts : List Nd) : (stripL ts).length = ts.length := by rw [stripL_map]; simp
theorem stripL_get (ts : List Nd) (i : Nat) : (stripL ts)[i]? = (ts[i]?).map Nd.strip := by rw [stripL_map]; simp
theorem stripL_drop (ts : List Nd) (i : Nat) : stripL (ts.drop i) = (stripL ts).drop i := by rw [stripL_map, stripL_map, List.map_drop]
theorem strip_kind (t : Nd) : t.strip.kind = t.kind := by cases t; rfl
theorem strip_text (t : Nd) : t.strip.text = t.text := by cases t; rfl
theorem strip_num (t : Nd) : t.strip.num = t.num := by cases t; rfl
theorem strip_kids (t : Nd) : t.strip.kids = stripL t.kids := by cases t; rfl

/-- The printer's state at a world W, since the world w: its text; the nodes that lie in blocks of the caller's. -/
structure PSt (bp : Nat) (w : World) (rows : List (Nat × Array Value)) (x : WX) (W : World) : Prop where
  pr : PrAt bp x.1 x.2 W
  len : x.1.length ≤ 60000
  pf : PF bp w W
  rows : ∀ r ∈ rows, W.heap[r.1]? = some (.cells r.2 24 (0, 0)) ∧ r.1 ≠ bp
section
variable {bp : Nat} {w W : World} {rows : List (Nat × Array Value)} {x : WX}
theorem PSt.lt (h : PSt bp w rows x W) : bp < W.heap.size := h.pr.lt
theorem PSt.below (h : PSt bp w rows x W) {W' : World} (hb : Below W.heap.size W W') : PSt bp w rows x W' :=
  ⟨h.pr.below hb, h.len, h.pf.trans (PF.of hb (Nat.le_of_lt h.lt)), fun r hr => ⟨(hb.block _ (Array.getElem?_eq_some_iff.1 (h.rows r hr).1).1).trans (h.rows r hr).1, (h.rows r hr).2⟩⟩
theorem PSt.alloc (h : PSt bp w rows x W) (o : Obj) : PSt bp w rows x (W.alloc o) := h.below ((Below.refl _ _).alloc (Nat.le_refl _) _)
theorem PSt.drew (h : PSt bp w rows x W) : PSt bp w rows x W.drew := h.below ((Below.refl _ _).drew)
theorem PSt.push (h : PSt bp w rows x W) (cs : Array Value) : PSt bp w ((W.heap.size, cs) :: rows) x (W.alloc (.cells cs 24 (0, 0))) := by
  have hk := h.alloc (.cells cs 24 (0, 0))
  refine ⟨hk.pr, hk.len, hk.pf, fun r hr => ?_⟩
  rcases List.mem_cons.1 hr with rfl | hr
  · exact ⟨heap_alloc_new _ _, Nat.ne_of_gt h.lt⟩
  · exact hk.rows r hr
theorem PSt.start (h : PrAt bp x.1 x.2 w) (hl : x.1.length ≤ 60000) : PSt bp w [] x w := ⟨h, hl, PF.refl _ _, fun r hr => by simp at hr⟩
theorem PSt.init (h : PrAt bp x.1 x.2 w) (hl : x.1.length ≤ 60000) (cs : Array Value) : PSt bp w [(w.heap.size, cs)] x (w.alloc (.cells cs 24 (0, 0))) := (PSt.start h hl).push cs
theorem PSt.cell (h : PSt bp w rows x W) {g : Nat} {cs : Array Value} (hm : (g, cs) ∈ rows) (i : Nat) : W.cell? ⟨g, i, none⟩ = cs[i]? := cell_of_row W g i _ _ _ (h.rows _ hm).1
theorem PSt.at_ (h : PSt bp w rows x W) {g : Nat} {cs : Array Value} (hm : (g, cs) ∈ rows) (i : Nat) {v : Value} (hv : cs[i]? = some v) : W.cell? ⟨g, i, none⟩ = some v := (h.cell hm i).trans hv
theorem PSt.kid (h : PSt bp w rows x W) {b j : Nat} {v : Value} (hb : b < bp) (hc : w.cell? ⟨b, j, none⟩ = some v) : W.cell? ⟨b, j, none⟩ = some v := (h.pf.below.cell (p := ⟨b, j, none⟩) hb).trans hc
theorem PSt.lies (h : PSt bp w rows x W) {t : Nd} {v : Value} (hl : Lies w bp t v) : Lies W bp t v := hl.below h.pf.below
theorem PSt.liesL (h : PSt bp w rows x W) {ts : List Nd} {b o : Nat} (hb : b < bp) (hl : LiesL w bp ts b o) : LiesL W bp ts b o := hl.below h.pf.below hb
theorem PSt.long (h : PSt bp w rows x W) : W.cell? ⟨bp, 2, none⟩ = some (.bool x.2) := h.pr.long
theorem PSt.fin (h : PSt bp w rows x W) : WrPost bp x w (.returned (.tuple #[])) W := ⟨rfl, h.pr, h.len, h.pf⟩

/-- What a writing call leaves of the caller's state. -/
def PSq (bp : Nat) (w : World) (rows : List (Nat × Array Value)) (x : WX) (e : Ending) (w' : World) : Prop := e = .returned (.tuple #[]) ∧ PSt bp w rows x w'
theorem PSt.of (h : PSt bp w rows x W) {x' : WX} {e : Ending} {w' : World} (hp : WrPost bp x' W e w') : PSq bp w rows x' e w' :=
  ⟨hp.1, hp.2.1, hp.2.2.1, h.pf.trans hp.2.2.2, fun r hr => ⟨hp.2.2.2.row (h.rows r hr).1 (h.rows r hr).2 (by decide), (h.rows r hr).2⟩⟩
theorem PSt.call (h : PSt bp w rows x W) {F : Nat} {args : Array Value} {x' : WX} (hc : Calls Tryz.prog F args W (WrPost bp x' W)) : Calls Tryz.prog F args W (PSq bp w rows x') := hc.mono fun _ _ => h.of
theorem PSt.putn (h : PSt bp w rows x W) (ss : List ByteArray) (hs : ∀ s ∈ ss, s.size ≤ 140737488351232) (hn : ss.length ≤ 1000) {z : Nat} (hz : W.heap.size = z := by first | rfl | (simp; done)) :
    Calls Tryz.prog 49 #[.pointer (some ⟨bp, 0, none⟩), .slice (some ⟨z, 0, none⟩) ss.length ss.length] (W.alloc (.cells (ss.map Value.string).toArray 9)) (PSq bp w rows (putL x ss)) := by
  subst hz
  have hlt := h.lt
  refine (put_any bp W.heap.size ss.length ss x.1 x.2 _ (h.alloc _).pr h.len hs (Nat.le_refl _) hn (heap_alloc_new W _) (by omega)).mono ?_
  rintro e w' ⟨h1, h2, h3, h4⟩
  exact h.of ⟨h1, h2, h3, ((PF.refl bp W).alloc (by omega) _).trans h4⟩
theorem PSt.put1 (h : PSt bp w rows x W) (s : ByteArray) (hs : s.size ≤ 140737488351232) {z : Nat} (hz : W.heap.size = z := by first | rfl | (simp; done)) :
    Calls Tryz.prog 49 #[.pointer (some ⟨bp, 0, none⟩), .slice (some ⟨z, 0, none⟩) 1 1] (W.alloc (.cells #[.string s] 9)) (PSq bp w rows (putL x [s])) := h.putn [s] (by simpa using hs) (by simp) hz
theorem PSt.put2 (h : PSt bp w rows x W) (s t : ByteArray) (hs : s.size ≤ 140737488351232) (ht : t.size ≤ 140737488351232) {z : Nat} (hz : W.heap.size = z := by first | rfl | (simp; done)) :
    Calls Tryz.prog 49 #[.pointer (some ⟨bp, 0, none⟩), .slice (some ⟨z, 0, none⟩) 2 2] (W.alloc (.cells #[.string s, .string t] 9)) (PSq bp w rows (putL x [s, t])) := h.putn [s, t] (by simp [hs, ht]) (by simp) hz
theorem PSt.put3 (h : PSt bp w rows x W) (s t u : ByteArray) (hs : s.size ≤ 140737488351232) (ht : t.size ≤ 140737488351232) (hu : u.size ≤ 140737488351232) {z : Nat} (hz : W.heap.size = z := by first | rfl | (simp; done)) :
    Calls Tryz.prog 49 #[.pointer (some ⟨bp, 0, none⟩), .slice (some ⟨z, 0, none⟩) 3 3] (W.alloc (.cells #[.string s, .string t, .string u] 9)) (PSq bp w rows (putL x [s, t, u])) := h.putn [s, t, u] (by simp [hs, ht, hu]) (by simp) hz
theorem PSt.put4 (h : PSt bp w rows x W) (s t u v : ByteArray) (hs : s.size ≤ 140737488351232) (ht : t.size ≤ 140737488351232) (hu : u.size ≤ 140737488351232) (hv : v.size ≤ 140737488351232) {z : Nat} (hz : W.heap.size = z := by first | rfl | (simp; done)) :
    Calls Tryz.prog 49 #[.pointer (some ⟨bp, 0, none⟩), .slice (some ⟨z, 0, none⟩) 4 4] (W.alloc (.cells #[.string s, .string t, .string u, .string v] 9)) (PSq bp w rows (putL x [s, t, u, v])) := h.putn [s, t, u, v] (by simp [hs, ht, hu, hv]) (by simp) hz
end

/-- So many tabs. -/
def tabs : Nat → WX → WX
  | 0, x => x
  | n + 1, x => putL (tabs n x) [⟨#[9]⟩]

set_option maxHeartbeats 1000000 in
set_option maxRecDepth 100000 in
theorem line_any (inn : Int) (x : WX) (bp : Nat) (w : World) (h : PrAt bp x.1 x.2 w) (hl : x.1.length ≤ 60000) (hi : okI inn) :
    Calls Tryz.prog 76 #[.pointer (some ⟨bp, 0, none⟩), .int .i64 inn] w (WrPost bp (tabs inn.toNat x) w) := by
  have HS := Lib.hid (PSt.start h hl)
  clear h hl
  obtain ⟨hi1, hi2⟩ := hi
  obtain ⟨R, HR⟩ : ∃ R, Hid (tabs inn.toNat x = R) := ⟨_, rfl⟩
  rw [HR.out]
  go_enter Tryz.func76, Tryz.ntmps76
  go_wp2_with fail
  go_loopw [5] (fun i wr => ∃ j : Nat, i = .int .i64 j ∧ j ≤ inn.toNat ∧ Hid (PSt bp w [] (tabs j x) wr)) (fun i _ => inn.toNat - (intOf i).toNat)
  case atStart => exact ⟨0, rfl, by omega, HS⟩
  case round =>
    obtain ⟨j, rfl, hj, hs⟩ := hrel
    by_cases hlt : j < inn.toNat
    · obtain ⟨y, HY⟩ : ∃ y, Hid (tabs j x = y) := ⟨_, rfl⟩
      rw [HY.out] at hs
      have hlt' : (j : Int) < inn := by omega
      have hj63 : (j : Int) + 1 ≤ 9223372036854775807 := by omega
      go_wp2_with (go_at_call 49; refine (hs.out.put1 ⟨#[9]⟩ (by decide)).mono ?_; rintro e w1 ⟨rfl, h1⟩)
      go_roundw
      case rel => exact ⟨j + 1, by go_num, by omega, Lib.hid (by rw [tabs, HY.out]; exact h1)⟩
      case measure => simp [intOf]; omega
    · have hj' : inn ≤ (j : Int) := by omega
      have hr : tabs j x = R := by rw [← HR.out]; congr 1; omega
      rw [hr] at hs
      go_wp2_with fail
      go_end0
      exact hs.out.fin

/-- Names with commas. -/
def namesW : Bool → List Nd → WX → WX
  | _, [], x => x
  | first, t :: r, x => namesW false r (putL (if first then x else putL x [⟨#[44, 32]⟩]) [t.text])

set_option maxHeartbeats 1000000 in
set_option maxRecDepth 100000 in
theorem names_any (t : Nd) (v : Value) (x : WX) (bp : Nat) (w : World) (h : PrAt bp x.1 x.2 w) (hl : x.1.length ≤ 60000) (hn : Lies w bp t v) :
    Calls Tryz.prog 52 #[.pointer (some ⟨bp, 0, none⟩), v] w (WrPost bp (namesW true t.strip.kids x) w) := by
  obtain ⟨k, s, n, a, ks⟩ := t
  unfold Lies at hn
  obtain ⟨A, cap, rfl, _, _, _, _, hc1, hc2, hk⟩ := hn
  have hs := PSt.init h hl #[.int .i64 k, .string s, .int .i64 n, .int .i64 a, .slice A ks.length cap]
  have c4 := hs.at_ (List.mem_singleton.2 rfl) 4 rfl
  have HS := Lib.hid hs
  have HK := Lib.hid hk
  obtain ⟨R, HR⟩ : ∃ R, Hid (namesW true (stripL ks) x = R) := ⟨_, rfl⟩
  rw [show (Nd.mk k s n a ks).strip.kids = stripL ks from rfl, HR.out]
  clear h hl hs hk
  go_enter Tryz.func52, Tryz.ntmps52
  go_wp2_with fail
  go_loopw [9] (fun i wr => ∃ (j : Nat) (y : WX), i = .int .i64 j ∧ j ≤ ks.length ∧ Hid (PSt bp w [(w.heap.size, #[.int .i64 k, .string s, .int .i64 n, .int .i64 a, .slice A ks.length cap])] y wr) ∧ Hid (namesW (decide (j = 0)) ((stripL ks).drop j) y = R)) (fun i _ => ks.length - (intOf i).toNat)
  case atStart => exact ⟨0, x, rfl, by omega, HS, HR⟩
  case round =>
    obtain ⟨j, y, rfl, hj, hs, hr⟩ := hrel
    by_cases hlt : j < ks.length
    · obtain ⟨b, o, rfl, hbl, hkl⟩ : ∃ b o, A = some ⟨b, o, none⟩ ∧ b < bp ∧ LiesL w bp ks b o := by
        rcases HK.out with h | h
        · subst h; simp at hlt
        · exact h
      obtain ⟨k', s', n', a', A2, cap2, ks', ht, d0, d1, d2, d3, d4, hLt⟩ := LiesL.get j hlt (hs.out.liesL hbl hkl)
      have hd : (stripL ks).drop j = Nd.strip (.mk k' s' n' a' ks') :: (stripL ks).drop (j + 1) := drop_cons (by rw [stripL_get, ht]; rfl)
      have hss : s'.size ≤ 140737488351232 := by unfold Lies at hLt; exact hLt.choose_spec.choose_spec.2.2.2.2.1
      rw [hd] at hr
      have hs2 := hs.out.alloc (.cells #[.int .i64 k', .string s', .int .i64 n', .int .i64 a', .slice A2 ks'.length cap2] 24 (0, 0))
      have HS2 := Lib.hid hs2
      clear ht hLt hd hs2 hkl
      by_cases hj0 : j = 0
      · have hr' : namesW false ((stripL ks).drop (j + 1)) (putL y [s']) = R := by
          have h := hr.out
          rw [decide_eq_true hj0] at h
          exact h
        have HR' := Lib.hid hr'
        have hj1 : (j : Int) ≤ 0 := by omega
        clear hr' hj0
        go_wp2_with (go_at_call 49; refine (HS2.out.put1 s' hss).mono ?_; rintro e w1 ⟨rfl, h1⟩)
        go_roundw
        case rel => exact ⟨j + 1, _, by go_num, by omega, Lib.hid h1, HR'⟩
        case measure => simp [intOf]; omega
      · have hr' : namesW false ((stripL ks).drop (j + 1)) (putL (putL y [⟨#[44, 32]⟩]) [s']) = R := by
          have h := hr.out
          rw [decide_eq_false hj0] at h
          exact h
        have HR' := Lib.hid hr'
        have hj1 : (0 : Int) < j := by omega
        clear hr' hj0
        have HPS := Lib.hid ((hs.out.push #[.int .i64 k', .string s', .int .i64 n', .int .i64 a', .slice A2 ks'.length cap2]))
        go_wp2_with (first
          | (go_at_call 49; refine (HPS.out.put1 ⟨#[44, 32]⟩ (by decide)).mono ?_; clear HPS; rintro e w1 ⟨rfl, h1⟩
             have e1 := h1.at_ (List.mem_cons_self ..) 1 rfl
             have HS1 := Lib.hid h1; clear h1)
          | (go_at_call 49; refine (HS1.out.put1 s' hss).mono ?_; rintro e w2 ⟨rfl, h2⟩))
        go_roundw
        case rel => exact ⟨j + 1, _, by go_num, by omega, Lib.hid ⟨h2.pr, h2.len, h2.pf, fun r hr => h2.rows r (List.mem_cons_of_mem _ hr)⟩, HR'⟩
        case measure => simp [intOf]; omega
    · obtain rfl : j = ks.length := by omega
      have hr' : y = R := by
        have h := hr.out
        rw [List.drop_of_length_le (by rw [stripL_length]; omega)] at h
        cases hb : decide (ks.length = 0) <;> (rw [hb] at h; exact h)
      subst hr'
      go_wp2_with fail
      go_end0
      exact hs.out.fin

set_option maxHeartbeats 1000000 in
set_option maxRecDepth 100000 in
theorem prWord_any (s t : ByteArray) (x : WX) (bp : Nat) (w : World) (h : PrAt bp x.1 x.2 w) (hl : x.1.length ≤ 60000) (hs : s.size ≤ 140737488351232) (ht : t.size ≤ 140737488351232) :
    Calls Tryz.prog 81 #[.pointer (some ⟨bp, 0, none⟩), .string s, .string t] w (WrPost bp (if t.toList = [] then putL x [s] else putL (putL x [s]) [⟨#[32]⟩, t]) w) := by
  have HS := Lib.hid (PSt.start h hl)
  obtain ⟨R, HR⟩ : ∃ R, Hid ((if t.toList = [] then putL x [s] else putL (putL x [s]) [⟨#[32]⟩, t]) = R) := ⟨_, rfl⟩
  rw [HR.out]
  clear h hl
  by_cases h0 : t.toList = []
  · have hr : putL x [s] = R := by rw [← HR.out, if_pos h0]
    subst hr
    go_enter Tryz.func81, Tryz.ntmps81
    go_wp2_with (go_at_call 49; refine (HS.out.put1 s hs).mono ?_; rintro e w1 ⟨rfl, h1⟩)
    go_end0
    exact h1.fin
  · have hr : putL (putL x [s]) [⟨#[32]⟩, t] = R := by rw [← HR.out, if_neg h0]
    subst hr
    have h0' : (t.toList == []) = false := by simpa using h0
    go_enter Tryz.func81, Tryz.ntmps81
    go_wp2_with (first
      | (go_at_call 49; refine (HS.out.put1 s hs).mono ?_; clear HS; rintro e w1 ⟨rfl, h1⟩; have HS1 := Lib.hid h1; clear h1)
      | (go_at_call 49; refine (HS1.out.put2 ⟨#[32]⟩ t (by decide) ht).mono ?_; rintro e w2 ⟨rfl, h2⟩))
    go_end0
    exact h2.fin
end Go.Proofs.YtjpmghgmmeemkaaGreatDoor

namespace Go.Proofs.YtjpmghgmmeemkaaGreatDoor
open Go.RowKit

/-- What bare writes of a tree up to its places. -/
def BareIs (c : Nd) (f : Int → Bool → WX → WX) : Prop := ∀ (t : Nd), t.strip = c → ∀ (v : Value) (inn : Int) (head : Bool) (x : WX) (bp : Nat) (w : World), okI inn → PrAt bp x.1 x.2 w → x.1.length ≤ 60000 → Lies w bp t v →
  Calls Tryz.prog 57 #[.pointer (some ⟨bp, 0, none⟩), v, .int .i64 inn, .bool head] w (WrPost bp (f inn head x) w)
/-- What stmt writes of a tree up to its places. -/
def StmtIs (c : Nd) (f : Int → WX → WX) : Prop := ∀ (t : Nd), t.strip = c → ∀ (v : Value) (inn : Int) (x : WX) (bp : Nat) (w : World), okI inn → PrAt bp x.1 x.2 w → x.1.length ≤ 60000 → Lies w bp t v →
  Calls Tryz.prog 55 #[.pointer (some ⟨bp, 0, none⟩), v, .int .i64 inn] w (WrPost bp (f inn x) w)
open Classical in
noncomputable def bareF (c : Nd) : Int → Bool → WX → WX := if h : ∃ f, BareIs c f then h.choose else fun _ _ x => x
open Classical in
noncomputable def stmtF (c : Nd) : Int → WX → WX := if h : ∃ f, StmtIs c f then h.choose else fun _ x => x
/-- bare prints it; stmt prints it. -/
def CanB (c : Nd) : Prop := BareIs c (bareF c)
def CanS (c : Nd) : Prop := StmtIs c (stmtF c)
theorem CanB.of {c : Nd} {f : Int → Bool → WX → WX} (h : BareIs c f) : CanB c := by
  have h' : ∃ f, BareIs c f := ⟨f, h⟩
  unfold CanB bareF
  rw [dif_pos h']
  exact h'.choose_spec
theorem CanS.of {c : Nd} {f : Int → WX → WX} (h : StmtIs c f) : CanS c := by
  have h' : ∃ f, StmtIs c f := ⟨f, h⟩
  unfold CanS stmtF
  rw [dif_pos h']
  exact h'.choose_spec

/-- Does an expression want brackets? -/
def wants (k : Int) (need head : Bool) : Bool := need || (head && (k == 41 || k == 42))
noncomputable def exprF (c : Nd) (need : Bool) (inn : Int) (head : Bool) (x : WX) : WX :=
  if x.2 = true then x else if wants c.kind need head = true then putL (bareF c inn false (putL x [⟨#[40]⟩])) [⟨#[41]⟩] else bareF c inn head x

set_option maxHeartbeats 2000000 in
set_option maxRecDepth 100000 in
theorem expr_any {c : Nd} (hf : CanB c) (t : Nd) (htc : t.strip = c) (v : Value) (need : Bool) (inn : Int) (head : Bool) (x : WX) (bp : Nat) (w : World) (hi : okI inn) (h : PrAt bp x.1 x.2 w) (hlen : x.1.length ≤ 60000) (hl : Lies w bp t v) :
    Calls Tryz.prog 72 #[.pointer (some ⟨bp, 0, none⟩), v, .bool need, .int .i64 inn, .bool head] w (WrPost bp (exprF c need inn head x) w) := by
  have HB := Lib.hid (hf t htc)
  obtain ⟨k, s, n, a, ks⟩ := t
  subst htc
  have HL := Lib.hid hl
  unfold Lies at hl
  obtain ⟨A, cap, rfl, _⟩ := hl
  obtain ⟨r, HR⟩ : ∃ r, Hid (exprF (Nd.mk k s n a ks).strip need inn head x = r) := ⟨_, rfl⟩
  rw [HR.out]
  have hs := PSt.init h hlen #[.int .i64 k, .string s, .int .i64 n, .int .i64 a, .slice A ks.length cap]
  have c0 := hs.at_ (List.mem_singleton.2 rfl) 0 rfl
  have c1 := hs.at_ (List.mem_singleton.2 rfl) 1 rfl
  have c2 := hs.at_ (List.mem_singleton.2 rfl) 2 rfl
  have c3 := hs.at_ (List.mem_singleton.2 rfl) 3 rfl
  have c4 := hs.at_ (List.mem_singleton.2 rfl) 4 rfl
  have cl := hs.long
  have HS := Lib.hid hs
  clear h hs hf
  obtain ⟨bs, lg⟩ := x
  cases lg with
  | true =>
    have hr : r = (bs, true) := by rw [← HR.out]; simp [exprF]
    subst hr
    dsimp only at cl
    go_enter Tryz.func72, Tryz.ntmps72
    go_wp2_with fail
    go_end0
    exact HS.out.fin
  | false =>
    dsimp only at cl
    obtain ⟨b, HWN⟩ : ∃ b, Hid (wants k need head = b) := ⟨_, rfl⟩
    go_enter Tryz.func72, Tryz.ntmps72
    go_upto_region 1 with fail
    obtain ⟨W0, HW0⟩ : ∃ W0, Hid (w.alloc (.cells #[.int .i64 k, .string s, .int .i64 n, .int .i64 a, .slice A ks.length cap] 24 (0, 0)) = W0) := ⟨_, rfl⟩
    rw [HW0.out] at HS c0 c1 c2 c3 c4 cl ⊢
    go_upto_region 2 with fail
    go_cut [27] (fun t wx => t = .bool b ∧ wx = W0)
    case first =>
      cases need with
      | true =>
        obtain rfl : true = b := by rw [← HWN.out]; rfl
        go_wp2_with fail
        go_meet
        exact ⟨rfl, rfl⟩
      | false =>
        cases head with
        | false =>
          obtain rfl : false = b := by rw [← HWN.out]; rfl
          go_wp2_with fail
          go_meet
          exact ⟨rfl, rfl⟩
        | true =>
          by_cases h1 : k = 41
          · subst h1
            obtain rfl : true = b := by rw [← HWN.out]; rfl
            go_wp2_with fail
            go_meet
            exact ⟨rfl, rfl⟩
          · have h1' : (k == 41) = false := by simpa using h1
            obtain rfl : (k == 42) = b := by rw [← HWN.out, wants, h1']; rfl
            go_wp2_with fail
            go_meet
            exact ⟨rfl, rfl⟩
    case rest =>
      obtain ⟨rfl, rfl⟩ := hcut
      cases b with
      | true =>
        have hr : r = putL (bareF (Nd.mk k s n a ks).strip inn false (putL (bs, false) [⟨#[40]⟩])) [⟨#[41]⟩] := by
          rw [← HR.out, exprF, if_neg (by simp), if_pos (by rw [strip_kind]; exact HWN.out)]
        obtain ⟨x1, HX1⟩ : ∃ x1, Hid (putL (bs, false) [⟨#[40]⟩] = x1) := ⟨_, rfl⟩
        rw [HX1.out] at hr
        have HRR := Lib.hid hr
        have hp1 := HS.out.put1 ⟨#[40]⟩ (by decide)
        rw [HX1.out] at hp1
        have HP1 := Lib.hid hp1
        clear hr hp1
        go_wp2_with (first
          | (go_at_call 49; refine HP1.out.mono ?_; clear HP1; rintro e w1 ⟨rfl, h1⟩
             clear c0 c1 c2 c3 c4 cl
             have c0 := h1.at_ (List.mem_singleton.2 rfl) 0 rfl
             have c1 := h1.at_ (List.mem_singleton.2 rfl) 1 rfl
             have c2 := h1.at_ (List.mem_singleton.2 rfl) 2 rfl
             have c3 := h1.at_ (List.mem_singleton.2 rfl) 3 rfl
             have c4 := h1.at_ (List.mem_singleton.2 rfl) 4 rfl
             have HC := Lib.hid (h1.call (HB.out _ inn false x1 bp w1 hi h1.pr h1.len (h1.lies HL.out)))
             clear h1)
          | (go_at_call 57; refine HC.out.mono ?_; clear HC; rintro e w2 ⟨rfl, h2⟩; have HS2 := Lib.hid h2; clear h2)
          | (go_at_call 49; refine (HS2.out.put1 ⟨#[41]⟩ (by decide)).mono ?_; clear HS2; rintro e w3 ⟨rfl, h3⟩))
        go_end0
        rw [HRR.out]
        exact h3.fin
      | false =>
        have hr : r = bareF (Nd.mk k s n a ks).strip inn head (bs, false) := by
          rw [← HR.out, exprF, if_neg (by simp), if_neg (by rw [strip_kind]; intro e; have h := HWN.out; rw [show (Nd.mk k s n a ks).kind = k from rfl] at e; rw [e] at h; cases h)]
        have HRR := Lib.hid hr
        have HC := Lib.hid (HS.out.call (HB.out _ inn head (bs, false) bp _ hi HS.out.pr HS.out.len (HS.out.lies HL.out)))
        clear hr
        go_wp2_with (go_at_call 57; refine HC.out.mono ?_; clear HC; rintro e w2 ⟨rfl, h2⟩)
        go_end0
        rw [HRR.out]
        exact h2.fin

theorem strip_mk {k k' : Int} {s s' : ByteArray} {n n' a : Int} {ks cs : List Nd} (h : (Nd.mk k' s' n' a ks).strip = .mk k s n 0 cs) : k = k' ∧ s = s' ∧ n = n' ∧ stripL ks = cs := by
  simp only [Nd.strip, Nd.mk.injEq] at h
  exact ⟨h.1.symm, h.2.1.symm, h.2.2.1.symm, h.2.2.2.2⟩
theorem stripL_cons {ks : List Nd} {y : Nd} {ys : List Nd} (h : stripL ks = y :: ys) : ∃ t tr, ks = t :: tr ∧ t.strip = y ∧ stripL tr = ys := by
  cases ks with
  | nil => cases h
  | cons t tr =>
    simp only [stripL, List.cons.injEq] at h
    exact ⟨t, tr, rfl, h.1, h.2⟩
theorem kids_some {w : World} {B : Nat} {t : Nd} {ts : List Nd} {A : Option Addr} (h : t :: ts = [] ∨ ∃ b o, A = some ⟨b, o, none⟩ ∧ b < B ∧ LiesL w B (t :: ts) b o) : ∃ b o, A = some ⟨b, o, none⟩ ∧ b < B ∧ LiesL w B (t :: ts) b o := by
  rcases h with h | h
  · cases h
  · exact h
theorem LiesL.kidm {w : World} {B : Nat} {ts : List Nd} {b o : Nat} {k : Int} {s : ByteArray} {n a : Int} {ks : List Nd} (i m : Nat) (hm : i * 5 = m) (ht : ts[i]? = some (.mk k s n a ks)) (h : LiesL w B ts b o) :
    ∃ (A : Option Addr) (cap : Nat), (w.cell? ⟨b, o + m, none⟩ = some (.int .i64 k) ∧ w.cell? ⟨b, o + m + 1, none⟩ = some (.string s) ∧ w.cell? ⟨b, o + m + 2, none⟩ = some (.int .i64 n) ∧
      w.cell? ⟨b, o + m + 3, none⟩ = some (.int .i64 a) ∧ w.cell? ⟨b, o + m + 4, none⟩ = some (.slice A ks.length cap)) ∧
      Lies w B (.mk k s n a ks) (.agg #[.int .i64 k, .string s, .int .i64 n, .int .i64 a, .slice A ks.length cap]) := by
  subst hm
  obtain ⟨k', s', n', a', A, cap, ks', ht', h0, h1, h2, h3, h4, hl⟩ := LiesL.get i (List.getElem?_eq_some_iff.1 ht).1 h
  obtain ⟨rfl, rfl, rfl, rfl, rfl⟩ := Nd.mk.inj (Option.some.inj (ht.symm.trans ht'))
  exact ⟨A, cap, ⟨h0, h1, h2, h3, h4⟩, hl⟩
theorem LiesL.kid0 {w : World} {B : Nat} {ts : List Nd} {b o : Nat} {k : Int} {s : ByteArray} {n a : Int} {ks : List Nd} (ht : ts[0]? = some (.mk k s n a ks)) (h : LiesL w B ts b o) :
    ∃ (A : Option Addr) (cap : Nat), (w.cell? ⟨b, o, none⟩ = some (.int .i64 k) ∧ w.cell? ⟨b, o + 1, none⟩ = some (.string s) ∧ w.cell? ⟨b, o + 2, none⟩ = some (.int .i64 n) ∧
      w.cell? ⟨b, o + 3, none⟩ = some (.int .i64 a) ∧ w.cell? ⟨b, o + 4, none⟩ = some (.slice A ks.length cap)) ∧
      Lies w B (.mk k s n a ks) (.agg #[.int .i64 k, .string s, .int .i64 n, .int .i64 a, .slice A ks.length cap]) := LiesL.kidm 0 0 rfl ht h
theorem Lies.size {w : World} {B : Nat} {k : Int} {s : ByteArray} {n a : Int} {ks : List Nd} {v : Value} (h : Lies w B (.mk k s n a ks) v) : s.size ≤ 140737488351232 := by
  unfold Lies at h
  exact h.choose_spec.choose_spec.2.2.2.2.1

/-- What one writes. -/
noncomputable def oneF : Nd → Int → WX → WX
  | .mk k s n a ks, inn, x =>
    if k = 40 then (match ks with
      | [] => x
      | [y] => exprF y false inn false (putL x [s, ⟨#[58, 32]⟩])
      | y :: z :: _ => exprF z false inn false (putL (exprF y false inn false x) [⟨#[58, 32]⟩]))
    else if k = 16 then x else exprF (.mk k s n a ks) false inn false x
/-- one prints it. -/
def CanO (c : Nd) : Prop := (c.kind = 40 → c.kids ≠ [] ∧ ∀ y ∈ c.kids, CanB y) ∧ (c.kind ≠ 40 → c.kind ≠ 16 → CanB c)
end Go.Proofs.YtjpmghgmmeemkaaGreatDoor

namespace Go.Proofs.YtjpmghgmmeemkaaGreatDoor
open Go.RowKit

set_option maxHeartbeats 4000000 in
set_option maxRecDepth 100000 in
theorem one_pair1 {s : ByteArray} {n : Int} {y0 : Nd} (h0 : CanB y0) (t : Nd) (htc : t.strip = .mk 40 s n 0 (y0 :: [])) (v : Value) (inn : Int) (x : WX) (bp : Nat) (w : World) (hi : okI inn) (h : PrAt bp x.1 x.2 w) (hlen : x.1.length ≤ 60000) (hl : Lies w bp t v) :
    Calls Tryz.prog 56 #[.pointer (some ⟨bp, 0, none⟩), v, .int .i64 inn] w (WrPost bp (exprF y0 false inn false (putL x [s, ⟨#[58, 32]⟩])) w) := by
  have HTC := Lib.hid htc
  have HL := Lib.hid hl
  obtain ⟨k', s', n', a, ks⟩ := t
  obtain ⟨rfl, rfl, rfl, hks⟩ := strip_mk htc
  obtain ⟨⟨k0, s0, n0, a0, ks0⟩, tr0, rfl, hy0, hks⟩ := stripL_cons hks
  have HY0 := Lib.hid hy0
  clear hy0
  obtain rfl : tr0 = [] := by cases tr0 with | nil => rfl | cons _ _ => cases hks
  have HKS := Lib.hid hks
  unfold Lies at hl
  obtain ⟨A, cap, rfl, _, _, _, hsz, hcl, hcc, hkl⟩ := hl
  obtain ⟨b, o, rfl, hbl, hkl⟩ := kids_some hkl
  obtain ⟨A0, cap0, hKC0, hL0⟩ := LiesL.kid0 rfl hkl
  have KC0 := Lib.hid hKC0
  have HL0 := Lib.hid hL0
  have hsz0 := hL0.size
  clear hKC0 hL0
  have HKL := Lib.hid hkl
  have hs := PSt.init h hlen #[.int .i64 40, .string s, .int .i64 n, .int .i64 a, .slice (some ⟨b, o, none⟩) (.mk k0 s0 n0 a0 ks0 :: [] : List Nd).length cap]
  simp only [List.length_cons, List.length_nil, Nat.zero_add] at hcl hs ⊢
  have c0 := hs.at_ (List.mem_cons_self ..) 0 rfl
  have c1 := hs.at_ (List.mem_cons_self ..) 1 rfl
  have c2 := hs.at_ (List.mem_cons_self ..) 2 rfl
  have c3 := hs.at_ (List.mem_cons_self ..) 3 rfl
  have c4 := hs.at_ (List.mem_cons_self ..) 4 rfl
  have d00 := hs.kid hbl KC0.out.1
  have d01 := hs.kid hbl KC0.out.2.1
  have d02 := hs.kid hbl KC0.out.2.2.1
  have d03 := hs.kid hbl KC0.out.2.2.2.1
  have d04 := hs.kid hbl KC0.out.2.2.2.2
  have HS := Lib.hid hs
  clear h hs htc hks hkl
  go_enter Tryz.func56, Tryz.ntmps56
  go_wp2_with (first
      | (go_at_call 49; refine (HS.out.put2 s ⟨#[58, 32]⟩ hsz (by decide)).mono ?_; clear HS; rintro e w1 ⟨rfl, hh⟩
         have c0 := hh.at_ (List.mem_cons_self ..) 0 rfl
         have c1 := hh.at_ (List.mem_cons_self ..) 1 rfl
         have c2 := hh.at_ (List.mem_cons_self ..) 2 rfl
         have c3 := hh.at_ (List.mem_cons_self ..) 3 rfl
         have c4 := hh.at_ (List.mem_cons_self ..) 4 rfl
         have d00 := hh.kid hbl KC0.out.1
         have d01 := hh.kid hbl KC0.out.2.1
         have d02 := hh.kid hbl KC0.out.2.2.1
         have d03 := hh.kid hbl KC0.out.2.2.2.1
         have d04 := hh.kid hbl KC0.out.2.2.2.2
         have HS1 := Lib.hid hh
         clear hh)
      | (go_at_call 72; refine (HS1.out.call (expr_any h0 _ HY0.out _ false inn false _ bp _ hi HS1.out.pr HS1.out.len (HS1.out.lies HL0.out))).mono ?_; rintro e w2 ⟨rfl, hf⟩))
  go_end0
  exact hf.fin

set_option maxHeartbeats 4000000 in
set_option maxRecDepth 100000 in
theorem one_pair2 {s : ByteArray} {n : Int} {y0 y1 : Nd} {ys : List Nd} (h0 : CanB y0) (h1 : CanB y1) (t : Nd) (htc : t.strip = .mk 40 s n 0 (y0 :: y1 :: ys)) (v : Value) (inn : Int) (x : WX) (bp : Nat) (w : World) (hi : okI inn) (h : PrAt bp x.1 x.2 w) (hlen : x.1.length ≤ 60000) (hl : Lies w bp t v) :
    Calls Tryz.prog 56 #[.pointer (some ⟨bp, 0, none⟩), v, .int .i64 inn] w (WrPost bp (exprF y1 false inn false (putL (exprF y0 false inn false x) [⟨#[58, 32]⟩])) w) := by
  have HTC := Lib.hid htc
  have HL := Lib.hid hl
  obtain ⟨k', s', n', a, ks⟩ := t
  obtain ⟨rfl, rfl, rfl, hks⟩ := strip_mk htc
  obtain ⟨⟨k0, s0, n0, a0, ks0⟩, tr0, rfl, hy0, hks⟩ := stripL_cons hks
  have HY0 := Lib.hid hy0
  clear hy0
  obtain ⟨⟨k1, s1, n1, a1, ks1⟩, tr1, rfl, hy1, hks⟩ := stripL_cons hks
  have HY1 := Lib.hid hy1
  clear hy1
  have HKS := Lib.hid hks
  unfold Lies at hl
  obtain ⟨A, cap, rfl, _, _, _, hsz, hcl, hcc, hkl⟩ := hl
  obtain ⟨b, o, rfl, hbl, hkl⟩ := kids_some hkl
  obtain ⟨A0, cap0, hKC0, hL0⟩ := LiesL.kid0 rfl hkl
  have KC0 := Lib.hid hKC0
  have HL0 := Lib.hid hL0
  have hsz0 := hL0.size
  clear hKC0 hL0
  obtain ⟨A1, cap1, hKC1, hL1⟩ := LiesL.kidm 1 5 rfl rfl hkl
  have KC1 := Lib.hid hKC1
  have HL1 := Lib.hid hL1
  have hsz1 := hL1.size
  clear hKC1 hL1
  have HKL := Lib.hid hkl
  have hs := PSt.init h hlen #[.int .i64 40, .string s, .int .i64 n, .int .i64 a, .slice (some ⟨b, o, none⟩) (.mk k0 s0 n0 a0 ks0 :: .mk k1 s1 n1 a1 ks1 :: tr1 : List Nd).length cap]
  simp only [List.length_cons] at hcl hs ⊢
  have c0 := hs.at_ (List.mem_cons_self ..) 0 rfl
  have c1 := hs.at_ (List.mem_cons_self ..) 1 rfl
  have c2 := hs.at_ (List.mem_cons_self ..) 2 rfl
  have c3 := hs.at_ (List.mem_cons_self ..) 3 rfl
  have c4 := hs.at_ (List.mem_cons_self ..) 4 rfl
  have d00 := hs.kid hbl KC0.out.1
  have d01 := hs.kid hbl KC0.out.2.1
  have d02 := hs.kid hbl KC0.out.2.2.1
  have d03 := hs.kid hbl KC0.out.2.2.2.1
  have d04 := hs.kid hbl KC0.out.2.2.2.2
  have d10 := hs.kid hbl KC1.out.1
  have d11 := hs.kid hbl KC1.out.2.1
  have d12 := hs.kid hbl KC1.out.2.2.1
  have d13 := hs.kid hbl KC1.out.2.2.2.1
  have d14 := hs.kid hbl KC1.out.2.2.2.2
  have HS := Lib.hid hs
  clear h hs htc hks hkl
  go_enter Tryz.func56, Tryz.ntmps56
  go_wp2_with (first
      | (go_at_call 72; refine (HS.out.call (expr_any h0 _ HY0.out _ false inn false _ bp _ hi HS.out.pr HS.out.len (HS.out.lies HL0.out))).mono ?_; clear HS; rintro e w1 ⟨rfl, hh⟩
         have c0 := hh.at_ (List.mem_cons_self ..) 0 rfl
         have c1 := hh.at_ (List.mem_cons_self ..) 1 rfl
         have c2 := hh.at_ (List.mem_cons_self ..) 2 rfl
         have c3 := hh.at_ (List.mem_cons_self ..) 3 rfl
         have c4 := hh.at_ (List.mem_cons_self ..) 4 rfl
         have d00 := hh.kid hbl KC0.out.1
         have d01 := hh.kid hbl KC0.out.2.1
         have d02 := hh.kid hbl KC0.out.2.2.1
         have d03 := hh.kid hbl KC0.out.2.2.2.1
         have d04 := hh.kid hbl KC0.out.2.2.2.2
         have d10 := hh.kid hbl KC1.out.1
         have d11 := hh.kid hbl KC1.out.2.1
         have d12 := hh.kid hbl KC1.out.2.2.1
         have d13 := hh.kid hbl KC1.out.2.2.2.1
         have d14 := hh.kid hbl KC1.out.2.2.2.2
         have HS1 := Lib.hid hh
         clear hh)
      | (go_at_call 49; refine (HS1.out.put1 ⟨#[58, 32]⟩ (by decide)).mono ?_; clear HS1; rintro e w2 ⟨rfl, hh⟩
         have c0 := hh.at_ (List.mem_cons_self ..) 0 rfl
         have c1 := hh.at_ (List.mem_cons_self ..) 1 rfl
         have c2 := hh.at_ (List.mem_cons_self ..) 2 rfl
         have c3 := hh.at_ (List.mem_cons_self ..) 3 rfl
         have c4 := hh.at_ (List.mem_cons_self ..) 4 rfl
         have d00 := hh.kid hbl KC0.out.1
         have d01 := hh.kid hbl KC0.out.2.1
         have d02 := hh.kid hbl KC0.out.2.2.1
         have d03 := hh.kid hbl KC0.out.2.2.2.1
         have d04 := hh.kid hbl KC0.out.2.2.2.2
         have d10 := hh.kid hbl KC1.out.1
         have d11 := hh.kid hbl KC1.out.2.1
         have d12 := hh.kid hbl KC1.out.2.2.1
         have d13 := hh.kid hbl KC1.out.2.2.2.1
         have d14 := hh.kid hbl KC1.out.2.2.2.2
         have HS2 := Lib.hid hh
         clear hh)
      | (go_at_call 72; refine (HS2.out.call (expr_any h1 _ HY1.out _ false inn false _ bp _ hi HS2.out.pr HS2.out.len (HS2.out.lies HL1.out))).mono ?_; rintro e w3 ⟨rfl, hf⟩))
  go_end0
  exact hf.fin

set_option maxHeartbeats 4000000 in
set_option maxRecDepth 100000 in
theorem one_none {s : ByteArray} {n : Int} {ys : List Nd} (t : Nd) (htc : t.strip = .mk 16 s n 0 (ys)) (v : Value) (inn : Int) (x : WX) (bp : Nat) (w : World) (_hi : okI inn) (h : PrAt bp x.1 x.2 w) (hlen : x.1.length ≤ 60000) (hl : Lies w bp t v) :
    Calls Tryz.prog 56 #[.pointer (some ⟨bp, 0, none⟩), v, .int .i64 inn] w (WrPost bp (x) w) := by
  have HTC := Lib.hid htc
  have HL := Lib.hid hl
  obtain ⟨k', s', n', a, ks⟩ := t
  obtain ⟨rfl, rfl, rfl, hks⟩ := strip_mk htc
  have HKS := Lib.hid hks
  unfold Lies at hl
  obtain ⟨A, cap, rfl, _, _, _, hsz, hcl, hcc, hkl⟩ := hl
  have HKL := Lib.hid hkl
  have hs := PSt.init h hlen #[.int .i64 16, .string s, .int .i64 n, .int .i64 a, .slice A ks.length cap]
  have c0 := hs.at_ (List.mem_cons_self ..) 0 rfl
  have c1 := hs.at_ (List.mem_cons_self ..) 1 rfl
  have c2 := hs.at_ (List.mem_cons_self ..) 2 rfl
  have c3 := hs.at_ (List.mem_cons_self ..) 3 rfl
  have c4 := hs.at_ (List.mem_cons_self ..) 4 rfl
  have HS := Lib.hid hs
  clear h hs htc hks hkl
  go_enter Tryz.func56, Tryz.ntmps56
  go_wp2_with fail
  go_end0
  exact HS.out.fin

set_option maxHeartbeats 4000000 in
set_option maxRecDepth 100000 in
theorem one_expr {k : Int} {s : ByteArray} {n : Int} {ys : List Nd} (hk40 : k ≠ 40) (hk16 : k ≠ 16) (hc : CanB (.mk k s n 0 ys)) (t : Nd) (htc : t.strip = .mk k s n 0 (ys)) (v : Value) (inn : Int) (x : WX) (bp : Nat) (w : World) (hi : okI inn) (h : PrAt bp x.1 x.2 w) (hlen : x.1.length ≤ 60000) (hl : Lies w bp t v) :
    Calls Tryz.prog 56 #[.pointer (some ⟨bp, 0, none⟩), v, .int .i64 inn] w (WrPost bp (exprF (.mk k s n 0 ys) false inn false x) w) := by
  have HTC := Lib.hid htc
  have HL := Lib.hid hl
  obtain ⟨k', s', n', a, ks⟩ := t
  obtain ⟨rfl, rfl, rfl, hks⟩ := strip_mk htc
  have HKS := Lib.hid hks
  unfold Lies at hl
  obtain ⟨A, cap, rfl, _, _, _, hsz, hcl, hcc, hkl⟩ := hl
  have HKL := Lib.hid hkl
  have hs := PSt.init h hlen #[.int .i64 k, .string s, .int .i64 n, .int .i64 a, .slice A ks.length cap]
  have c0 := hs.at_ (List.mem_cons_self ..) 0 rfl
  have c1 := hs.at_ (List.mem_cons_self ..) 1 rfl
  have c2 := hs.at_ (List.mem_cons_self ..) 2 rfl
  have c3 := hs.at_ (List.mem_cons_self ..) 3 rfl
  have c4 := hs.at_ (List.mem_cons_self ..) 4 rfl
  have HS := Lib.hid hs
  clear h hs htc hks hkl
  have n40 : (k == 40) = false := by simpa using hk40
  have n16 : (k == 16) = false := by simpa using hk16
  clear hk40 hk16
  go_enter Tryz.func56, Tryz.ntmps56
  go_wp2_with (go_at_call 72; refine (HS.out.call (expr_any hc _ HTC.out _ false inn false _ bp _ hi HS.out.pr HS.out.len (HS.out.lies HL.out))).mono ?_; rintro e w1 ⟨rfl, hf⟩)
  go_end0
  exact hf.fin

theorem prOne_any {c : Nd} (hc : CanO c) (t : Nd) (htc : t.strip = c) (v : Value) (inn : Int) (x : WX) (bp : Nat) (w : World) (hi : okI inn) (h : PrAt bp x.1 x.2 w) (hlen : x.1.length ≤ 60000) (hl : Lies w bp t v) :
    Calls Tryz.prog 56 #[.pointer (some ⟨bp, 0, none⟩), v, .int .i64 inn] w (WrPost bp (oneF c inn x) w) := by
  obtain ⟨k, s, n, a, cs⟩ := c
  have ha : a = 0 := by
    obtain ⟨k', s', n', a', ks'⟩ := t
    simp only [Nd.strip, Nd.mk.injEq] at htc
    exact htc.2.2.2.1.symm
  subst ha
  obtain ⟨h1, h2⟩ := hc
  by_cases hk : k = 40
  · subst hk
    obtain ⟨hne, hall⟩ := h1 rfl
    match cs, hne, hall, htc with
    | [], hne, _, _ => exact absurd rfl hne
    | [y], _, hall, htc =>
      rw [oneF, if_pos rfl]
      exact one_pair1 (hall y (List.mem_singleton.2 rfl)) t htc v inn x bp w hi h hlen hl
    | y :: z :: ys, _, hall, htc =>
      rw [oneF, if_pos rfl]
      exact one_pair2 (hall y (List.mem_cons_self ..)) (hall z (List.mem_cons_of_mem _ (List.mem_cons_self ..))) t htc v inn x bp w hi h hlen hl
  · by_cases h16 : k = 16
    · subst h16
      have e : oneF (.mk 16 s n 0 cs) inn x = x := by simp [oneF]
      rw [e]
      exact one_none t htc v inn x bp w hi h hlen hl
    · have e : oneF (.mk k s n 0 cs) inn x = exprF (.mk k s n 0 cs) false inn false x := by simp [oneF, hk, h16]
      rw [e]
      exact one_expr hk h16 (h2 hk h16) t htc v inn x bp w hi h hlen hl

set_option maxHeartbeats 4000000 in
set_option maxRecDepth 100000 in
theorem head_none {s : ByteArray} {n : Int} {ys : List Nd} (t : Nd) (htc : t.strip = .mk 16 s n 0 (ys)) (v : Value) (inn : Int) (x : WX) (bp : Nat) (w : World) (_hi : okI inn) (h : PrAt bp x.1 x.2 w) (hlen : x.1.length ≤ 60000) (hl : Lies w bp t v) :
    Calls Tryz.prog 80 #[.pointer (some ⟨bp, 0, none⟩), v, .int .i64 inn] w (WrPost bp (x) w) := by
  have HTC := Lib.hid htc
  have HL := Lib.hid hl
  obtain ⟨k', s', n', a, ks⟩ := t
  obtain ⟨rfl, rfl, rfl, hks⟩ := strip_mk htc
  have HKS := Lib.hid hks
  unfold Lies at hl
  obtain ⟨A, cap, rfl, _, _, _, hsz, hcl, hcc, hkl⟩ := hl
  have HKL := Lib.hid hkl
  have hs := PSt.init h hlen #[.int .i64 16, .string s, .int .i64 n, .int .i64 a, .slice A ks.length cap]
  have c0 := hs.at_ (List.mem_cons_self ..) 0 rfl
  have c1 := hs.at_ (List.mem_cons_self ..) 1 rfl
  have c2 := hs.at_ (List.mem_cons_self ..) 2 rfl
  have c3 := hs.at_ (List.mem_cons_self ..) 3 rfl
  have c4 := hs.at_ (List.mem_cons_self ..) 4 rfl
  have HS := Lib.hid hs
  clear h hs htc hks hkl
  go_enter Tryz.func80, Tryz.ntmps80
  go_wp2_with fail
  go_end0
  exact HS.out.fin

set_option maxHeartbeats 4000000 in
set_option maxRecDepth 100000 in
theorem head_expr {k : Int} {s : ByteArray} {n : Int} {ys : List Nd} (hk16 : k ≠ 16) (hc : CanB (.mk k s n 0 ys)) (t : Nd) (htc : t.strip = .mk k s n 0 (ys)) (v : Value) (inn : Int) (x : WX) (bp : Nat) (w : World) (hi : okI inn) (h : PrAt bp x.1 x.2 w) (hlen : x.1.length ≤ 60000) (hl : Lies w bp t v) :
    Calls Tryz.prog 80 #[.pointer (some ⟨bp, 0, none⟩), v, .int .i64 inn] w (WrPost bp (putL (exprF (.mk k s n 0 ys) false inn true x) [⟨#[32]⟩]) w) := by
  have HTC := Lib.hid htc
  have HL := Lib.hid hl
  obtain ⟨k', s', n', a, ks⟩ := t
  obtain ⟨rfl, rfl, rfl, hks⟩ := strip_mk htc
  have HKS := Lib.hid hks
  unfold Lies at hl
  obtain ⟨A, cap, rfl, _, _, _, hsz, hcl, hcc, hkl⟩ := hl
  have HKL := Lib.hid hkl
  have hs := PSt.init h hlen #[.int .i64 k, .string s, .int .i64 n, .int .i64 a, .slice A ks.length cap]
  have c0 := hs.at_ (List.mem_cons_self ..) 0 rfl
  have c1 := hs.at_ (List.mem_cons_self ..) 1 rfl
  have c2 := hs.at_ (List.mem_cons_self ..) 2 rfl
  have c3 := hs.at_ (List.mem_cons_self ..) 3 rfl
  have c4 := hs.at_ (List.mem_cons_self ..) 4 rfl
  have HS := Lib.hid hs
  clear h hs htc hks hkl
  have n16 : (k == 16) = false := by simpa using hk16
  clear hk16
  go_enter Tryz.func80, Tryz.ntmps80
  go_wp2_with (first
      | (go_at_call 72; refine (HS.out.call (expr_any hc _ HTC.out _ false inn true _ bp _ hi HS.out.pr HS.out.len (HS.out.lies HL.out))).mono ?_; clear HS; rintro e w1 ⟨rfl, hh⟩
         have c0 := hh.at_ (List.mem_cons_self ..) 0 rfl
         have c1 := hh.at_ (List.mem_cons_self ..) 1 rfl
         have c2 := hh.at_ (List.mem_cons_self ..) 2 rfl
         have c3 := hh.at_ (List.mem_cons_self ..) 3 rfl
         have c4 := hh.at_ (List.mem_cons_self ..) 4 rfl
         have HS1 := Lib.hid hh
         clear hh)
      | (go_at_call 49; refine (HS1.out.put1 ⟨#[32]⟩ (by decide)).mono ?_; rintro e w2 ⟨rfl, hf⟩))
  go_end0
  exact hf.fin

/-- What head writes. -/
noncomputable def headF (c : Nd) (inn : Int) (x : WX) : WX := if c.kind = 16 then x else putL (exprF c false inn true x) [⟨#[32]⟩]
theorem head_any {c : Nd} (hc : c.kind ≠ 16 → CanB c) (t : Nd) (htc : t.strip = c) (v : Value) (inn : Int) (x : WX) (bp : Nat) (w : World) (hi : okI inn) (h : PrAt bp x.1 x.2 w) (hlen : x.1.length ≤ 60000) (hl : Lies w bp t v) :
    Calls Tryz.prog 80 #[.pointer (some ⟨bp, 0, none⟩), v, .int .i64 inn] w (WrPost bp (headF c inn x) w) := by
  obtain ⟨k, s, n, a, cs⟩ := c
  have ha : a = 0 := by
    obtain ⟨k', s', n', a', ks'⟩ := t
    simp only [Nd.strip, Nd.mk.injEq] at htc
    exact htc.2.2.2.1.symm
  subst ha
  by_cases h16 : k = 16
  · subst h16
    rw [headF, if_pos (show (Nd.mk 16 s n 0 cs).kind = 16 from rfl)]
    exact head_none t htc v inn x bp w hi h hlen hl
  · rw [headF, if_neg (show ¬ (Nd.mk k s n 0 cs).kind = 16 from h16)]
    exact head_expr h16 (hc h16) t htc v inn x bp w hi h hlen hl
end Go.Proofs.YtjpmghgmmeemkaaGreatDoor

namespace Go.Proofs.YtjpmghgmmeemkaaGreatDoor
open Go.RowKit


theorem okI_wrap (n : Int) : okI (wrap64 n) := by unfold okI wrap64; omega

/-- What row writes. -/
noncomputable def rowF : Bool → List Nd → Int → WX → WX
  | _, [], _, x => x
  | first, c :: r, inn, x => rowF false r inn (oneF c inn (if first then x else putL x [⟨#[44, 32]⟩]))

set_option maxHeartbeats 2000000 in
set_option maxRecDepth 100000 in
theorem row_any' (ts : List Nd) (hc : ∀ y ∈ stripL ts, CanO y) (A : Option Addr) (cap : Nat) (inn : Int) (x : WX) (bp : Nat) (w : World) (hi : okI inn) (h : PrAt bp x.1 x.2 w) (hlen : x.1.length ≤ 60000) (hcap : ts.length ≤ cap) (hcap2 : cap ≤ 9223372036854775807)
    (hk : ts = [] ∨ ∃ b o, A = some ⟨b, o, none⟩ ∧ b < bp ∧ LiesL w bp ts b o) :
    Calls Tryz.prog 83 #[.pointer (some ⟨bp, 0, none⟩), .slice A ts.length cap, .int .i64 inn] w (WrPost bp (rowF true (stripL ts) inn x) w) := by
  have HS := Lib.hid (PSt.start h hlen)
  have HK := Lib.hid hk
  have HC := Lib.hid hc
  obtain ⟨R, HR⟩ : ∃ R, Hid (rowF true (stripL ts) inn x = R) := ⟨_, rfl⟩
  rw [HR.out]
  clear h hlen hk hc
  go_enter Tryz.func83, Tryz.ntmps83
  go_wp2_with fail
  go_loopw [10] (fun i wr => ∃ (j : Nat) (y : WX), i = .int .i64 j ∧ j ≤ ts.length ∧ Hid (PSt bp w [] y wr) ∧ Hid (rowF (decide (j = 0)) ((stripL ts).drop j) inn y = R)) (fun i _ => ts.length - (intOf i).toNat)
  case atStart => exact ⟨0, x, rfl, by omega, HS, HR⟩
  case round =>
    obtain ⟨j, y, rfl, hj, hs, hr⟩ := hrel
    by_cases hlt : j < ts.length
    · obtain ⟨b, o, rfl, hbl, hkl⟩ : ∃ b o, A = some ⟨b, o, none⟩ ∧ b < bp ∧ LiesL w bp ts b o := by
        rcases HK.out with h | h
        · subst h; simp at hlt
        · exact h
      obtain ⟨k', s', n', a', A2, cap2, ks', ht, f0, f1, f2, f3, f4, hLt⟩ := LiesL.get j hlt hkl
      have hg : (stripL ts)[j]? = some (Nd.strip (.mk k' s' n' a' ks')) := by rw [stripL_get, ht]; rfl
      have hco := HC.out _ (List.mem_of_getElem? hg)
      have hd : (stripL ts).drop j = Nd.strip (.mk k' s' n' a' ks') :: (stripL ts).drop (j + 1) := drop_cons hg
      rw [hd] at hr
      have HCO := Lib.hid hco
      have HPS := Lib.hid (hs.out.push #[.int .i64 k', .string s', .int .i64 n', .int .i64 a', .slice A2 ks'.length cap2])
      have HLT := Lib.hid hLt
      have d0 := hs.out.kid hbl f0
      have d1 := hs.out.kid hbl f1
      have d2 := hs.out.kid hbl f2
      have d3 := hs.out.kid hbl f3
      have d4 := hs.out.kid hbl f4
      clear ht hLt hd hkl hg hco f0 f1 f2 f3 f4
      by_cases hj0 : j = 0
      · have hr' : rowF false ((stripL ts).drop (j + 1)) inn (oneF (Nd.strip (.mk k' s' n' a' ks')) inn y) = R := by
          have h := hr.out
          rw [decide_eq_true hj0] at h
          exact h
        have HR' := Lib.hid hr'
        have hj1 : (j : Int) ≤ 0 := by omega
        clear hr' hj0
        go_wp2_with (go_at_call 56; refine (HPS.out.call (prOne_any HCO.out _ rfl _ inn _ bp _ hi HPS.out.pr HPS.out.len (HPS.out.lies HLT.out))).mono ?_; rintro e w1 ⟨rfl, h1⟩)
        go_roundw
        case rel => exact ⟨j + 1, _, by go_num, by omega, Lib.hid ⟨h1.pr, h1.len, h1.pf, fun r hr => by simp at hr⟩, HR'⟩
        case measure => simp [intOf]; omega
      · have hr' : rowF false ((stripL ts).drop (j + 1)) inn (oneF (Nd.strip (.mk k' s' n' a' ks')) inn (putL y [⟨#[44, 32]⟩])) = R := by
          have h := hr.out
          rw [decide_eq_false hj0] at h
          exact h
        have HR' := Lib.hid hr'
        have hj1 : (0 : Int) < j := by omega
        clear hr' hj0
        go_wp2_with (first
          | (go_at_call 49; refine (HPS.out.put1 ⟨#[44, 32]⟩ (by decide)).mono ?_; rintro e w1 ⟨rfl, h1⟩
             have e0 := h1.at_ (List.mem_cons_self ..) 0 rfl
             have e1 := h1.at_ (List.mem_cons_self ..) 1 rfl
             have e2 := h1.at_ (List.mem_cons_self ..) 2 rfl
             have e3 := h1.at_ (List.mem_cons_self ..) 3 rfl
             have e4 := h1.at_ (List.mem_cons_self ..) 4 rfl
             have HS1 := Lib.hid h1
             clear h1 HPS)
          | (go_at_call 56; refine (HS1.out.call (prOne_any HCO.out _ rfl _ inn _ bp _ hi HS1.out.pr HS1.out.len (HS1.out.lies HLT.out))).mono ?_; rintro e w2 ⟨rfl, h2⟩))
        go_roundw
        case rel => exact ⟨j + 1, _, by go_num, by omega, Lib.hid ⟨h2.pr, h2.len, h2.pf, fun r hr => by simp at hr⟩, HR'⟩
        case measure => simp [intOf]; omega
    · obtain rfl : j = ts.length := by omega
      have hr' : y = R := by
        have h := hr.out
        rw [List.drop_of_length_le (by rw [stripL_length]; omega)] at h
        cases hb : decide (ts.length = 0) <;> (rw [hb] at h; exact h)
      subst hr'
      go_wp2_with fail
      go_end0
      exact hs.out.fin


/-- What lines writes. -/
noncomputable def linesF : List Nd → Int → WX → WX
  | [], _, x => x
  | c :: r, inn, x => if x.2 = true then x else linesF r inn (putL (stmtF c inn (tabs inn.toNat x)) [⟨#[10]⟩])

set_option maxHeartbeats 2000000 in
set_option maxRecDepth 100000 in
theorem lines_any (t : Nd) (hc : ∀ y ∈ t.strip.kids, CanS y) (v : Value) (inn : Int) (x : WX) (bp : Nat) (w : World) (hi : okI inn) (h : PrAt bp x.1 x.2 w) (hlen : x.1.length ≤ 60000) (hl : Lies w bp t v) :
    Calls Tryz.prog 77 #[.pointer (some ⟨bp, 0, none⟩), v, .int .i64 inn] w (WrPost bp (linesF t.strip.kids inn x) w) := by
  obtain ⟨k, s, n, a, ks⟩ := t
  rw [show (Nd.mk k s n a ks).strip.kids = stripL ks from rfl] at hc ⊢
  unfold Lies at hl
  obtain ⟨A, cap, rfl, _, _, _, _, hcap, hcap2, hk⟩ := hl
  have hs := PSt.init h hlen #[.int .i64 k, .string s, .int .i64 n, .int .i64 a, .slice A ks.length cap]
  have c4 := hs.at_ (List.mem_cons_self ..) 4 rfl
  have HS := Lib.hid hs
  have HK := Lib.hid hk
  have HC := Lib.hid hc
  obtain ⟨R, HR⟩ : ∃ R, Hid (linesF (stripL ks) inn x = R) := ⟨_, rfl⟩
  rw [HR.out]
  clear h hlen hk hc hs
  go_enter Tryz.func77, Tryz.ntmps77
  go_wp2_with fail
  go_loopw [11] (fun i wr => ∃ (j : Nat) (y : WX), i = .int .i64 j ∧ j ≤ ks.length ∧ Hid (PSt bp w [] y wr) ∧ Hid (linesF ((stripL ks).drop j) inn y = R)) (fun i _ => ks.length - (intOf i).toNat)
  case atStart => exact ⟨0, x, rfl, by omega, Lib.hid ⟨HS.out.pr, HS.out.len, HS.out.pf, fun r hr => by simp at hr⟩, HR⟩
  case round =>
    obtain ⟨j, y, rfl, hj, hs, hr⟩ := hrel
    by_cases hlt : j < ks.length
    · obtain ⟨b, o, rfl, hbl, hkl⟩ : ∃ b o, A = some ⟨b, o, none⟩ ∧ b < bp ∧ LiesL w bp ks b o := by
        rcases HK.out with h | h
        · subst h; simp at hlt
        · exact h
      obtain ⟨k', s', n', a', A2, cap2, ks', ht, f0, f1, f2, f3, f4, hLt⟩ := LiesL.get j hlt hkl
      have hg : (stripL ks)[j]? = some (Nd.strip (.mk k' s' n' a' ks')) := by rw [stripL_get, ht]; rfl
      have hco := HC.out _ (List.mem_of_getElem? hg)
      have hd : (stripL ks).drop j = Nd.strip (.mk k' s' n' a' ks') :: (stripL ks).drop (j + 1) := drop_cons hg
      rw [hd] at hr
      have HCO := Lib.hid hco
      have hps := hs.out.push #[.int .i64 k', .string s', .int .i64 n', .int .i64 a', .slice A2 ks'.length cap2]
      have HPS := Lib.hid hps
      have HLT := Lib.hid hLt
      have cl := hps.long
      have d0 := hs.out.kid hbl f0
      have d1 := hs.out.kid hbl f1
      have d2 := hs.out.kid hbl f2
      have d3 := hs.out.kid hbl f3
      have d4 := hs.out.kid hbl f4
      clear ht hLt hd hkl hg hco f0 f1 f2 f3 f4 hps
      obtain ⟨bs, lg⟩ := y
      cases lg with
      | true =>
        have hr' : R = (bs, true) := by
          rw [← hr.out, linesF, if_pos rfl]
        subst hr'
        dsimp only at cl
        go_wp2_with fail
        go_end0
        exact PSt.fin (rows := []) ⟨HPS.out.pr, HPS.out.len, HPS.out.pf, fun r hr => by simp at hr⟩
      | false =>
        have hr' : linesF ((stripL ks).drop (j + 1)) inn (putL (stmtF (Nd.strip (.mk k' s' n' a' ks')) inn (tabs inn.toNat (bs, false))) [⟨#[10]⟩]) = R := by
          rw [← hr.out]
          conv => rhs; rw [linesF, if_neg (by simp)]
        have HR' := Lib.hid hr'
        dsimp only at cl
        clear hr'
        go_wp2_with (first
          | (go_at_call 76; refine (HPS.out.call (line_any inn _ bp _ HPS.out.pr HPS.out.len hi)).mono ?_; rintro e w1 ⟨rfl, h1⟩
             have e0 := h1.at_ (List.mem_cons_self ..) 0 rfl
             have e1 := h1.at_ (List.mem_cons_self ..) 1 rfl
             have e2 := h1.at_ (List.mem_cons_self ..) 2 rfl
             have e3 := h1.at_ (List.mem_cons_self ..) 3 rfl
             have e4 := h1.at_ (List.mem_cons_self ..) 4 rfl
             have HS1 := Lib.hid h1
             clear h1 HPS)
          | (go_at_call 55; refine (HS1.out.call (HCO.out _ rfl _ inn _ bp _ hi HS1.out.pr HS1.out.len (HS1.out.lies HLT.out))).mono ?_; rintro e w2 ⟨rfl, h2⟩; have HS2 := Lib.hid h2; clear h2 HS1)
          | (go_at_call 49; refine (HS2.out.put1 ⟨#[10]⟩ (by decide)).mono ?_; rintro e w3 ⟨rfl, h3⟩))
        go_roundw
        case rel => exact ⟨j + 1, _, by go_num, by omega, Lib.hid ⟨h3.pr, h3.len, h3.pf, fun r hr => by simp at hr⟩, HR'⟩
        case measure => simp [intOf]; omega
    · obtain rfl : j = ks.length := by omega
      have hr' : y = R := by
        have h := hr.out
        rw [List.drop_of_length_le (by rw [stripL_length]; omega)] at h
        exact h
      subst hr'
      go_wp2_with fail
      go_end0
      exact hs.out.fin

/-- What block writes. -/
noncomputable def blockF (c : Nd) (inn : Int) (x : WX) : WX := putL (tabs inn.toNat (linesF c.kids (wrap64 (inn + 1)) (putL x [⟨#[123, 10]⟩]))) [⟨#[125]⟩]
/-- What function writes. -/
noncomputable def funcF (p b : Nd) (inn : Int) (x : WX) : WX := blockF b inn (putL (namesW true p.kids (putL x [⟨#[40]⟩])) [⟨#[41, 32]⟩])

set_option maxHeartbeats 4000000 in
set_option maxRecDepth 100000 in
theorem block_mk {k : Int} {s : ByteArray} {n : Int} {ys : List Nd} (hc : ∀ y ∈ ys, CanS y) (t : Nd) (htc : t.strip = .mk k s n 0 (ys)) (v : Value) (inn : Int) (x : WX) (bp : Nat) (w : World) (hi : okI inn) (h : PrAt bp x.1 x.2 w) (hlen : x.1.length ≤ 60000) (hl : Lies w bp t v) :
    Calls Tryz.prog 79 #[.pointer (some ⟨bp, 0, none⟩), v, .int .i64 inn] w (WrPost bp (blockF (.mk k s n 0 ys) inn x) w) := by
  have HTC := Lib.hid htc
  have HL := Lib.hid hl
  obtain ⟨k', s', n', a, ks⟩ := t
  obtain ⟨rfl, rfl, rfl, hks⟩ := strip_mk htc
  have HKS := Lib.hid hks
  unfold Lies at hl
  obtain ⟨A, cap, rfl, _, _, _, hsz, hcl, hcc, hkl⟩ := hl
  have HKL := Lib.hid hkl
  have hs := PSt.init h hlen #[.int .i64 k, .string s, .int .i64 n, .int .i64 a, .slice A ks.length cap]
  have c0 := hs.at_ (List.mem_cons_self ..) 0 rfl
  have c1 := hs.at_ (List.mem_cons_self ..) 1 rfl
  have c2 := hs.at_ (List.mem_cons_self ..) 2 rfl
  have c3 := hs.at_ (List.mem_cons_self ..) 3 rfl
  have c4 := hs.at_ (List.mem_cons_self ..) 4 rfl
  have HS := Lib.hid hs
  clear h hs htc hks hkl
  go_enter Tryz.func79, Tryz.ntmps79
  go_wp2_with (first
      | (go_at_call 49; refine (HS.out.put1 ⟨#[123, 10]⟩ (by decide)).mono ?_; clear HS; rintro e w1 ⟨rfl, hh⟩
         have c0 := hh.at_ (List.mem_cons_self ..) 0 rfl
         have c1 := hh.at_ (List.mem_cons_self ..) 1 rfl
         have c2 := hh.at_ (List.mem_cons_self ..) 2 rfl
         have c3 := hh.at_ (List.mem_cons_self ..) 3 rfl
         have c4 := hh.at_ (List.mem_cons_self ..) 4 rfl
         have HS1 := Lib.hid hh
         clear hh)
      | (go_at_call 77; refine (HS1.out.call (lines_any _ (by rw [HTC.out]; exact hc) _ (wrap64 (inn + 1)) _ bp _ (okI_wrap _) HS1.out.pr HS1.out.len (HS1.out.lies HL.out))).mono ?_; clear HS1; rintro e w2 ⟨rfl, hh⟩
         have c0 := hh.at_ (List.mem_cons_self ..) 0 rfl
         have c1 := hh.at_ (List.mem_cons_self ..) 1 rfl
         have c2 := hh.at_ (List.mem_cons_self ..) 2 rfl
         have c3 := hh.at_ (List.mem_cons_self ..) 3 rfl
         have c4 := hh.at_ (List.mem_cons_self ..) 4 rfl
         have HS2 := Lib.hid hh
         clear hh)
      | (go_at_call 76; refine (HS2.out.call (line_any inn _ bp _ HS2.out.pr HS2.out.len hi)).mono ?_; clear HS2; rintro e w3 ⟨rfl, hh⟩
         have c0 := hh.at_ (List.mem_cons_self ..) 0 rfl
         have c1 := hh.at_ (List.mem_cons_self ..) 1 rfl
         have c2 := hh.at_ (List.mem_cons_self ..) 2 rfl
         have c3 := hh.at_ (List.mem_cons_self ..) 3 rfl
         have c4 := hh.at_ (List.mem_cons_self ..) 4 rfl
         have HS3 := Lib.hid hh
         clear hh)
      | (go_at_call 49; refine (HS3.out.put1 ⟨#[125]⟩ (by decide)).mono ?_; rintro e w4 ⟨rfl, hf⟩))
  go_end0
  rw [HTC.out] at hf
  exact hf.fin

theorem block_any {c : Nd} (hc : ∀ y ∈ c.kids, CanS y) (t : Nd) (htc : t.strip = c) (v : Value) (inn : Int) (x : WX) (bp : Nat) (w : World) (hi : okI inn) (h : PrAt bp x.1 x.2 w) (hlen : x.1.length ≤ 60000) (hl : Lies w bp t v) :
    Calls Tryz.prog 79 #[.pointer (some ⟨bp, 0, none⟩), v, .int .i64 inn] w (WrPost bp (blockF c inn x) w) := by
  obtain ⟨k, s, n, a, cs⟩ := c
  have ha : a = 0 := by
    obtain ⟨k', s', n', a', ks'⟩ := t
    simp only [Nd.strip, Nd.mk.injEq] at htc
    exact htc.2.2.2.1.symm
  subst ha
  exact block_mk hc t htc v inn x bp w hi h hlen hl

set_option maxHeartbeats 2000000 in
set_option maxRecDepth 100000 in
theorem func_any {p b : Nd} (hc : ∀ y ∈ b.kids, CanS y) (t u : Nd) (htp : t.strip = p) (hub : u.strip = b) (v z : Value) (inn : Int) (x : WX) (bp : Nat) (w : World) (hi : okI inn) (h : PrAt bp x.1 x.2 w) (hlen : x.1.length ≤ 60000) (hl : Lies w bp t v) (hl2 : Lies w bp u z) :
    Calls Tryz.prog 71 #[.pointer (some ⟨bp, 0, none⟩), v, z, .int .i64 inn] w (WrPost bp (funcF p b inn x) w) := by
  have HL := Lib.hid hl
  have HL2 := Lib.hid hl2
  have HTP := Lib.hid htp
  have HUB := Lib.hid hub
  obtain ⟨k, s, n, a, ks⟩ := t
  obtain ⟨k2, s2, n2, a2, ks2⟩ := u
  unfold Lies at hl hl2
  obtain ⟨A, cap, rfl, _⟩ := hl
  obtain ⟨A2, cap2, rfl, _⟩ := hl2
  have hs := (PSt.init h hlen #[.int .i64 k, .string s, .int .i64 n, .int .i64 a, .slice A ks.length cap]).push #[.int .i64 k2, .string s2, .int .i64 n2, .int .i64 a2, .slice A2 ks2.length cap2]
  rw [World.size_alloc] at hs
  have HS := Lib.hid hs
  have HCC := Lib.hid hc
  clear h hs htp hub hc
  go_enter Tryz.func71, Tryz.ntmps71
  go_wp2_with (first
      | (go_at_call 49; refine (HS.out.put1 ⟨#[40]⟩ (by decide)).mono ?_; clear HS; rintro e w1 ⟨rfl, hh⟩
         have c0 := hh.at_ (List.mem_cons_of_mem _ (List.mem_cons_self ..)) 0 rfl
         have c1 := hh.at_ (List.mem_cons_of_mem _ (List.mem_cons_self ..)) 1 rfl
         have c2 := hh.at_ (List.mem_cons_of_mem _ (List.mem_cons_self ..)) 2 rfl
         have c3 := hh.at_ (List.mem_cons_of_mem _ (List.mem_cons_self ..)) 3 rfl
         have c4 := hh.at_ (List.mem_cons_of_mem _ (List.mem_cons_self ..)) 4 rfl
         have g0 := hh.at_ (List.mem_cons_self ..) 0 rfl
         have g1 := hh.at_ (List.mem_cons_self ..) 1 rfl
         have g2 := hh.at_ (List.mem_cons_self ..) 2 rfl
         have g3 := hh.at_ (List.mem_cons_self ..) 3 rfl
         have g4 := hh.at_ (List.mem_cons_self ..) 4 rfl
         have HS1 := Lib.hid hh
         clear hh)
      | (go_at_call 52; refine (HS1.out.call (names_any _ _ _ bp _ HS1.out.pr HS1.out.len (HS1.out.lies HL.out))).mono ?_; clear HS1; rintro e w2 ⟨rfl, hh⟩
         have c0 := hh.at_ (List.mem_cons_of_mem _ (List.mem_cons_self ..)) 0 rfl
         have c1 := hh.at_ (List.mem_cons_of_mem _ (List.mem_cons_self ..)) 1 rfl
         have c2 := hh.at_ (List.mem_cons_of_mem _ (List.mem_cons_self ..)) 2 rfl
         have c3 := hh.at_ (List.mem_cons_of_mem _ (List.mem_cons_self ..)) 3 rfl
         have c4 := hh.at_ (List.mem_cons_of_mem _ (List.mem_cons_self ..)) 4 rfl
         have g0 := hh.at_ (List.mem_cons_self ..) 0 rfl
         have g1 := hh.at_ (List.mem_cons_self ..) 1 rfl
         have g2 := hh.at_ (List.mem_cons_self ..) 2 rfl
         have g3 := hh.at_ (List.mem_cons_self ..) 3 rfl
         have g4 := hh.at_ (List.mem_cons_self ..) 4 rfl
         have HS2 := Lib.hid hh
         clear hh)
      | (go_at_call 49; refine (HS2.out.put1 ⟨#[41, 32]⟩ (by decide)).mono ?_; clear HS2; rintro e w3 ⟨rfl, hh⟩
         have c0 := hh.at_ (List.mem_cons_of_mem _ (List.mem_cons_self ..)) 0 rfl
         have c1 := hh.at_ (List.mem_cons_of_mem _ (List.mem_cons_self ..)) 1 rfl
         have c2 := hh.at_ (List.mem_cons_of_mem _ (List.mem_cons_self ..)) 2 rfl
         have c3 := hh.at_ (List.mem_cons_of_mem _ (List.mem_cons_self ..)) 3 rfl
         have c4 := hh.at_ (List.mem_cons_of_mem _ (List.mem_cons_self ..)) 4 rfl
         have g0 := hh.at_ (List.mem_cons_self ..) 0 rfl
         have g1 := hh.at_ (List.mem_cons_self ..) 1 rfl
         have g2 := hh.at_ (List.mem_cons_self ..) 2 rfl
         have g3 := hh.at_ (List.mem_cons_self ..) 3 rfl
         have g4 := hh.at_ (List.mem_cons_self ..) 4 rfl
         have HS3 := Lib.hid hh
         clear hh)
      | (go_at_call 79; refine (HS3.out.call (block_any HCC.out _ HUB.out _ inn _ bp _ hi HS3.out.pr HS3.out.len (HS3.out.lies HL2.out))).mono ?_; rintro e w4 ⟨rfl, hf⟩))
  go_end0
  rw [HTP.out] at hf
  exact hf.fin
end Go.Proofs.YtjpmghgmmeemkaaGreatDoor
