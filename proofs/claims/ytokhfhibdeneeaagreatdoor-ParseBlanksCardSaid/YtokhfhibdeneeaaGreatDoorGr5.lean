/- What the condition on the package-level variables gives, in the seat of the Parse statements: lex.words holds the words, strings.asciiSpace its table. A start that meets the condition. -/
import Derived.Test.YtokhfhibdeneeaaGreatDoorRows
import Derived.ChangeArms
import Derived.SizedLaws
import Derived.ProofKit
import Derived.OpenShut
import Derived.KernelRfl
import Derived.Test.YtokhfhibdeneeaaGreatDoorShelf
import Derived.ChangeSame
import Derived.ChangeVars
import Derived.JoinedOf
import Derived.RowKit
import Derived.RowKitTokens
import Derived.LaidLaws
import Derived.LaidHandle
import Derived.LaidMore
import Derived.LaidOnce
import Derived.Stop.Joined
import Derived.Deep.DeepLaidRun
import Derived.Deep.DeepHandedRow
import Derived.Lib.LaidU8
import Derived.Carry
import Derived.Test.YtokhfhibdeneeaaGreatDoorMLex1
namespace Go.Proofs.YtokhfhibdeneeaaGreatDoor
open Go.RowKit Go.ChangeShapes Go.WideShapes Go.ChangeAt

theorem own : ownKnob Tryz.prog.godebug = none := by kernel_rfl
theorem laidOut : laidOutB Tryz.prog = true := by kernel_rfl
theorem gWords : Tryz.prog.globalNamed "guise/lex.words" = some 1 := by kernel_rfl
theorem tWords : (Tryz.prog.globals[1]?).map (·.type) = some 162 := by kernel_rfl
theorem cellsStr5 : Tryz.prog.cellsOf 9 = 1 := by kernel_rfl
theorem cellsWords : Tryz.prog.cellsOf 162 = 22 := by kernel_rfl

theorem strs_of_array {H : Type} {enc : TypeId × Value → H} {P : Program} {W : World} {base : Nat} {sp : Nat → Bool} {held : Bool} {fuel n : Nat} {t e : TypeId} {cs : List Value} {zs : List (List UInt8)} {p : List MemPlace}
    (ht : P.underlying t = some (.array n e)) (he : P.underlying e = some .string) (hc : P.cellsOf e = 1) (hct : P.cellsOf t = n)
    (h : DataW.trod enc P W base sp held fuel t cs = some (.agg (zs.map fun z => .lit (.string z)), p)) : cs = zs.map fun z => Value.string ⟨z.toArray⟩ := by
  obtain ⟨xs, m, rfl, hx, hl, hxl, hall⟩ := DataW.trod_array ht h
  have hxs : xs.map (·.1) = zs.map fun z => (DataW.lit (.string z) : DataW H) := by
    have := congrArg Prod.fst hx
    simpa using this.symm
  have hzl : zs.length = n := by
    have := congrArg List.length hxs
    simp at this
    omega
  apply List.ext_getElem?
  intro i
  by_cases hi : i < n
  · have h1 := hall i hi
    obtain ⟨b, hb⟩ : ∃ b, xs[i]? = some b := ⟨xs[i]'(by omega), List.getElem?_eq_getElem (by omega)⟩
    rw [hb, hc] at h1
    obtain ⟨s, hcz, hs, _⟩ := DataW.trod_string he h1
    have h2 : cs[i]? = some (.string s) := by
      have := congrArg (·[0]?) hcz
      simpa [List.getElem?_take, List.getElem?_drop] using this
    have h3 : (xs.map (·.1))[i]? = some (DataW.lit (.string s.data.toList) : DataW H) := by simp [hb, hs]
    rw [hxs] at h3
    simp only [List.getElem?_map, Option.map_eq_some_iff, DataW.lit.injEq, Lit.string.injEq] at h3
    obtain ⟨z', hz', rfl⟩ := h3
    rw [h2, List.getElem?_map, hz']
    simp
  · rw [List.getElem?_eq_none (by omega), List.getElem?_eq_none (by simp; omega)]

theorem words_of {W : World} (h : Lib.VarReads Tryz.prog W "guise/lex.words" Rows.laid_guise_lex_words) : ∃ t fr, W.heap[1]? = some (.cells wordsV t fr) := by
  obtain ⟨g, t, cs, fuel, p, hg, ht, hv, hd⟩ := h
  obtain rfl := Option.some.inj (gWords.symm.trans hg)
  obtain rfl := Option.some.inj (tWords.symm.trans ht)
  have hcs := strs_of_array (zs := wordsA.map fun s => s.data.toList) Tryz.underlying162 Tryz.underlying9 cellsStr5 cellsWords hd
  have hcs' : cs = wordsV := by
    apply Array.toList_inj.1
    rw [hcs]
    rfl
  subst hcs'
  unfold World.var? at hv
  rw [gWords] at hv
  simp only [Option.bind_some] at hv
  split at hv
  · rename_i cs t fr e
    obtain rfl := Option.some.inj hv
    exact ⟨t, fr, e⟩
  · cases hv

theorem gSpace : Tryz.prog.globalNamed "strings.asciiSpace" = some 2 := by kernel_rfl
theorem tSpace : (Tryz.prog.globals[2]?).map (·.type) = some 163 := by kernel_rfl
theorem cellsSpace : Tryz.prog.cellsOf 163 = 256 := by kernel_rfl
theorem cellsU8 : Tryz.prog.cellsOf 5 = 1 := by kernel_rfl
theorem space_tab : (Rows.laid_strings_asciiSpace : DataW Unit) = Lib.tabData .u8 Lib.asciiSpaceTab := by kernel_rfl
theorem space_of {W : World} (h : Lib.VarReads Tryz.prog W "strings.asciiSpace" Rows.laid_strings_asciiSpace) : ∃ t fr, W.heap[2]? = some (.cells spaceV t fr) := by
  obtain ⟨g, t, cs, fuel, p, hg, ht, hv, hd⟩ := h
  obtain rfl := Option.some.inj (gSpace.symm.trans hg)
  obtain rfl := Option.some.inj (tSpace.symm.trans ht)
  rw [space_tab] at hd
  have hcs := Lib.cells_of_tab Tryz.underlying163 Tryz.underlying5 cellsU8 cellsSpace hd
  have hcs' : cs = spaceV := by
    apply Array.toList_inj.1
    rw [hcs]
    rfl
  subst hcs'
  unfold World.var? at hv
  rw [gSpace] at hv
  simp only [Option.bind_some] at hv
  split at hv
  · rename_i cs t fr e
    obtain rfl := Option.some.inj hv
    exact ⟨t, fr, e⟩
  · cases hv

theorem gSyn : Tryz.prog.globalNamed "strconv.ErrSyntax" = some 4 := by kernel_rfl
theorem size5_of {W : World} {d : DataW Unit} (h : Lib.VarReads Tryz.prog W "strconv.ErrSyntax" d) : 5 ≤ W.heap.size := by
  obtain ⟨g, t, cs, fuel, p, hg, ht, hv, hd⟩ := h
  unfold World.var? at hv
  rw [gSyn] at hv
  simp only [Option.bind_some] at hv
  split at hv
  · rename_i cs t fr e
    exact (Array.getElem?_eq_some_iff.1 e).1
  · cases hv
def laidL : List (String × DataW Unit) := [("math/bits.deBruijn32tab", Rows.laid_math_bits_deBruijn32tab), ("math/bits.deBruijn64tab", Rows.laid_math_bits_deBruijn64tab), ("internal/strconv.uint64pow10", Rows.laid_internal_strconv_uint64pow10), ("strconv.ErrRange", Rows.laid_strconv_ErrRange), ("strconv.ErrSyntax", Rows.laid_strconv_ErrSyntax), ("unicode.White_Space", Rows.laid_unicode_White_Space), ("strings.asciiSpace", Rows.laid_strings_asciiSpace), ("guise/lex.words", Rows.laid_guise_lex_words)]
theorem ground_of {W : World} (h : laidMetH Tryz.prog laidL W) (hsh : W.ShapedOpen Tryz.prog) : Gl W := by
  have hl : laidMet Tryz.prog [("math/bits.deBruijn32tab", Rows.laid_math_bits_deBruijn32tab), ("math/bits.deBruijn64tab", Rows.laid_math_bits_deBruijn64tab), ("internal/strconv.uint64pow10", Rows.laid_internal_strconv_uint64pow10), ("strconv.ErrRange", Rows.laid_strconv_ErrRange), ("strconv.ErrSyntax", Rows.laid_strconv_ErrSyntax), ("unicode.White_Space", Rows.laid_unicode_White_Space), ("strings.asciiSpace", Rows.laid_strings_asciiSpace), ("guise/lex.words", Rows.laid_guise_lex_words)] W := h
  obtain ⟨t, fr, hw⟩ := words_of (Lib.laidMet.reads hl (n := "guise/lex.words") (d := Rows.laid_guise_lex_words) (by simp))
  obtain ⟨t4, fr4, hw4⟩ := space_of (Lib.laidMet.reads hl (n := "strings.asciiSpace") (d := Rows.laid_strings_asciiSpace) (by simp))
  obtain ⟨m, hm⟩ := Go.Proofs.cell_of_shapedOpen_int (zero := #[.int .i64 0]) (t := 3) hsh (of_decide_eq_true (by kernel_rfl)) (by kernel_rfl) rfl (by kernel_rfl) (by kernel_rfl) Tryz.underlying3
  have hm' : W.cell? ⟨0, 0, none⟩ = some (.int .i64 m) := hm
  exact ⟨⟨⟨t, fr, hw⟩, t4, fr4, hw4⟩, ⟨m, hm'⟩, size5_of (Lib.laidMet.reads hl (n := "strconv.ErrSyntax") (d := Rows.laid_strconv_ErrSyntax) (by simp))⟩

set_option maxRecDepth 100000 in
theorem door_run (os : Os) (tape : Tape) : doorLeaves Tryz.prog 91 8 257 laidL os tape = some (laidL.filter fun x => x.2.handleName?.isNone, (funcsListed laidL).map (·.2.funcsOut)) := by kernel_rfl

theorem door_met (os : Os) (args : Array Value) : laidMetH Tryz.prog laidL ((World.doorLaid Tryz.prog 91 os).forCall (fun _ _ => 0) ⟨#[], args, []⟩).memory := by
  have d := door_run os (fun _ _ => 0)
  unfold doorLeaves at d
  split at d
  · rename_i v w hr
    simp only [Option.bind_eq_some_iff] at d
    obtain ⟨x, hx, d⟩ := d
    split at d
    · rename_i hb
      simp only [Bool.and_eq_true] at hb
      simp only [Option.map_eq_some_iff, Prod.mk.injEq] at d
      obtain ⟨y, hy, e1, e2⟩ := d
      have hm : laidMetH Tryz.prog laidL w.memory :=
        laidMetH_of_parts3 (fuel := 8) (laidMet_of_run (ps := x.2) 8 (by rw [hx, ← e1]) (decide_eq_true (nodupBits_sound hb.1.1).1) hb.1.2) hb.2 (by rw [hy, e2])
      have h1 : laidMetH Tryz.prog laidL (World.doorLaid Tryz.prog 91 os) := hm.of_heap (by unfold World.doorLaid varsWorld World.memory; simp only [hr])
      exact h1.of_heap (by simp [World.memory, World.forCall, Input.heap])
    · cases d
  · cases d
set_option maxRecDepth 100000 in
theorem door_shaped (os : Os) (args : Array Value) : ((World.doorLaid Tryz.prog 91 os).forCall (fun _ _ => 0) ⟨#[], args, []⟩).Shaped Tryz.checked.prog :=
  World.shaped_of_RefB (by kernel_rfl) (by kernel_rfl)

end Go.Proofs.YtokhfhibdeneeaaGreatDoor
