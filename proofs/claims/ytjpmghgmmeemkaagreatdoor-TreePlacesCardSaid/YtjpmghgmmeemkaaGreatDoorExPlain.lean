/- The examples' trees: what is right, what they print as. -/
import Derived.Test.YtjpmghgmmeemkaaGreatDoorJPrint
import Derived.Test.YtjpmghgmmeemkaaGreatDoorJScan1
namespace Go.Proofs.YtjpmghgmmeemkaaGreatDoor
open Go.RowKit

abbrev sA : ByteArray := ⟨#[97]⟩
abbrev sB : ByteArray := ⟨#[98]⟩
abbrev sC : ByteArray := ⟨#[99]⟩
abbrev sPlus : ByteArray := ⟨#[43]⟩
abbrev sTimes : ByteArray := ⟨#[42]⟩
abbrev s01 : ByteArray := ⟨#[48, 49]⟩
def xSum : Sx := .both sPlus 0 0 (.name sA 0 0) (.name sB 0 0)
def xProd : Sx := .both sTimes 0 0 xSum (.name sC 0 0)
def xPlus : Sx := .both sPlus 0 0 (.name sA 0 0) xSum
def fNo : ByteArray → Bool := fun _ => false

theorem each_small : ∀ t : Sx, t.nd.Each (NumsAt fNo fNo)
  | .name s n a => by simp [Sx.nd, Nd.Each, EachL, NumsAt, Nd.kind]
  | .both s n a l r => by simp [Sx.nd, Nd.Each, EachL, NumsAt, Nd.kind, each_small l, each_small r]

theorem tl1 (a : UInt8) : (⟨#[a]⟩ : ByteArray).toList = [a] := by rw [data_toList]
theorem tl2 (a b : UInt8) : (⟨#[a, b]⟩ : ByteArray).toList = [a, b] := by rw [data_toList]

theorem bare_prod : Sx.bare xProd ([], false) = ([40, 97, 32, 43, 32, 98, 41, 32, 42, 32, 99], false) := by kernel_rfl
theorem bare_plus : Sx.bare xPlus ([], false) = ([97, 32, 43, 32, 40, 97, 32, 43, 32, 98, 41], false) := by kernel_rfl

theorem look_prod : (xProd.nd.look fNo fNo 1 0 0).2 = none := by kernel_rfl
theorem look_plus : (xPlus.nd.look fNo fNo 1 0 0).2 = none := by kernel_rfl
theorem look_01 : ((Nd.mk 35 s01 0 7 []).look fNo fNo 1 0 0).2 = some ⟨20, 7, s01⟩ := by kernel_rfl
theorem count_sum : xSum.nd.count 1000000 = 3 := by kernel_rfl
theorem same_sum : xSum.nd.Same xSum.nd = true := by kernel_rfl
theorem same_a : xSum.nd.Same (.mk 14 sA 0 0 []) = false := by kernel_rfl
end Go.Proofs.YtjpmghgmmeemkaaGreatDoor
