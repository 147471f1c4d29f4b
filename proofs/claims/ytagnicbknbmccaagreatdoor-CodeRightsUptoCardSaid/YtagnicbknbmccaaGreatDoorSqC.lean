/- What a step puts into the frame, as one row of rewriting rules. -/
import Derived.WalkKit
namespace Go.Proofs.YtagnicbknbmccaaGreatDoor
theorem nmC:(∀(a:Act) (d:Tmp) (v:Value),a.put (some d) v=⟨a.tmps.setIfInBounds d v,a.defers⟩)∧(∀(a:Act) (v:Value),a.put none v=a)∧(∀ {α:Type} (l:List α) (i:Nat) (h:i<l.toArray.size),l.toArray[i]=l[i]'(by simpa using h))∧(∀ {α:Type} (a:α) (l:List α) (h:0<(a::l).length),(a::l)[0]=a)∧(∀ {α:Type} (a:α) (l:List α) (i:Nat) (h:i+1<(a::l).length),(a::l)[i+1]=l[i]'(by simpa using h))∧(∀ {α:Type} (l:List α) (i:Nat) (a:α),l.toArray.setIfInBounds i a=(l.set i a).toArray)∧(∀ {α:Type} (a b:α) (l:List α),(a::l).set 0 b=b::l)∧∀ {α:Type} (a b:α) (l:List α) (i:Nat),(a::l).set (i+1) b=a::l.set i b:=
 ⟨fun _ _ _=>rfl,fun _ _=>rfl,fun _ _ _=>rfl,fun _ _ _=>rfl,fun _ _ _ _=>rfl,fun _ _ _=>List.setIfInBounds_toArray ..,fun _ _ _=>rfl,fun _ _ _ _=>rfl⟩
theorem gq:(∀ {α:Type} (l:List α) (i:Nat),l.toArray[i]? =l[i]?)∧(∀ {α:Type} (a:α) (l:List α),(a::l)[0]? =some a)∧∀ {α:Type} (a:α) (l:List α) (i:Nat),(a::l)[i+1]? =l[i]? :=⟨fun _ _=>List.getElem?_toArray ..,fun _ _=>rfl,fun _ _ _=>rfl⟩
end Go.Proofs.YtagnicbknbmccaaGreatDoor
