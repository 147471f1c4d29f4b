/- tree.count, tree.same, guiseref2.counted, guiseref2.alike, and Count, Same of both packages. -/
import Derived.Test.YtagnicbknbmccaaGreatDoorProg
import Derived.WalkKit
import Derived.WalkSpells
import Derived.WalkLawsBesides
import Derived.Deep.RegionHeld3
import Derived.Deep.DrawnRows
import Derived.Deep.QuietTactic
import Derived.BigQuiet
import Derived.Test.YtagnicbknbmccaaGreatDoorMNd
namespace Go.Proofs.YtagnicbknbmccaaGreatDoor
open Go.RowKit
end Go.Proofs.YtagnicbknbmccaaGreatDoor
