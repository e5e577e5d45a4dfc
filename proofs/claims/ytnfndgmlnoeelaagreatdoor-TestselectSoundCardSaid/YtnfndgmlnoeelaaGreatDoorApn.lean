/- An append within a region that draws its order, from whatever source -/
import Derived.Test.YtnfndgmlnoeelaaGreatDoorZle
import Derived.Deep.AppendLies
import Derived.Deep.RegionHeld3
namespace Go.Proofs.YtnfndgmlnoeelaaGreatDoor
open Go.RowKit Go.Proofs Go.Shelf
section
variable {P : Program}
end
end Go.Proofs.YtnfndgmlnoeelaaGreatDoor
