/- unicode.SimpleFold at six letters. No condition. -/
import Derived.Test.YtilhbalhkljanaaGreatDoorProg
import Derived.WalkKit
import Derived.WalkSpells
set_option linter.unusedSimpArgs false
namespace Go.Proofs.YtilhbalhkljanaaGreatDoor
open Go.RowKit
end Go.Proofs.YtilhbalhkljanaaGreatDoor
