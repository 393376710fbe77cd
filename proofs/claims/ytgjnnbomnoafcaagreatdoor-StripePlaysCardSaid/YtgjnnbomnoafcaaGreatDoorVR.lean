/- Texts of one proof, joined: JourF, JourG, JourH, JourLive. -/
import Derived.Test.YtgjnnbomnoafcaaGreatDoorVQ
import Derived.Test.YtgjnnbomnoafcaaGreatDoorVI
import Derived.Test.YtgjnnbomnoafcaaGreatDoorVG
set_option linter.unusedVariables false
set_option linter.unusedSimpArgs false
namespace Go.Proofs.YtgjnnbomnoafcaaGreatDoor
set_option linter.unusedVariables false
open Go Go.RowKit
attribute [local irreducible] wpSQ
end Go.Proofs.YtgjnnbomnoafcaaGreatDoor
namespace Go.Proofs.YtgjnnbomnoafcaaGreatDoor
set_option linter.unusedVariables false
namespace Rck
variable {R:Rck} {c:Cfg} {slot:Int}
end Rck
end Go.Proofs.YtgjnnbomnoafcaaGreatDoor
