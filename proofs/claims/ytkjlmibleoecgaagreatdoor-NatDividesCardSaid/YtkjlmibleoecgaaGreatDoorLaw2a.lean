/- Numbers that the laws of 01 read, and the contracts with sizes. -/
import Derived.Test.YtkjlmibleoecgaaGreatDoorLaw1b
import Derived.Test.YtkjlmibleoecgaaGreatDoorCon
namespace Go.Proofs.YtkjlmibleoecgaaGreatDoor
open Go.RowKit
end Go.Proofs.YtkjlmibleoecgaaGreatDoor
