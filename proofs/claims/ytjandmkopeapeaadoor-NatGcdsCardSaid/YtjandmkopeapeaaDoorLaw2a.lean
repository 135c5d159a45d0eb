/- Numbers that the laws of 01 read, and the contracts with sizes. -/
import Derived.Test.YtjandmkopeapeaaDoorLaw1b
import Derived.Test.YtjandmkopeapeaaDoorCon
namespace Go.Proofs.YtjandmkopeapeaaDoor
open Go.RowKit
end Go.Proofs.YtjandmkopeapeaaDoor
