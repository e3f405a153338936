/- Arguments opened: arrays of bytes. By an AI agent. -/
import Derived.Test.YtknnadnjikfibaaChecked
import Derived.WalkKit
import Derived.ProofKit
import Derived.OpenShut
namespace Go.Proofs.Ytknnadnjikfibaa
open Go.ChangeShapes Go.WideShapes Go.ChangeAt Go.RowKit
end Go.Proofs.Ytknnadnjikfibaa
