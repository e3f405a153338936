/- bpdu.Notice; Parse at a text that is too short, and at a notice; the law's awake. By an AI agent. -/
import Derived.Test.YtdhiaidbpjjljaaNumber
import Derived.Test.YtdhiaidbpjjljaaRow
import Derived.Lib.QuietBelow
import Derived.BigQuiet
import Derived.Lib.Strings
namespace Go.Proofs.Ytdhiaidbpjjljaa
open Go.RowKit Go.Sort

theorem info_word : (Try.prog.info? 45).map (·.size) = some 24 := by kernel_rfl

end Go.Proofs.Ytdhiaidbpjjljaa
