/- Chapter 3: the document's own reading and writing of colors. -/
import Derived.Test.YthojeoldjhghpabDoorCoB
namespace Go.VL.Color
open Go.FR Go.IR Go.VL Go.VL.Er
noncomputable section
set_option linter.unusedSimpArgs false
set_option linter.unusedVariables false
set_option maxRecDepth 100000
set_option maxHeartbeats 1000000

end
end Go.VL.Color
