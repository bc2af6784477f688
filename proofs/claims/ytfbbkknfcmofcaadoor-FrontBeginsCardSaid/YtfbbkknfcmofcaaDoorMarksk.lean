/- The functions meet their contracts. Written by a program (wip/tools/gen.py). -/
import Derived.Test.YtfbbkknfcmofcaaDoorMarksq
import Derived.Test.YtfbbkknfcmofcaaDoorDigestk
namespace Go.Proofs.YtfbbkknfcmofcaaDoor
open Go.Sy Go.RatLaw
set_option linter.unusedVariables false
set_option maxHeartbeats 4000000
set_option linter.unusedSimpArgs false

end Go.Proofs.YtfbbkknfcmofcaaDoor
