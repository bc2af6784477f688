/- Contracts. Written by a program (wip/tools/gen.py). -/
import Derived.Test.YtfbbkknfcmofcaaDoorSp
import Derived.Test.YtfbbkknfcmofcaaDoorDigestk
namespace Go.Proofs.YtfbbkknfcmofcaaDoor
open Go.Sy Go.RatLaw
set_option linter.unusedVariables false


abbrev Rd (a b c : Int) : TV := .agg [li .i64 a, li .i64 b, li .i64 c]
abbrev R32 (a : Int) : TV := .one (.d (.lit (.int .i32 a)))
abbrev L32 (l : List Int) : TV := .one (.d (.sl (.ti .i32) l))
abbrev SQ (q : ByteArray) : TV := .one (.d (.lit (.string q)))
abbrev M (id kind y p d s ver note val : Int) (q : ByteArray) : TV := .agg [li .i64 id, li .i64 kind, li .i64 y, li .i64 p, li .i64 d, li .i64 s, li .i64 ver, li .i64 note, li .i64 val, .d (.lit (.string q))]
end Go.Proofs.YtfbbkknfcmofcaaDoor
