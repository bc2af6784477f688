/- Contracts. Written by a program (wip/tools/gen.py). -/
import Derived.Test.YtiplcokpckkopaaDoorPp
import Derived.Test.YtiplcokpckkopaaDoorDigestk
namespace Go.Proofs.YtiplcokpckkopaaDoor
open Go.Sy Go.RatLaw
set_option linter.unusedVariables false


abbrev ShT : Ty := .tp (.ti .i64) (.tp (.ti .i64) (.tp (.ti .i64) (.tp (.ti .i64) (.tp (.ti .i64) (.ti .u64)))))
abbrev SH (a b c d e g : Int) : TV := .agg [li .i64 a, li .i64 b, li .i64 c, li .i64 d, li .i64 e, li .u64 g]
abbrev LS (l : List Sh) : TV := .one (.d (.sl ShT l))
abbrev LT (l : List Bool) : TV := .one (.d (.sl .tb l))
abbrev BO (b : Bool) : TV := .one (lb b)
abbrev sgL : List Ty := [.tl (.ti .i64)]
def hisL (l : List (List Int)) : List (List Int × Unit) := l.map fun b => (b, ())
def unL (h : List (List Int × Unit)) : List (List Int) := h.map (·.1)
def goP : Lp (List Int × Unit) := { go := fun _ => true, ok := fun h => h.length ≤ 1000000000 }
def c_zrat : PCon
  | [.one (.d (.lit (.int .i64 n))), .one (.d (.lit (.int .i64 d)))] => some ([], .t (Q n d))
  | _ => none
def c_zfew : PCon
  | [.agg [.d (.lit (.int .i64 p)), .d (.sl (.tp (.ti .i64) (.tp (.ti .i64) (.tp (.tp (.ti .i64) (.ti .i64)) (.tl (.tp (.ti .i64) (.tp (.ti .i64) (.tp (.ti .i64) (.tp (.tp (.ti .i64) (.ti .i64)) (.tp (.tp (.ti .i64) (.ti .i64)) (.tp (.ti .i64) (.tp (.ti .i64) (.ti .i64)))))))))))) ms)], .one (.d (.sl (.tp (.ti .i64) (.ti .i64)) l)), .one (.d (.sl (.tp (.ti .i64) (.ti .i64)) pages))] => some ([], .t (B (few27 ms l pages)))
  | _ => none
def c_zid : PCon
  | [.one (.d (.lit (.int .i64 n)))] => some ([], .t (B (idB n)))
  | _ => none
def c_zrid : PCon
  | [.one (.d (.lit (.int .i64 n)))] => some ([], .t (B (idB n)))
  | _ => none
def c_zblk : PCon
  | [.agg [.d (.lit (.int .i64 p)), .d (.sl (.tp (.ti .i64) (.tp (.ti .i64) (.tp (.tp (.ti .i64) (.ti .i64)) (.tl (.tp (.ti .i64) (.tp (.ti .i64) (.tp (.ti .i64) (.tp (.tp (.ti .i64) (.ti .i64)) (.tp (.tp (.ti .i64) (.ti .i64)) (.tp (.ti .i64) (.tp (.ti .i64) (.ti .i64)))))))))))) ms)], .one (.d (.sl (.tp (.ti .i64) (.ti .i64)) l))] => some ([], .t (B (blocksB ms l)))
  | _ => none
def c_zrblk : PCon
  | [.agg [.d (.lit (.int .i64 p)), .d (.sl (.tp (.ti .i64) (.tp (.ti .i64) (.tp (.tp (.ti .i64) (.ti .i64)) (.tl (.tp (.ti .i64) (.tp (.ti .i64) (.tp (.ti .i64) (.tp (.tp (.ti .i64) (.ti .i64)) (.tp (.tp (.ti .i64) (.ti .i64)) (.tp (.ti .i64) (.tp (.ti .i64) (.ti .i64)))))))))))) ms)], .one (.d (.sl (.tp (.ti .i64) (.ti .i64)) l))] => some ([], .t (B (blocksB ms l)))
  | _ => none
def c_zpag : PCon
  | [.one (.d (.sl (.tp (.ti .i64) (.ti .i64)) l)), .one (.d (.lit (.int .i64 many)))] => some ([], .t (B (pagesB l many)))
  | _ => none
def c_zrpag : PCon
  | [.one (.d (.sl (.tp (.ti .i64) (.ti .i64)) l)), .one (.d (.lit (.int .i64 many)))] => some ([], .t (B (pagesB l many)))
  | _ => none
def c_zbad : PCon
  | [.one (.d (.sl (.tp (.ti .i64) (.ti .i64)) l)), .one (.d (.sl .tb good))] => some ([], .tup [I (badS l good).1, I (badS l good).2])
  | _ => none
def c_zidx : PCon
  | [.one (.d (.sl .tb l)), .one (.d (.lit (.bool v)))] => some ([], .t (I (idxOf (fun x => v == x) l)))
  | _ => none
def c_zcon : PCon
  | [.one (.d (.sl .tb l)), .one (.d (.lit (.bool v)))] => some ([], .t (B (anyB l v)))
  | _ => none
def c_zlist : PCon
  | [.one (.d (.sl (.ti .i64) l))] => some ([], .t (LI l))
  | _ => none
def c_zarepg : PCon
  | [.agg [.d (.lit (.int .i64 p)), .d (.sl (.tp (.ti .i64) (.tp (.ti .i64) (.tp (.tp (.ti .i64) (.ti .i64)) (.tl (.tp (.ti .i64) (.tp (.ti .i64) (.tp (.ti .i64) (.tp (.tp (.ti .i64) (.ti .i64)) (.tp (.tp (.ti .i64) (.ti .i64)) (.tp (.ti .i64) (.tp (.ti .i64) (.ti .i64)))))))))))) ms)], .one (.d (.sl (.tp (.ti .i64) (.ti .i64)) l)), .one (.d (.sl (.tp (.ti .i64) (.ti .i64)) pages))] => some ([], .t (B (arePB ms l pages)))
  | _ => none
def c_zrarepg : PCon
  | [.agg [.d (.lit (.int .i64 p)), .d (.sl (.tp (.ti .i64) (.tp (.ti .i64) (.tp (.tp (.ti .i64) (.ti .i64)) (.tl (.tp (.ti .i64) (.tp (.ti .i64) (.tp (.ti .i64) (.tp (.tp (.ti .i64) (.ti .i64)) (.tp (.tp (.ti .i64) (.ti .i64)) (.tp (.ti .i64) (.tp (.ti .i64) (.ti .i64)))))))))))) ms)], .one (.d (.sl (.tp (.ti .i64) (.ti .i64)) l)), .one (.d (.sl (.tp (.ti .i64) (.ti .i64)) pages))] => some ([], .t (B (arePB ms l pages)))
  | _ => none
def c_zrlists : PCon
  | [.agg [.d (.lit (.int .i64 p)), .d (.sl (.tp (.ti .i64) (.tp (.ti .i64) (.tp (.tp (.ti .i64) (.ti .i64)) (.tl (.tp (.ti .i64) (.tp (.ti .i64) (.tp (.ti .i64) (.tp (.tp (.ti .i64) (.ti .i64)) (.tp (.tp (.ti .i64) (.ti .i64)) (.tp (.ti .i64) (.tp (.ti .i64) (.ti .i64)))))))))))) ms)], .one (.d (.sl (.tp (.ti .i64) (.ti .i64)) l)), .agg [.d (.lit (.int .i64 f)), .d (.lit (.int .i64 u))], .one (.d (.lit (.int .i64 ed))), .one (.d (.lit (.int .i64 ve)))] => some ([onOk ms l f u], .t (LL (listsS p ms l f u ed ve)))
  | _ => none
def c_zlists1 : Con
  | [.one (.yl m), .one (.ptr v 0), .one (.ptr e 0), .one (.ptr s 0), .one (.ptr q 0), .one (.ptr b 0)], hp, _ => if [m, v, e, s, q, b].Nodup then (match hp m, hp v, hp e, hp s, hp q, hp b with
    | some (.ob [.tl (.ti .i64)] [] go), some (.cells [.d (.lit (.int .i64 p)), .d (.sl (.tp (.ti .i64) (.tp (.ti .i64) (.tp (.tp (.ti .i64) (.ti .i64)) (.tl (.tp (.ti .i64) (.tp (.ti .i64) (.tp (.ti .i64) (.tp (.tp (.ti .i64) (.ti .i64)) (.tp (.tp (.ti .i64) (.ti .i64)) (.tp (.ti .i64) (.tp (.ti .i64) (.ti .i64)))))))))))) ms)]), some (.cells [.d (.lit (.int .i64 ed))]), some (.cells [.d (.lit (.int .i64 ve))]), some (.cells [.d (.lit (.int .i64 f)), .d (.lit (.int .i64 u))]), some (.cells [.d (.sl (.tp (.ti .i64) (.ti .i64)) l)]) => some ([onOk ms l f u ∧ (∀ k, go.ok ((hisL (listsS p ms l f u ed ve)).take k)) ∧ ∀ h, go h = true], .tup [], [(m, .ob sgL (hisL (listsS p ms l f u ed ve)) go)])
    | _, _, _, _, _, _ => none) else none
  | _, _, _ => none
def c_zlists : Con
  | [.agg [.d (.lit (.int .i64 p)), .d (.sl (.tp (.ti .i64) (.tp (.ti .i64) (.tp (.tp (.ti .i64) (.ti .i64)) (.tl (.tp (.ti .i64) (.tp (.ti .i64) (.tp (.ti .i64) (.tp (.tp (.ti .i64) (.ti .i64)) (.tp (.tp (.ti .i64) (.ti .i64)) (.tp (.ti .i64) (.tp (.ti .i64) (.ti .i64)))))))))))) ms)], .one (.d (.sl (.tp (.ti .i64) (.ti .i64)) l)), .agg [.d (.lit (.int .i64 f)), .d (.lit (.int .i64 u))], .one (.d (.lit (.int .i64 ed))), .one (.d (.lit (.int .i64 ve)))], hp, fr => match hp fr, hp (fr + 1), hp (fr + 2), hp (fr + 3), hp (fr + 4) with
    | none, none, none, none, none => some ([], .t (.one (.clo 52 [] [(fr, 0), (fr + 3, 0), (fr + 4, 0), (fr + 2, 0), (fr + 1, 0)])), [(fr, .cells [li .i64 p, .d (.sl MT ms)]), (fr + 1, .cells [.d (.sl KT l)]), (fr + 2, .cells [li .i64 f, li .i64 u]), (fr + 3, .cells [li .i64 ed]), (fr + 4, .cells [li .i64 ve])])
    | _, _, _, _, _ => none
  | _, _, _ => none
def c_zdig : PCon
  | [.agg [.d (.lit (.int .i64 p)), .d (.sl (.tp (.ti .i64) (.tp (.ti .i64) (.tp (.tp (.ti .i64) (.ti .i64)) (.tl (.tp (.ti .i64) (.tp (.ti .i64) (.tp (.ti .i64) (.tp (.tp (.ti .i64) (.ti .i64)) (.tp (.tp (.ti .i64) (.ti .i64)) (.tp (.ti .i64) (.tp (.ti .i64) (.ti .i64)))))))))))) ms)], .one (.d (.sl (.tp (.ti .i64) (.ti .i64)) l)), .agg [.d (.lit (.int .i64 f)), .d (.lit (.int .i64 u))], .one (.d (.lit (.int .i64 ed))), .one (.d (.lit (.int .i64 ve)))] => some ([onOk ms l f u, wfM ms, InI64 p, InI64 ed, InI64 ve], .t (U64 (digS p ms l f u ed ve)))
  | _ => none
def c_zpdig : PCon
  | [.agg [.d (.lit (.int .i64 p)), .d (.sl (.tp (.ti .i64) (.tp (.ti .i64) (.tp (.tp (.ti .i64) (.ti .i64)) (.tl (.tp (.ti .i64) (.tp (.ti .i64) (.tp (.ti .i64) (.tp (.tp (.ti .i64) (.ti .i64)) (.tp (.tp (.ti .i64) (.ti .i64)) (.tp (.ti .i64) (.tp (.ti .i64) (.ti .i64)))))))))))) ms)], .one (.d (.sl (.tp (.ti .i64) (.ti .i64)) l)), .agg [.d (.lit (.int .i64 f)), .d (.lit (.int .i64 u))], .one (.d (.lit (.int .i64 ed))), .one (.d (.lit (.int .i64 ve)))] => some ([wfM ms, InI64 p], .tup [U64 (digestS p ms l f u ed ve).1, I (digestS p ms l f u ed ve).2])
  | _ => none
def c_zrdig : PCon
  | [.agg [.d (.lit (.int .i64 p)), .d (.sl (.tp (.ti .i64) (.tp (.ti .i64) (.tp (.tp (.ti .i64) (.ti .i64)) (.tl (.tp (.ti .i64) (.tp (.ti .i64) (.tp (.ti .i64) (.tp (.tp (.ti .i64) (.ti .i64)) (.tp (.tp (.ti .i64) (.ti .i64)) (.tp (.ti .i64) (.tp (.ti .i64) (.ti .i64)))))))))))) ms)], .one (.d (.sl (.tp (.ti .i64) (.ti .i64)) l)), .agg [.d (.lit (.int .i64 f)), .d (.lit (.int .i64 u))], .one (.d (.lit (.int .i64 ed))), .one (.d (.lit (.int .i64 ve)))] => some ([wfM ms, InI64 p], .tup [U64 (digestS p ms l f u ed ve).1, I (digestS p ms l f u ed ve).2])
  | _ => none
def c_zprint1 : Con
  | [.one (.d (.lit (.int .i64 i))), .agg [.d (.lit (.int .i64 f)), .d (.lit (.int .i64 u))], .one (.ptr a 0), .one (.ptr v 0), .one (.ptr e 0), .one (.ptr s 0), .one (.ptr b 0)], hp, _ => if [a, v, e, s, b].Nodup then (match hp a, hp v, hp e, hp s, hp b with
    | some (.cells [.d (.lit (.int .i64 id))]), some (.cells [.d (.lit (.int .i64 p)), .d (.sl (.tp (.ti .i64) (.tp (.ti .i64) (.tp (.tp (.ti .i64) (.ti .i64)) (.tl (.tp (.ti .i64) (.tp (.ti .i64) (.tp (.ti .i64) (.tp (.tp (.ti .i64) (.ti .i64)) (.tp (.tp (.ti .i64) (.ti .i64)) (.tp (.ti .i64) (.tp (.ti .i64) (.ti .i64)))))))))))) ms)]), some (.cells [.d (.lit (.int .i64 ed))]), some (.cells [.d (.lit (.int .i64 ve))]), some (.cells [.d (.sl (.tp (.ti .i64) (.ti .i64)) l)]) => some ([onOk ms l f u ∧ wfM ms ∧ InI64 p ∧ InI64 ed ∧ InI64 ve ∧ InI64 (id + i) ∧ InI64 (i + 1)], .t (SH (id + i) p ed ve (i + 1) (digS p ms l f u ed ve)), [])
    | _, _, _, _, _ => none) else none
  | _, _, _ => none
def c_zprint : PCon
  | [.agg [.d (.lit (.int .i64 p)), .d (.sl (.tp (.ti .i64) (.tp (.ti .i64) (.tp (.tp (.ti .i64) (.ti .i64)) (.tl (.tp (.ti .i64) (.tp (.ti .i64) (.tp (.ti .i64) (.tp (.tp (.ti .i64) (.ti .i64)) (.tp (.tp (.ti .i64) (.ti .i64)) (.tp (.ti .i64) (.tp (.ti .i64) (.ti .i64)))))))))))) ms)], .one (.d (.sl (.tp (.ti .i64) (.ti .i64)) l)), .one (.d (.sl (.tp (.ti .i64) (.ti .i64)) pages)), .one (.d (.lit (.int .i64 ed))), .one (.d (.lit (.int .i64 ve))), .one (.d (.lit (.int .i64 id)))] => some ([wfM ms, InI64 p], .tup [LS (printS p ms l pages ed ve id).1, I (printS p ms l pages ed ve id).2])
  | _ => none
def c_zrprint : PCon
  | [.agg [.d (.lit (.int .i64 p)), .d (.sl (.tp (.ti .i64) (.tp (.ti .i64) (.tp (.tp (.ti .i64) (.ti .i64)) (.tl (.tp (.ti .i64) (.tp (.ti .i64) (.tp (.ti .i64) (.tp (.tp (.ti .i64) (.ti .i64)) (.tp (.tp (.ti .i64) (.ti .i64)) (.tp (.ti .i64) (.tp (.ti .i64) (.ti .i64)))))))))))) ms)], .one (.d (.sl (.tp (.ti .i64) (.ti .i64)) l)), .one (.d (.sl (.tp (.ti .i64) (.ti .i64)) pages)), .one (.d (.lit (.int .i64 ed))), .one (.d (.lit (.int .i64 ve))), .one (.d (.lit (.int .i64 id)))] => some ([wfM ms, InI64 p], .tup [LS (printS p ms l pages ed ve id).1, I (printS p ms l pages ed ve id).2])
  | _ => none
def c_zsame : PCon
  | [.one (.d (.sl (.tp (.ti .i64) (.tp (.ti .i64) (.tp (.ti .i64) (.tp (.ti .i64) (.tp (.ti .i64) (.ti .u64)))))) l)), .one (.d (.sl (.tp (.ti .i64) (.tp (.ti .i64) (.tp (.ti .i64) (.tp (.ti .i64) (.tp (.ti .i64) (.ti .u64)))))) m))] => some ([], .t (B (sameS l m)))
  | _ => none
def c_zright : PCon
  | [.agg [.d (.lit (.int .i64 p)), .d (.sl (.tp (.ti .i64) (.tp (.ti .i64) (.tp (.tp (.ti .i64) (.ti .i64)) (.tl (.tp (.ti .i64) (.tp (.ti .i64) (.tp (.ti .i64) (.tp (.tp (.ti .i64) (.ti .i64)) (.tp (.tp (.ti .i64) (.ti .i64)) (.tp (.ti .i64) (.tp (.ti .i64) (.ti .i64)))))))))))) ms)], .one (.d (.sl (.tp (.ti .i64) (.ti .i64)) l)), .one (.d (.sl (.tp (.ti .i64) (.ti .i64)) pages)), .agg [.d (.lit (.int .i64 a)), .d (.lit (.int .i64 b)), .d (.lit (.int .i64 c)), .d (.lit (.int .i64 d)), .d (.lit (.int .i64 e)), .d (.lit (.int .u64 g))]] => some ([wfM ms, InI64 p], .tup [B (rightS p ms l pages a b c d e g).1, I (rightS p ms l pages a b c d e g).2])
  | _ => none
def c_zrright : PCon
  | [.agg [.d (.lit (.int .i64 p)), .d (.sl (.tp (.ti .i64) (.tp (.ti .i64) (.tp (.tp (.ti .i64) (.ti .i64)) (.tl (.tp (.ti .i64) (.tp (.ti .i64) (.tp (.ti .i64) (.tp (.tp (.ti .i64) (.ti .i64)) (.tp (.tp (.ti .i64) (.ti .i64)) (.tp (.ti .i64) (.tp (.ti .i64) (.ti .i64)))))))))))) ms)], .one (.d (.sl (.tp (.ti .i64) (.ti .i64)) l)), .one (.d (.sl (.tp (.ti .i64) (.ti .i64)) pages)), .agg [.d (.lit (.int .i64 a)), .d (.lit (.int .i64 b)), .d (.lit (.int .i64 c)), .d (.lit (.int .i64 d)), .d (.lit (.int .i64 e)), .d (.lit (.int .u64 g))]] => some ([wfM ms, InI64 p], .tup [B (rightS p ms l pages a b c d e g).1, I (rightS p ms l pages a b c d e g).2])
  | _ => none
end Go.Proofs.YtiplcokpckkopaaDoor
