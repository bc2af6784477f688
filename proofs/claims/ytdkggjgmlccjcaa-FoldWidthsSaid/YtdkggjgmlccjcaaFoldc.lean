/- Contracts. Written by a program (wip/tools/gen.py). -/
import Derived.Test.YtdkggjgmlccjcaaFp
import Derived.Test.YtdkggjgmlccjcaaMeterk
namespace Go.Proofs.Ytdkggjgmlccjcaa
open Go.Sy Go.RatLaw
set_option linter.unusedVariables false


abbrev WT : Ty := .tp (.ti .i64) (.tp (.ti .i64) (.tp (.ti .i64) (.tp (.tp (.ti .i64) (.ti .i64)) (.tp (.tp (.ti .i64) (.ti .i64)) (.tp (.ti .i64) (.tp (.ti .i64) (.ti .i64)))))))
abbrev MT : Ty := .tp (.ti .i64) (.tp (.ti .i64) (.tp (.tp (.ti .i64) (.ti .i64)) (.tl WT)))
abbrev KT : Ty := .tp (.ti .i64) (.ti .i64)
abbrev V (p : Int) (ms : List Ms) : TV := .agg [li .i64 p, .d (.sl MT ms)]
abbrev Mm (b k n d : Int) (l : List Wr) : TV := .agg [li .i64 b, li .i64 k, li .i64 n, li .i64 d, .d (.sl WT l)]
abbrev LB (l : List Bk) : TV := .one (.d (.sl KT l))
abbrev LI (l : List Int) : TV := .one (.d (.sl (.ti .i64) l))
abbrev LM (l : List Ms) : TV := .one (.d (.sl MT l))
abbrev LW (l : List Wr) : TV := .one (.d (.sl WT l))
abbrev resB (m : List Bk × Int) : AV := .tup [LB m.1, I m.2]
abbrev resI (m : List Int × Int) : AV := .tup [LI m.1, I m.2]

abbrev SND : TV := .one (.clo 35 [] [])

abbrev sgK : List Ty := [KT]
def histB (l : List Bk) : List (Bk × Unit) := l.map fun b => (b, ())
theorem upd2a (hp : Nat → Option HO) {n m : Nat} (o q : HO) (h : n ≠ m) : upd hp [(n, o), (m, q)] n = some o := by
  unfold upd; simp [look_cons, Ne.symm h]
theorem upd2b (hp : Nat → Option HO) (n m : Nat) (o q : HO) : upd hp [(n, o), (m, q)] m = some q := by
  unfold upd; simp [look_cons]
theorem upd2n (hp : Nat → Option HO) {n m x : Nat} (o q : HO) (h : x ≠ n) (h' : x ≠ m) : upd hp [(n, o), (m, q)] x = hp x := by
  unfold upd; simp [look_cons, Ne.symm h, Ne.symm h', Go.Sy.look]
def unH (l : List (Bk × Unit)) : List Bk := l.map (·.1)
def goF : Lp (Bk × Unit) := { go := fun _ => true, ok := fun h => h.length ≤ 4000 }
def c_within : PCon
  | [.one (.d (.lit (.int .i64 a))), .one (.d (.lit (.int .i64 b))), .one (.d (.lit (.int .i64 c)))] => some ([], .t (B (decide (b ≤ a) && decide (a ≤ c))))
  | _ => none
def c_rin : PCon
  | [.one (.d (.lit (.int .i64 a))), .one (.d (.lit (.int .i64 b))), .one (.d (.lit (.int .i64 c)))] => some ([], .t (B (decide (b ≤ a) && decide (a ≤ c))))
  | _ => none
def c_ofM : PCon
  | [.agg [.d (.lit (.int .i64 b)), .d (.lit (.int .i64 k)), .d (.lit (.int .i64 n)), .d (.lit (.int .i64 d)), .d (.sl (.tp (.ti .i64) (.tp (.ti .i64) (.tp (.ti .i64) (.tp (.tp (.ti .i64) (.ti .i64)) (.tp (.tp (.ti .i64) (.ti .i64)) (.tp (.ti .i64) (.tp (.ti .i64) (.ti .i64)))))))) l)]] => some ([], .t (.agg [li .i64 n, li .i64 d, li .i64 k, lb l.isEmpty]))
  | _ => none
def c_isLength : PCon
  | [.agg [.d (.lit (.int .i64 n)), .d (.lit (.int .i64 d))]] => some ([], .t (B (lenB n d)))
  | _ => none
def c_folds : PCon
  | [.agg [.d (.lit (.int .i64 p)), .d (.sl (.tp (.ti .i64) (.tp (.ti .i64) (.tp (.tp (.ti .i64) (.ti .i64)) (.tl (.tp (.ti .i64) (.tp (.ti .i64) (.tp (.ti .i64) (.tp (.tp (.ti .i64) (.ti .i64)) (.tp (.tp (.ti .i64) (.ti .i64)) (.tp (.ti .i64) (.tp (.ti .i64) (.ti .i64)))))))))))) ms)]] => some ([], .t (B (viewB ms)))
  | _ => none
def c_rView : PCon
  | [.agg [.d (.lit (.int .i64 p)), .d (.sl (.tp (.ti .i64) (.tp (.ti .i64) (.tp (.tp (.ti .i64) (.ti .i64)) (.tl (.tp (.ti .i64) (.tp (.ti .i64) (.tp (.ti .i64) (.tp (.tp (.ti .i64) (.ti .i64)) (.tp (.tp (.ti .i64) (.ti .i64)) (.tp (.ti .i64) (.tp (.ti .i64) (.ti .i64)))))))))))) ms)]] => some ([], .t (B (viewB ms)))
  | _ => none
def c_fewV : PCon
  | [.agg [.d (.lit (.int .i64 p)), .d (.sl (.tp (.ti .i64) (.tp (.ti .i64) (.tp (.tp (.ti .i64) (.ti .i64)) (.tl (.tp (.ti .i64) (.tp (.ti .i64) (.tp (.ti .i64) (.tp (.tp (.ti .i64) (.ti .i64)) (.tp (.tp (.ti .i64) (.ti .i64)) (.tp (.ti .i64) (.tp (.ti .i64) (.ti .i64)))))))))))) ms)]] => some ([], .t (B (fewB ms)))
  | _ => none
def c_bend : PCon
  | [.agg [.d (.lit (.int .i64 f)), .d (.lit (.int .i64 r))]] => some ([InI64 (endB (f, r))], .t (I (endB (f, r))))
  | _ => none
def c_rEnd : PCon
  | [.agg [.d (.lit (.int .i64 f)), .d (.lit (.int .i64 r))]] => some ([InI64 (endB (f, r))], .t (I (endB (f, r))))
  | _ => none
def c_areBlocks : PCon
  | [.one (.d (.sl (.tp (.ti .i64) (.ti .i64)) l))] => some ([], .t (B (blkB l)))
  | _ => none
def c_rBlocks : PCon
  | [.one (.d (.sl (.tp (.ti .i64) (.ti .i64)) l))] => some ([], .t (B (blkB l)))
  | _ => none
def c_hasI : PCon
  | [.one (.d (.sl (.ti .i64) l)), .one (.d (.lit (.int .i64 n)))] => some ([], .t (B (inL l n)))
  | _ => none
def c_joins : PCon
  | [.agg [.d (.lit (.int .i64 b)), .d (.lit (.int .i64 k)), .d (.lit (.int .i64 n)), .d (.lit (.int .i64 d)), .d (.sl (.tp (.ti .i64) (.tp (.ti .i64) (.tp (.ti .i64) (.tp (.tp (.ti .i64) (.ti .i64)) (.tp (.tp (.ti .i64) (.ti .i64)) (.tp (.ti .i64) (.tp (.ti .i64) (.ti .i64)))))))) l)], .agg [.d (.lit (.int .i64 b')), .d (.lit (.int .i64 k')), .d (.lit (.int .i64 n')), .d (.lit (.int .i64 d')), .d (.sl (.tp (.ti .i64) (.tp (.ti .i64) (.tp (.ti .i64) (.tp (.tp (.ti .i64) (.ti .i64)) (.tp (.tp (.ti .i64) (.ti .i64)) (.tp (.ti .i64) (.tp (.ti .i64) (.ti .i64)))))))) l')]] => some ([], .t (B (joinsB (b, (k, ((n, d), l))) (b', (k', ((n', d'), l'))))))
  | _ => none
def c_wrong : Con
  | [.one (.d (.lit (.int .i64 n))), .one (.ptr p 0)], hp, _ => match hp p with
    | some (.cells [.d (.lit (.int .i64 _)), .d (.sl (.tp (.ti .i64) (.tp (.ti .i64) (.tp (.tp (.ti .i64) (.ti .i64)) (.tl (.tp (.ti .i64) (.tp (.ti .i64) (.tp (.ti .i64) (.tp (.tp (.ti .i64) (.ti .i64)) (.tp (.tp (.ti .i64) (.ti .i64)) (.tp (.ti .i64) (.tp (.ti .i64) (.ti .i64)))))))))))) ms)]) => some ([], .t (B (wrongS ms n)), [])
    | _ => none
  | _, _, _ => none
def c_idxI : Con
  | [.one (.d (.sl (.ti .i64) l)), .one (.clo 24 [] [(p, 0)])], hp, _ => match hp p with
    | some (.cells [.d (.lit (.int .i64 _)), .d (.sl (.tp (.ti .i64) (.tp (.ti .i64) (.tp (.tp (.ti .i64) (.ti .i64)) (.tl (.tp (.ti .i64) (.tp (.ti .i64) (.tp (.ti .i64) (.tp (.tp (.ti .i64) (.ti .i64)) (.tp (.tp (.ti .i64) (.ti .i64)) (.tp (.ti .i64) (.tp (.ti .i64) (.ti .i64)))))))))))) ms)]) => some ([], .t (I (idxOf (wrongS ms) l)), [])
    | _ => none
  | _, _, _ => none
def c_conI : Con
  | [.one (.d (.sl (.ti .i64) l)), .one (.clo 24 [] [(p, 0)])], hp, _ => match hp p with
    | some (.cells [.d (.lit (.int .i64 _)), .d (.sl (.tp (.ti .i64) (.tp (.ti .i64) (.tp (.tp (.ti .i64) (.ti .i64)) (.tl (.tp (.ti .i64) (.tp (.ti .i64) (.tp (.ti .i64) (.tp (.tp (.ti .i64) (.ti .i64)) (.tp (.tp (.ti .i64) (.ti .i64)) (.tp (.ti .i64) (.tp (.ti .i64) (.ti .i64)))))))))))) ms)]) => some ([], .t (B (l.any (wrongS ms))), [])
    | _ => none
  | _, _, _ => none
def c_sounds : PCon
  | [.agg [.d (.lit (.int .i64 b)), .d (.lit (.int .i64 k)), .d (.lit (.int .i64 n)), .d (.lit (.int .i64 d)), .d (.sl (.tp (.ti .i64) (.tp (.ti .i64) (.tp (.ti .i64) (.tp (.tp (.ti .i64) (.ti .i64)) (.tp (.tp (.ti .i64) (.ti .i64)) (.tp (.ti .i64) (.tp (.ti .i64) (.ti .i64)))))))) l)]] => some ([], .t (B (soundsM (b, (k, ((n, d), l))))))
  | _ => none
def c_idxM : PCon
  | [.one (.d (.sl (.tp (.ti .i64) (.tp (.ti .i64) (.tp (.tp (.ti .i64) (.ti .i64)) (.tl (.tp (.ti .i64) (.tp (.ti .i64) (.tp (.ti .i64) (.tp (.tp (.ti .i64) (.ti .i64)) (.tp (.tp (.ti .i64) (.ti .i64)) (.tp (.ti .i64) (.tp (.ti .i64) (.ti .i64)))))))))))) l)), .one (.clo 35 [] [])] => some ([], .t (I (idxOf soundsM l)))
  | _ => none
def c_conM : PCon
  | [.one (.d (.sl (.tp (.ti .i64) (.tp (.ti .i64) (.tp (.tp (.ti .i64) (.ti .i64)) (.tl (.tp (.ti .i64) (.tp (.ti .i64) (.tp (.ti .i64) (.tp (.tp (.ti .i64) (.ti .i64)) (.tp (.tp (.ti .i64) (.ti .i64)) (.tp (.ti .i64) (.tp (.ti .i64) (.ti .i64)))))))))))) l)), .one (.clo 35 [] [])] => some ([], .t (B (l.any soundsM)))
  | _ => none
def c_same : PCon
  | [.one (.d (.sl (.tp (.ti .i64) (.ti .i64)) l)), .one (.d (.sl (.tp (.ti .i64) (.ti .i64)) m))] => some ([], .t (B (sameL l m)))
  | _ => none
def c_sameI : PCon
  | [.one (.d (.sl (.ti .i64) l)), .one (.d (.sl (.ti .i64) m))] => some ([], .t (B (sameIL l m)))
  | _ => none
def c_unfold : PCon
  | [.one (.d (.sl (.tp (.ti .i64) (.ti .i64)) l))] => some ([], resI (unfoldS l))
  | _ => none
def c_blocks1 : Con
  | [.one (.yl m), .one (.ptr v 0), .one (.ptr s 0)], hp, _ => match hp m, hp v, hp s with
    | some (.ob [.tp (.ti .i64) (.ti .i64)] [] go), some (.cells [.d (.lit (.int .i64 _)), .d (.sl (.tp (.ti .i64) (.tp (.ti .i64) (.tp (.tp (.ti .i64) (.ti .i64)) (.tl (.tp (.ti .i64) (.tp (.ti .i64) (.tp (.ti .i64) (.tp (.tp (.ti .i64) (.ti .i64)) (.tp (.tp (.ti .i64) (.ti .i64)) (.tp (.ti .i64) (.tp (.ti .i64) (.ti .i64)))))))))))) ms)]), some (.cells [.mp a]) => match hp a with
      | some (.mp (.ti .i64) .tb l) => some ([ms.length ≤ 4000 ∧ (∀ k, go.ok ((histB (foldTo ms (getM l) ms.length)).take k)) ∧ ∀ h, go h = true], .tup [], [(m, .ob sgK (histB (foldTo ms (getM l) ms.length)) go)])
      | _ => none
    | _, _, _ => none
  | _, _, _ => none
def c_blocks : Con
  | [.agg [.d (.lit (.int .i64 p)), .d (.sl (.tp (.ti .i64) (.tp (.ti .i64) (.tp (.tp (.ti .i64) (.ti .i64)) (.tl (.tp (.ti .i64) (.tp (.ti .i64) (.tp (.ti .i64) (.tp (.tp (.ti .i64) (.ti .i64)) (.tp (.tp (.ti .i64) (.ti .i64)) (.tp (.ti .i64) (.tp (.ti .i64) (.ti .i64)))))))))))) ms)], .one (.mp a)], hp, fr => match hp a, hp fr, hp (fr + 1) with
    | some (.mp (.ti .i64) .tb _), none, none => some ([], .t (.one (.clo 40 [] [(fr, 0), (fr + 1, 0)])), [(fr, .cells [li .i64 p, .d (.sl MT ms)]), (fr + 1, .cells [.mp a])])
    | _, _, _ => none
  | _, _, _ => none
def c_fold : PCon
  | [.agg [.d (.lit (.int .i64 p)), .d (.sl (.tp (.ti .i64) (.tp (.ti .i64) (.tp (.tp (.ti .i64) (.ti .i64)) (.tl (.tp (.ti .i64) (.tp (.ti .i64) (.tp (.ti .i64) (.tp (.tp (.ti .i64) (.ti .i64)) (.tp (.tp (.ti .i64) (.ti .i64)) (.tp (.ti .i64) (.tp (.ti .i64) (.ti .i64)))))))))))) ms)], .one (.d (.sl (.ti .i64) st))] => some ([], resB (foldS ms st))
  | _ => none
def c_rUnfold : PCon
  | [.one (.d (.sl (.tp (.ti .i64) (.ti .i64)) l))] => some ([], resI (unfoldS l))
  | _ => none
def c_rFold : PCon
  | [.agg [.d (.lit (.int .i64 p)), .d (.sl (.tp (.ti .i64) (.tp (.ti .i64) (.tp (.tp (.ti .i64) (.ti .i64)) (.tl (.tp (.ti .i64) (.tp (.ti .i64) (.tp (.ti .i64) (.tp (.tp (.ti .i64) (.ti .i64)) (.tp (.tp (.ti .i64) (.ti .i64)) (.tp (.ti .i64) (.tp (.ti .i64) (.ti .i64)))))))))))) ms)], .one (.d (.sl (.ti .i64) st))] => some ([], resB (foldS ms st))
  | _ => none
def c_width : PCon
  | [.agg [.d (.lit (.int .i64 b)), .d (.lit (.int .i64 k)), .d (.lit (.int .i64 n)), .d (.lit (.int .i64 d)), .d (.sl (.tp (.ti .i64) (.tp (.ti .i64) (.tp (.ti .i64) (.tp (.tp (.ti .i64) (.ti .i64)) (.tp (.tp (.ti .i64) (.ti .i64)) (.tp (.ti .i64) (.tp (.ti .i64) (.ti .i64)))))))) l)]] => some ([], .t (I (widthB l)))
  | _ => none
def c_starts : PCon
  | [.one (.d (.sl (.tp (.ti .i64) (.tp (.ti .i64) (.tp (.ti .i64) (.tp (.tp (.ti .i64) (.ti .i64)) (.tp (.tp (.ti .i64) (.ti .i64)) (.tp (.ti .i64) (.tp (.ti .i64) (.ti .i64)))))))) l))] => some ([], .t (I (dist (startsW l)).length))
  | _ => none
def c_widths : PCon
  | [.agg [.d (.lit (.int .i64 p)), .d (.sl (.tp (.ti .i64) (.tp (.ti .i64) (.tp (.tp (.ti .i64) (.ti .i64)) (.tl (.tp (.ti .i64) (.tp (.ti .i64) (.tp (.ti .i64) (.tp (.tp (.ti .i64) (.ti .i64)) (.tp (.tp (.ti .i64) (.ti .i64)) (.tp (.ti .i64) (.tp (.ti .i64) (.ti .i64)))))))))))) ms)], .one (.d (.sl (.tp (.ti .i64) (.ti .i64)) l))] => some ([], resI (widthsS ms l))
  | _ => none
def c_rWidths : PCon
  | [.agg [.d (.lit (.int .i64 p)), .d (.sl (.tp (.ti .i64) (.tp (.ti .i64) (.tp (.tp (.ti .i64) (.ti .i64)) (.tl (.tp (.ti .i64) (.tp (.ti .i64) (.tp (.ti .i64) (.tp (.tp (.ti .i64) (.ti .i64)) (.tp (.tp (.ti .i64) (.ti .i64)) (.tp (.ti .i64) (.tp (.ti .i64) (.ti .i64)))))))))))) ms)], .one (.d (.sl (.tp (.ti .i64) (.ti .i64)) l))] => some ([], resI (widthsS ms l))
  | _ => none
end Go.Proofs.Ytdkggjgmlccjcaa
