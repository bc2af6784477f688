/- Contracts. Written by a program (wip/tools/gen.py). -/
import Derived.Test.YtdkggjgmlccjcaaFoldlk
namespace Go.Proofs.Ytdkggjgmlccjcaa
open Go.Sy Go.RatLaw
set_option linter.unusedVariables false


def splitB (n : Int) (b : Bk) : List Bk := if b.1 < n ∧ n < b.1 + b.2 then [(b.1, n - b.1), (n, b.1 + b.2 - n)] else [b]
def splitL (n : Int) (l : List Bk) : List Bk := l.flatMap (splitB n)
def cutB (k : Int) (b : Bk) : List Bk := if k < b.1 ∨ k ≥ b.1 + b.2 then [b] else (if k > b.1 then [(b.1, k - b.1)] else []) ++ ([(k, 0)] ++ (if b.1 + b.2 > k + 1 then [(k + 1, b.1 + b.2 - k - 1)] else []))
def cutL (k : Int) (l : List Bk) : List Bk := l.flatMap (cutB k)
def otherM (k : Int) (w : Wr) (i : Nat) (m : Ms) : Ms := (w64 (m.1 + 1), (m.2.1, ((m.2.2.1.1, m.2.2.1.2), if (i : Int) = k ∨ (notesM m).isEmpty = false then [w] else [])))
def otherS (k : Int) (w : Wr) (ms : List Ms) (x : Nat) : List Ms := (List.range x).map fun i : Nat => otherM k w i (ms.getD i ms0)
def backS (st : List Int) (x : Nat) : List Int := st.reverse.take x
def c_FStops : PCon
  | [.agg [.d (.lit (.int .i64 p)), .d (.sl (.tp (.ti .i64) (.tp (.ti .i64) (.tp (.tp (.ti .i64) (.ti .i64)) (.tl (.tp (.ti .i64) (.tp (.ti .i64) (.tp (.ti .i64) (.tp (.tp (.ti .i64) (.ti .i64)) (.tp (.tp (.ti .i64) (.ti .i64)) (.tp (.ti .i64) (.tp (.ti .i64) (.ti .i64)))))))))))) ms)], .one (.d (.sl (.ti .u8) l)), .one (.d (.lit (.int .u8 u)))] => some ([bytesB l, 0 ≤ u, u ≤ 255], .t (B true))
  | _ => none
end Go.Proofs.Ytdkggjgmlccjcaa
