/- What is to be shown of each function, in plain terms. Written by a program (wip/tools/gen.py). -/
import Derived.Test.YtfbbkknfcmofcaaDoorFrontrc
namespace Go.Proofs.YtfbbkknfcmofcaaDoor
open Go.Sy Go.RatLaw
set_option linter.unusedVariables false

def P_FBegins (s : Int) (l : List En) (h w n : Int) : Prop :=
  ((!decide (l.length ≤ (60 : Nat))) = false → InI64 s ∧ inE l) ∧ (((!decide (l.length ≤ (60 : Nat)) || !logB s l h) = false → (↑l.length : Int) ≤ (9223372036854775807 : Int)) → ((!decide (l.length ≤ (60 : Nat)) || !logB s l h || (↑l.length
  : Int) == (0 : Int)) = true → true = true) ∧ ((!decide (l.length ≤ (60 : Nat)) || !logB s l h || (↑l.length : Int) == (0 : Int)) = false → InI64 w ∧ ((↑l.length : Int) ≤ (9223372036854775807 : Int) → (↑l.length : Int) ≠ (0 : Int) ∧ (∃ (x
  : Nat), (↑x : Int) ≤ w.tmod (↑l.length : Int) ∧ (0 : Int) = (↑x : Int) ∧ s = s ∧ [] = List.take x l ∧ (0 : Int) = chainE s (List.take x l)) ∧ ∀ (x : Nat), (↑x : Int) ≤ w.tmod (↑l.length : Int) → (decide ((↑x : Int) < w.tmod (↑l.length :
  Int)) = true → (0 : Int) ≤ (↑x : Int) ∧ (↑x : Int) < (↑l.length : Int) ∧ InI64 s ∧ inE (List.take x l) ∧ InI64 (l.getD (↑x : Int).toNat E6T.d0).fst ∧ ((0 : Int) ≤ (l.getD (↑x : Int).toNat E6T.d0).snd.snd.snd.snd.snd ∧ (l.getD (↑x :
  Int).toNat E6T.d0).snd.snd.snd.snd.snd < (18446744073709551616 : Int)) ∧ (((appS s (List.take x l) (chainE s (List.take x l)) ((l.getD (↑x : Int).toNat E6T.d0).fst, (l.getD (↑x : Int).toNat E6T.d0).snd.fst, (l.getD (↑x : Int).toNat
  E6T.d0).snd.snd.fst, (l.getD (↑x : Int).toNat E6T.d0).snd.snd.snd.fst, (l.getD (↑x : Int).toNat E6T.d0).snd.snd.snd.snd.fst, (l.getD (↑x : Int).toNat E6T.d0).snd.snd.snd.snd.snd)).snd != (0 : Int)) = true → false = true) ∧ (((appS s
  (List.take x l) (chainE s (List.take x l)) ((l.getD (↑x : Int).toNat E6T.d0).fst, (l.getD (↑x : Int).toNat E6T.d0).snd.fst, (l.getD (↑x : Int).toNat E6T.d0).snd.snd.fst, (l.getD (↑x : Int).toNat E6T.d0).snd.snd.snd.fst, (l.getD (↑x :
  Int).toNat E6T.d0).snd.snd.snd.snd.fst, (l.getD (↑x : Int).toNat E6T.d0).snd.snd.snd.snd.snd)).snd != (0 : Int)) = false → InI64 ((↑x : Int) + (1 : Int)) ∧ ∃ (x' : Nat), (↑x' : Int) ≤ w.tmod (↑l.length : Int) ∧ (w.tmod (↑l.length :
  Int)).toNat - x' < (w.tmod (↑l.length : Int)).toNat - x ∧ (↑x : Int) + (1 : Int) = (↑x' : Int) ∧ w.tmod (↑l.length : Int) = w.tmod (↑l.length : Int) ∧ (!decide (l.length ≤ (60 : Nat)) || !logB s l h || (↑l.length : Int) == (0 : Int)) =
  (!decide (l.length ≤ (60 : Nat)) || !logB s l h || (↑l.length : Int) == (0 : Int)) ∧ true = true ∧ s = s ∧ l = l ∧ h = h ∧ w = w ∧ n = n ∧ (appS s (List.take x l) (chainE s (List.take x l)) ((l.getD (↑x : Int).toNat E6T.d0).fst, (l.getD
  (↑x : Int).toNat E6T.d0).snd.fst, (l.getD (↑x : Int).toNat E6T.d0).snd.snd.fst, (l.getD (↑x : Int).toNat E6T.d0).snd.snd.snd.fst, (l.getD (↑x : Int).toNat E6T.d0).snd.snd.snd.snd.fst, (l.getD (↑x : Int).toNat
  E6T.d0).snd.snd.snd.snd.snd)).fst.fst = s ∧ (appS s (List.take x l) (chainE s (List.take x l)) ((l.getD (↑x : Int).toNat E6T.d0).fst, (l.getD (↑x : Int).toNat E6T.d0).snd.fst, (l.getD (↑x : Int).toNat E6T.d0).snd.snd.fst, (l.getD (↑x :
  Int).toNat E6T.d0).snd.snd.snd.fst, (l.getD (↑x : Int).toNat E6T.d0).snd.snd.snd.snd.fst, (l.getD (↑x : Int).toNat E6T.d0).snd.snd.snd.snd.snd)).fst.snd.fst = List.take x' l ∧ (appS s (List.take x l) (chainE s (List.take x l)) ((l.getD
  (↑x : Int).toNat E6T.d0).fst, (l.getD (↑x : Int).toNat E6T.d0).snd.fst, (l.getD (↑x : Int).toNat E6T.d0).snd.snd.fst, (l.getD (↑x : Int).toNat E6T.d0).snd.snd.snd.fst, (l.getD (↑x : Int).toNat E6T.d0).snd.snd.snd.snd.fst, (l.getD (↑x :
  Int).toNat E6T.d0).snd.snd.snd.snd.snd)).fst.snd.snd = chainE s (List.take x' l) ∧ s = s ∧ l = l ∧ h = h)) ∧ (decide ((↑x : Int) < w.tmod (↑l.length : Int)) = false → InI64 s ∧ inE (List.take x l) ∧ InI64 s ∧ inE l ∧ (((begS s (List.take
  x l) (chainE s (List.take x l)) s l h).snd != (0 : Int) || !(begS s (List.take x l) (chainE s (List.take x l)) s l h).fst) = true → false = true) ∧ (((begS s (List.take x l) (chainE s (List.take x l)) s l h).snd != (0 : Int) || !(begS s
  (List.take x l) (chainE s (List.take x l)) s l h).fst) = false → (decide (n < (0 : Int)) = false → (0 : Int) ≤ w.tmod (↑l.length : Int) ∧ w.tmod (↑l.length : Int) < (↑l.length : Int)) ∧ ((decide (n < (0 : Int)) || decide (n ≥ (l.getD
  (w.tmod (↑l.length : Int)).toNat E6T.d0).fst)) = true → true = true) ∧ ((decide (n < (0 : Int)) || decide (n ≥ (l.getD (w.tmod (↑l.length : Int)).toNat E6T.d0).fst)) = false → InI64 s ∧ inE (List.take x l) ∧ InI64 s ∧ inE l ∧ (true &&
  (atS s (List.take x l) (chainE s (List.take x l)) n).snd == (0 : Int) && (atS s l h n).snd == (0 : Int) && sameF ((atS s (List.take x l) (chainE s (List.take x l)) n).fst.fst, (atS s (List.take x l) (chainE s (List.take x l))
  n).fst.snd.fst, (atS s (List.take x l) (chainE s (List.take x l)) n).fst.snd.snd.fst, (atS s (List.take x l) (chainE s (List.take x l)) n).fst.snd.snd.snd) ((atS s l h n).fst.fst, (atS s l h n).fst.snd.fst, (atS s l h n).fst.snd.snd.fst,
  (atS s l h n).fst.snd.snd.snd)) = true))))))
end Go.Proofs.YtfbbkknfcmofcaaDoor
