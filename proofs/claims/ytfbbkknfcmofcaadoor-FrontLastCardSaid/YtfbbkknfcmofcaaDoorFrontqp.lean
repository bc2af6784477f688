/- What is to be shown of each function, in plain terms. Written by a program (wip/tools/gen.py). -/
import Derived.Test.YtfbbkknfcmofcaaDoorFrontqc
namespace Go.Proofs.YtfbbkknfcmofcaaDoor
open Go.Sy Go.RatLaw
set_option linter.unusedVariables false

def P_FLast (s : Int) (l : List En) (h : Int) : Prop :=
  ((!decide (l.length ≤ (60 : Nat))) = true → true = true) ∧ ((!decide (l.length ≤ (60 : Nat))) = false → InI64 s ∧ inE l ∧ (((atS s l h (1000000000 : Int)).snd != (0 : Int)) = true → (true = true → InI64 s ∧ inE l) ∧ (true && !logB s l h)
  = true) ∧ (((atS s l h (1000000000 : Int)).snd != (0 : Int)) = false → (↑l.length : Int) ≤ (9223372036854775807 : Int) → InI64 ((↑l.length : Int) - (1 : Int)) ∧ (∃ (x : Nat), x ≤ l.length ∧ (↑l.length : Int) - (1 : Int) = (↑x : Int) - (1
  : Int) ∧ (0 : Int) = (mkF (lastS (List.drop x l)) (0 : Int)).fst ∧ (0 : Int) = (mkF (lastS (List.drop x l)) (0 : Int)).snd.fst ∧ (0 : Int) = (mkF (lastS (List.drop x l)) (0 : Int)).snd.snd.fst ∧ [] = (mkF (lastS (List.drop x l)) (0 :
  Int)).snd.snd.snd) ∧ ∀ (x : Nat), x ≤ l.length → (decide ((↑x : Int) - (1 : Int) ≥ (0 : Int)) = true → (0 : Int) ≤ (↑x : Int) - (1 : Int) ∧ (↑x : Int) - (1 : Int) < (↑l.length : Int) ∧ (((l.getD ((↑x : Int) - (1 : Int)).toNat
  E6T.d0).snd.fst == (1 : Int) && (mkF (lastS (List.drop x l)) (0 : Int)).fst == (0 : Int)) = true → InI64 ((↑x : Int) - (1 : Int) - (1 : Int)) ∧ ∃ (x' : Nat), x' ≤ l.length ∧ x' < x ∧ (↑x : Int) - (1 : Int) - (1 : Int) = (↑x' : Int) - (1 :
  Int) ∧ ((atS s l h (1000000000 : Int)).snd != (0 : Int)) = ((atS s l h (1000000000 : Int)).snd != (0 : Int)) ∧ (atS s l h (1000000000 : Int)).snd = (atS s l h (1000000000 : Int)).snd ∧ (!decide (l.length ≤ (60 : Nat))) = !decide (l.length
  ≤ (60 : Nat)) ∧ true = true ∧ false = false ∧ s = s ∧ l = l ∧ h = h ∧ (l.getD ((↑x : Int) - (1 : Int)).toNat E6T.d0).snd.snd.fst = (mkF (lastS (List.drop x' l)) (0 : Int)).fst ∧ (l.getD ((↑x : Int) - (1 : Int)).toNat
  E6T.d0).snd.snd.snd.fst = (mkF (lastS (List.drop x' l)) (0 : Int)).snd.fst ∧ (mkF (lastS (List.drop x l)) (0 : Int)).snd.snd.fst = (mkF (lastS (List.drop x' l)) (0 : Int)).snd.snd.fst ∧ (mkF (lastS (List.drop x l)) (0 : Int)).snd.snd.snd
  = (mkF (lastS (List.drop x' l)) (0 : Int)).snd.snd.snd ∧ (atS s l h (1000000000 : Int)).fst.fst = (atS s l h (1000000000 : Int)).fst.fst ∧ (atS s l h (1000000000 : Int)).fst.snd.fst = (atS s l h (1000000000 : Int)).fst.snd.fst ∧ (atS s l
  h (1000000000 : Int)).fst.snd.snd.fst = (atS s l h (1000000000 : Int)).fst.snd.snd.fst ∧ (atS s l h (1000000000 : Int)).fst.snd.snd.snd = (atS s l h (1000000000 : Int)).fst.snd.snd.snd ∧ s = s ∧ l = l ∧ h = h) ∧ (((l.getD ((↑x : Int) - (1
  : Int)).toNat E6T.d0).snd.fst == (1 : Int) && (mkF (lastS (List.drop x l)) (0 : Int)).fst == (0 : Int)) = false → InI64 ((↑x : Int) - (1 : Int) - (1 : Int)) ∧ ∃ (x' : Nat), x' ≤ l.length ∧ x' < x ∧ (↑x : Int) - (1 : Int) - (1 : Int) =
  (↑x' : Int) - (1 : Int) ∧ ((atS s l h (1000000000 : Int)).snd != (0 : Int)) = ((atS s l h (1000000000 : Int)).snd != (0 : Int)) ∧ (atS s l h (1000000000 : Int)).snd = (atS s l h (1000000000 : Int)).snd ∧ (!decide (l.length ≤ (60 : Nat)))
  = !decide (l.length ≤ (60 : Nat)) ∧ true = true ∧ false = false ∧ s = s ∧ l = l ∧ h = h ∧ (mkF (lastS (List.drop x l)) (0 : Int)).fst = (mkF (lastS (List.drop x' l)) (0 : Int)).fst ∧ (mkF (lastS (List.drop x l)) (0 : Int)).snd.fst = (mkF
  (lastS (List.drop x' l)) (0 : Int)).snd.fst ∧ (mkF (lastS (List.drop x l)) (0 : Int)).snd.snd.fst = (mkF (lastS (List.drop x' l)) (0 : Int)).snd.snd.fst ∧ (mkF (lastS (List.drop x l)) (0 : Int)).snd.snd.snd = (mkF (lastS (List.drop x' l))
  (0 : Int)).snd.snd.snd ∧ (atS s l h (1000000000 : Int)).fst.fst = (atS s l h (1000000000 : Int)).fst.fst ∧ (atS s l h (1000000000 : Int)).fst.snd.fst = (atS s l h (1000000000 : Int)).fst.snd.fst ∧ (atS s l h (1000000000 :
  Int)).fst.snd.snd.fst = (atS s l h (1000000000 : Int)).fst.snd.snd.fst ∧ (atS s l h (1000000000 : Int)).fst.snd.snd.snd = (atS s l h (1000000000 : Int)).fst.snd.snd.snd ∧ s = s ∧ l = l ∧ h = h)) ∧ (decide ((↑x : Int) - (1 : Int) ≥ (0 :
  Int)) = false → (↑l.length : Int) ≤ (9223372036854775807 : Int) → (∃ (x_1 : Nat), x_1 ≤ l.length ∧ (0 : Int) = (↑x_1 : Int) ∧ (mkF (lastS (List.drop x l)) (0 : Int)).fst = (mkF (lastS l) (knowK (List.take x_1 l))).fst ∧ (mkF (lastS
  (List.drop x l)) (0 : Int)).snd.fst = (mkF (lastS l) (knowK (List.take x_1 l))).snd.fst ∧ (mkF (lastS (List.drop x l)) (0 : Int)).snd.snd.fst = (mkF (lastS l) (knowK (List.take x_1 l))).snd.snd.fst ∧ (mkF (lastS (List.drop x l)) (0 :
  Int)).snd.snd.snd = (mkF (lastS l) (knowK (List.take x_1 l))).snd.snd.snd) ∧ ∀ (x_1 : Nat), x_1 ≤ l.length → (decide ((↑x_1 : Int) < (↑l.length : Int)) = true → (0 : Int) ≤ (↑x_1 : Int) ∧ (↑x_1 : Int) < (↑l.length : Int) ∧ (((l.getD (↑x_1
  : Int).toNat E6T.d0).snd.fst == (3 : Int)) = true → InI64 ((↑x_1 : Int) + (1 : Int)) ∧ ∃ (x' : Nat), x' ≤ l.length ∧ l.length - x' < l.length - x_1 ∧ (↑x_1 : Int) + (1 : Int) = (↑x' : Int) ∧ (↑l.length : Int) = (↑l.length : Int) ∧ l = l ∧
  decide ((↑x : Int) - (1 : Int) ≥ (0 : Int)) = decide ((↑x : Int) - (1 : Int) ≥ (0 : Int)) ∧ (↑x : Int) - (1 : Int) = (↑x : Int) - (1 : Int) ∧ ((atS s l h (1000000000 : Int)).snd != (0 : Int)) = ((atS s l h (1000000000 : Int)).snd != (0 :
  Int)) ∧ (atS s l h (1000000000 : Int)).snd = (atS s l h (1000000000 : Int)).snd ∧ (!decide (l.length ≤ (60 : Nat))) = !decide (l.length ≤ (60 : Nat)) ∧ true = true ∧ false = false ∧ s = s ∧ l = l ∧ h = h ∧ (mkF (lastS l) (knowK (List.take
  x_1 l))).fst = (mkF (lastS l) (knowK (List.take x' l))).fst ∧ (mkF (lastS l) (knowK (List.take x_1 l))).snd.fst = (mkF (lastS l) (knowK (List.take x' l))).snd.fst ∧ (l.getD (↑x_1 : Int).toNat E6T.d0).snd.snd.fst = (mkF (lastS l) (knowK
  (List.take x' l))).snd.snd.fst ∧ (mkF (lastS l) (knowK (List.take x_1 l))).snd.snd.snd = (mkF (lastS l) (knowK (List.take x' l))).snd.snd.snd ∧ (atS s l h (1000000000 : Int)).fst.fst = (atS s l h (1000000000 : Int)).fst.fst ∧ (atS s l h
  (1000000000 : Int)).fst.snd.fst = (atS s l h (1000000000 : Int)).fst.snd.fst ∧ (atS s l h (1000000000 : Int)).fst.snd.snd.fst = (atS s l h (1000000000 : Int)).fst.snd.snd.fst ∧ (atS s l h (1000000000 : Int)).fst.snd.snd.snd = (atS s l h
  (1000000000 : Int)).fst.snd.snd.snd ∧ s = s ∧ l = l ∧ h = h) ∧ (((l.getD (↑x_1 : Int).toNat E6T.d0).snd.fst == (3 : Int)) = false → InI64 ((↑x_1 : Int) + (1 : Int)) ∧ ∃ (x' : Nat), x' ≤ l.length ∧ l.length - x' < l.length - x_1 ∧ (↑x_1 :
  Int) + (1 : Int) = (↑x' : Int) ∧ (↑l.length : Int) = (↑l.length : Int) ∧ l = l ∧ decide ((↑x : Int) - (1 : Int) ≥ (0 : Int)) = decide ((↑x : Int) - (1 : Int) ≥ (0 : Int)) ∧ (↑x : Int) - (1 : Int) = (↑x : Int) - (1 : Int) ∧ ((atS s l h
  (1000000000 : Int)).snd != (0 : Int)) = ((atS s l h (1000000000 : Int)).snd != (0 : Int)) ∧ (atS s l h (1000000000 : Int)).snd = (atS s l h (1000000000 : Int)).snd ∧ (!decide (l.length ≤ (60 : Nat))) = !decide (l.length ≤ (60 : Nat)) ∧
  true = true ∧ false = false ∧ s = s ∧ l = l ∧ h = h ∧ (mkF (lastS l) (knowK (List.take x_1 l))).fst = (mkF (lastS l) (knowK (List.take x' l))).fst ∧ (mkF (lastS l) (knowK (List.take x_1 l))).snd.fst = (mkF (lastS l) (knowK (List.take x'
  l))).snd.fst ∧ (mkF (lastS l) (knowK (List.take x_1 l))).snd.snd.fst = (mkF (lastS l) (knowK (List.take x' l))).snd.snd.fst ∧ (mkF (lastS l) (knowK (List.take x_1 l))).snd.snd.snd = (mkF (lastS l) (knowK (List.take x' l))).snd.snd.snd ∧
  (atS s l h (1000000000 : Int)).fst.fst = (atS s l h (1000000000 : Int)).fst.fst ∧ (atS s l h (1000000000 : Int)).fst.snd.fst = (atS s l h (1000000000 : Int)).fst.snd.fst ∧ (atS s l h (1000000000 : Int)).fst.snd.snd.fst = (atS s l h
  (1000000000 : Int)).fst.snd.snd.fst ∧ (atS s l h (1000000000 : Int)).fst.snd.snd.snd = (atS s l h (1000000000 : Int)).fst.snd.snd.snd ∧ s = s ∧ l = l ∧ h = h)) ∧ (decide ((↑x_1 : Int) < (↑l.length : Int)) = false → (true && sameF ((atS s
  l h (1000000000 : Int)).fst.fst, (atS s l h (1000000000 : Int)).fst.snd.fst, (atS s l h (1000000000 : Int)).fst.snd.snd.fst, (atS s l h (1000000000 : Int)).fst.snd.snd.snd) ((mkF (lastS l) (knowK (List.take x_1 l))).fst, (mkF (lastS l)
  (knowK (List.take x_1 l))).snd.fst, (mkF (lastS l) (knowK (List.take x_1 l))).snd.snd.fst, (atS s l h (1000000000 : Int)).fst.snd.snd.snd)) = true))))
end Go.Proofs.YtfbbkknfcmofcaaDoor
