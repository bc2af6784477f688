/- What is to be shown of each function, in plain terms. Written by a program (wip/tools/gen.py). -/
import Derived.Test.YtfbbkknfcmofcaaDoorFrontpc
namespace Go.Proofs.YtfbbkknfcmofcaaDoor
open Go.Sy Go.RatLaw
set_option linter.unusedVariables false

def P_FSheets (s : Int) (l : List En) (h n z : Int) : Prop :=
  ((!decide (l.length ≤ (60 : Nat))) = true → true = true) ∧ ((!decide (l.length ≤ (60 : Nat))) = false → InI64 s ∧ inE l ∧ (((atS s l h n).snd != (0 : Int)) = true → (true && sameF ((atS s l h n).fst.fst, (atS s l h n).fst.snd.fst, (atS s
  l h n).fst.snd.snd.fst, (atS s l h n).fst.snd.snd.snd) ((0 : Int), (0 : Int), (0 : Int), [])) = true) ∧ (((atS s l h n).snd != (0 : Int)) = false → (↑l.length : Int) ≤ (9223372036854775807 : Int) → (∃ (x : Nat), (x ≤ l.length ∧ ∀ (i :
  Nat), i < x → tmE l i ≤ n) ∧ (0 : Int) = (↑x : Int) ∧ false = liesB z (List.take x l)) ∧ ∀ (x : Nat), (x ≤ l.length ∧ ∀ (i : Nat), i < x → tmE l i ≤ n) → (decide ((↑x : Int) < (↑l.length : Int)) = true → (0 : Int) ≤ (↑x : Int) ∧ (↑x :
  Int) < (↑l.length : Int) ∧ (decide ((l.getD (↑x : Int).toNat E6T.d0).fst > n) = true → (∃ (x : Nat), ((1 : Nat) ≤ x ∧ x ≤ (laidAt l n).snd.snd.snd.length + (1 : Nat)) ∧ (1 : Int) = (↑x : Int) ∧ true = true) ∧ ∀ (x_1 : Nat), (1 : Nat) ≤
  x_1 ∧ x_1 ≤ (laidAt l n).snd.snd.snd.length + (1 : Nat) → (↑(atS s l h n).fst.snd.snd.snd.length : Int) ≤ (9223372036854775807 : Int) → (decide ((↑x_1 : Int) < (↑(atS s l h n).fst.snd.snd.snd.length : Int)) = true → (true = true → InI64
  ((↑x_1 : Int) - (1 : Int))) ∧ (true = true → (0 : Int) ≤ (↑x_1 : Int) - (1 : Int) ∧ (↑x_1 : Int) - (1 : Int) < (↑(atS s l h n).fst.snd.snd.snd.length : Int)) ∧ (true = true → (0 : Int) ≤ (↑x_1 : Int) ∧ (↑x_1 : Int) < (↑(atS s l h
  n).fst.snd.snd.snd.length : Int)) ∧ InI64 ((↑x_1 : Int) + (1 : Int)) ∧ ∃ (x' : Nat), ((1 : Nat) ≤ x' ∧ x' ≤ (laidAt l n).snd.snd.snd.length + (1 : Nat)) ∧ (laidAt l n).snd.snd.snd.length + (1 : Nat) - x' < (laidAt l n).snd.snd.snd.length
  + (1 : Nat) - x_1 ∧ (↑x_1 : Int) + (1 : Int) = (↑x' : Int) ∧ (true && decide ((atS s l h n).fst.snd.snd.snd.getD ((↑x_1 : Int) - (1 : Int)).toNat (Ty.ti IntKind.i64).d0 < (atS s l h n).fst.snd.snd.snd.getD (↑x_1 : Int).toNat (Ty.ti
  IntKind.i64).d0)) = true ∧ decide ((l.getD (↑x : Int).toNat E6T.d0).fst > n) = decide ((l.getD (↑x : Int).toNat E6T.d0).fst > n) ∧ decide ((↑x : Int) < (↑l.length : Int)) = decide ((↑x : Int) < (↑l.length : Int)) ∧ (↑x : Int) = (↑x : Int)
  ∧ liesB z (List.take x l) = liesB z (List.take x l) ∧ (↑l.length : Int) = (↑l.length : Int) ∧ l = l ∧ ((atS s l h n).snd != (0 : Int)) = ((atS s l h n).snd != (0 : Int)) ∧ (atS s l h n).snd = (atS s l h n).snd ∧ (!decide (l.length ≤ (60 :
  Nat))) = !decide (l.length ≤ (60 : Nat)) ∧ false = false ∧ s = s ∧ l = l ∧ h = h ∧ n = n ∧ z = z ∧ (l.getD (↑x : Int).toNat E6T.d0).fst = (l.getD (↑x : Int).toNat E6T.d0).fst ∧ (l.getD (↑x : Int).toNat E6T.d0).snd.fst = (l.getD (↑x :
  Int).toNat E6T.d0).snd.fst ∧ (l.getD (↑x : Int).toNat E6T.d0).snd.snd.fst = (l.getD (↑x : Int).toNat E6T.d0).snd.snd.fst ∧ (l.getD (↑x : Int).toNat E6T.d0).snd.snd.snd.fst = (l.getD (↑x : Int).toNat E6T.d0).snd.snd.snd.fst ∧ (l.getD (↑x :
  Int).toNat E6T.d0).snd.snd.snd.snd.fst = (l.getD (↑x : Int).toNat E6T.d0).snd.snd.snd.snd.fst ∧ (l.getD (↑x : Int).toNat E6T.d0).snd.snd.snd.snd.snd = (l.getD (↑x : Int).toNat E6T.d0).snd.snd.snd.snd.snd ∧ (atS s l h n).fst.fst = (atS s l
  h n).fst.fst ∧ (atS s l h n).fst.snd.fst = (atS s l h n).fst.snd.fst ∧ (atS s l h n).fst.snd.snd.fst = (atS s l h n).fst.snd.snd.fst ∧ (atS s l h n).fst.snd.snd.snd = (atS s l h n).fst.snd.snd.snd ∧ s = s ∧ l = l ∧ h = h) ∧ (decide ((↑x_1
  : Int) < (↑(atS s l h n).fst.snd.snd.snd.length : Int)) = false → (true && hasI (atS s l h n).fst.snd.snd.snd z == liesB z (List.take x l)) = true)) ∧ (decide ((l.getD (↑x : Int).toNat E6T.d0).fst > n) = false → InI64 ((↑x : Int) + (1 :
  Int)) ∧ ∃ (x' : Nat), (x' ≤ l.length ∧ ∀ (i : Nat), i < x' → tmE l i ≤ n) ∧ l.length - x' < l.length - x ∧ (↑x : Int) + (1 : Int) = (↑x' : Int) ∧ ((l.getD (↑x : Int).toNat E6T.d0).snd.fst == (2 : Int) && (l.getD (↑x : Int).toNat
  E6T.d0).snd.snd.fst == z || liesB z (List.take x l) && (l.getD (↑x : Int).toNat E6T.d0).snd.fst != (1 : Int)) = liesB z (List.take x' l) ∧ (↑l.length : Int) = (↑l.length : Int) ∧ l = l ∧ ((atS s l h n).snd != (0 : Int)) = ((atS s l h
  n).snd != (0 : Int)) ∧ (atS s l h n).snd = (atS s l h n).snd ∧ (!decide (l.length ≤ (60 : Nat))) = !decide (l.length ≤ (60 : Nat)) ∧ true = true ∧ false = false ∧ s = s ∧ l = l ∧ h = h ∧ n = n ∧ z = z ∧ (atS s l h n).fst.fst = (atS s l h
  n).fst.fst ∧ (atS s l h n).fst.snd.fst = (atS s l h n).fst.snd.fst ∧ (atS s l h n).fst.snd.snd.fst = (atS s l h n).fst.snd.snd.fst ∧ (atS s l h n).fst.snd.snd.snd = (atS s l h n).fst.snd.snd.snd ∧ s = s ∧ l = l ∧ h = h)) ∧ (decide ((↑x :
  Int) < (↑l.length : Int)) = false → (∃ (x : Nat), ((1 : Nat) ≤ x ∧ x ≤ (laidAt l n).snd.snd.snd.length + (1 : Nat)) ∧ (1 : Int) = (↑x : Int) ∧ true = true) ∧ ∀ (x_1 : Nat), (1 : Nat) ≤ x_1 ∧ x_1 ≤ (laidAt l n).snd.snd.snd.length + (1 :
  Nat) → (↑(atS s l h n).fst.snd.snd.snd.length : Int) ≤ (9223372036854775807 : Int) → (decide ((↑x_1 : Int) < (↑(atS s l h n).fst.snd.snd.snd.length : Int)) = true → (true = true → InI64 ((↑x_1 : Int) - (1 : Int))) ∧ (true = true → (0 :
  Int) ≤ (↑x_1 : Int) - (1 : Int) ∧ (↑x_1 : Int) - (1 : Int) < (↑(atS s l h n).fst.snd.snd.snd.length : Int)) ∧ (true = true → (0 : Int) ≤ (↑x_1 : Int) ∧ (↑x_1 : Int) < (↑(atS s l h n).fst.snd.snd.snd.length : Int)) ∧ InI64 ((↑x_1 : Int) +
  (1 : Int)) ∧ ∃ (x' : Nat), ((1 : Nat) ≤ x' ∧ x' ≤ (laidAt l n).snd.snd.snd.length + (1 : Nat)) ∧ (laidAt l n).snd.snd.snd.length + (1 : Nat) - x' < (laidAt l n).snd.snd.snd.length + (1 : Nat) - x_1 ∧ (↑x_1 : Int) + (1 : Int) = (↑x' : Int)
  ∧ (true && decide ((atS s l h n).fst.snd.snd.snd.getD ((↑x_1 : Int) - (1 : Int)).toNat (Ty.ti IntKind.i64).d0 < (atS s l h n).fst.snd.snd.snd.getD (↑x_1 : Int).toNat (Ty.ti IntKind.i64).d0)) = true ∧ decide ((↑x : Int) < (↑l.length :
  Int)) = decide ((↑x : Int) < (↑l.length : Int)) ∧ (↑x : Int) = (↑x : Int) ∧ liesB z (List.take x l) = liesB z (List.take x l) ∧ (↑l.length : Int) = (↑l.length : Int) ∧ l = l ∧ ((atS s l h n).snd != (0 : Int)) = ((atS s l h n).snd != (0 :
  Int)) ∧ (atS s l h n).snd = (atS s l h n).snd ∧ (!decide (l.length ≤ (60 : Nat))) = !decide (l.length ≤ (60 : Nat)) ∧ false = false ∧ s = s ∧ l = l ∧ h = h ∧ n = n ∧ z = z ∧ (atS s l h n).fst.fst = (atS s l h n).fst.fst ∧ (atS s l h
  n).fst.snd.fst = (atS s l h n).fst.snd.fst ∧ (atS s l h n).fst.snd.snd.fst = (atS s l h n).fst.snd.snd.fst ∧ (atS s l h n).fst.snd.snd.snd = (atS s l h n).fst.snd.snd.snd ∧ s = s ∧ l = l ∧ h = h) ∧ (decide ((↑x_1 : Int) < (↑(atS s l h
  n).fst.snd.snd.snd.length : Int)) = false → (true && hasI (atS s l h n).fst.snd.snd.snd z == liesB z (List.take x l)) = true))))
end Go.Proofs.YtfbbkknfcmofcaaDoor
