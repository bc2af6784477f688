/- What is to be shown of each function, in plain terms. Written by a program (wip/tools/gen.py). -/
import Derived.Test.YtgibafageolbnaaDoorSealoc
namespace Go.Proofs.YtgibafageolbnaaDoor
open Go.Sy Go.RatLaw
set_option linter.unusedVariables false

def P_SBegins (s1 : Int) (l1 : List En) (h1 s2 : Int) (l2 : List En) (h2 s3 : Int) (l3 : List En) (h3 : Int) (n : Int) : Prop :=
  ((!decide (l1.length ≤ (60 : Nat)) || !decide (l2.length ≤ (60 : Nat)) || !decide (l3.length ≤ (60 : Nat))) = false → InI64 s1 ∧ inE l1) ∧ ((!decide (l1.length ≤ (60 : Nat)) || !decide (l2.length ≤ (60 : Nat)) || !decide (l3.length ≤ (60
  : Nat)) || !logB s1 l1 h1) = false → InI64 s2 ∧ inE l2) ∧ ((!decide (l1.length ≤ (60 : Nat)) || !decide (l2.length ≤ (60 : Nat)) || !decide (l3.length ≤ (60 : Nat)) || !logB s1 l1 h1 || !logB s2 l2 h2) = false → InI64 s3 ∧ inE l3) ∧
  ((!decide (l1.length ≤ (60 : Nat)) || !decide (l2.length ≤ (60 : Nat)) || !decide (l3.length ≤ (60 : Nat)) || !logB s1 l1 h1 || !logB s2 l2 h2 || !logB s3 l3 h3) = true → true = true) ∧ ((!decide (l1.length ≤ (60 : Nat)) || !decide
  (l2.length ≤ (60 : Nat)) || !decide (l3.length ≤ (60 : Nat)) || !logB s1 l1 h1 || !logB s2 l2 h2 || !logB s3 l3 h3) = false → InI64 s1 ∧ inE l1 ∧ InI64 s1 ∧ inE l1 ∧ InI64 s1 ∧ inE l1 ∧ InI64 s2 ∧ inE l2 ∧ InI64 s2 ∧ inE l2 ∧ InI64 s1 ∧
  inE l1 ∧ InI64 s2 ∧ inE l2 ∧ InI64 s3 ∧ inE l3 ∧ InI64 s1 ∧ inE l1 ∧ InI64 s3 ∧ inE l3 ∧ (((begS s1 l1 h1 s1 l1 h1).snd != (0 : Int) || (begS s1 l1 h1 s2 l2 h2).snd != (0 : Int) || (begS s2 l2 h2 s1 l1 h1).snd != (0 : Int) || (begS s2 l2
  h2 s3 l3 h3).snd != (0 : Int) || (begS s1 l1 h1 s3 l3 h3).snd != (0 : Int) || !(begS s1 l1 h1 s1 l1 h1).fst) = true → false = true) ∧ (((begS s1 l1 h1 s1 l1 h1).snd != (0 : Int) || (begS s1 l1 h1 s2 l2 h2).snd != (0 : Int) || (begS s2 l2
  h2 s1 l1 h1).snd != (0 : Int) || (begS s2 l2 h2 s3 l3 h3).snd != (0 : Int) || (begS s1 l1 h1 s3 l3 h3).snd != (0 : Int) || !(begS s1 l1 h1 s1 l1 h1).fst) = false → (((begS s1 l1 h1 s2 l2 h2).fst && (begS s2 l2 h2 s1 l1 h1).fst && !sameL
  s1 l1 h1 s2 l2 h2 || (begS s1 l1 h1 s2 l2 h2).fst && (begS s2 l2 h2 s3 l3 h3).fst && !(begS s1 l1 h1 s3 l3 h3).fst) = true → false = true) ∧ (((begS s1 l1 h1 s2 l2 h2).fst && (begS s2 l2 h2 s1 l1 h1).fst && !sameL s1 l1 h1 s2 l2 h2 ||
  (begS s1 l1 h1 s2 l2 h2).fst && (begS s2 l2 h2 s3 l3 h3).fst && !(begS s1 l1 h1 s3 l3 h3).fst) = false → InI64 n ∧ ((↑l1.length : Int) ≤ (9223372036854775807 : Int) → InI64 ((↑l1.length : Int) + (1 : Int)) ∧ (↑l1.length : Int) + (1 : Int)
  ≠ (0 : Int) ∧ (0 : Int) ≤ (0 : Int) ∧ (0 : Int) ≤ n.tmod ((↑l1.length : Int) + (1 : Int)) ∧ n.tmod ((↑l1.length : Int) + (1 : Int)) ≤ (↑l1.length : Int) ∧ (0 : Int) ≤ (0 : Int) ∧ (0 : Int) ≤ n.tmod ((↑l1.length : Int) + (1 : Int)) ∧
  n.tmod ((↑l1.length : Int) + (1 : Int)) ≤ (↑l1.length : Int) ∧ InI64 s1 ∧ inE (List.drop (Int.toNat (0 : Int)) (List.take (n.tmod ((↑l1.length : Int) + (1 : Int))).toNat l1)) ∧ (List.drop (Int.toNat (0 : Int)) (List.take (n.tmod
  ((↑l1.length : Int) + (1 : Int))).toNat l1)).length ≤ (1000000 : Nat) ∧ InI64 s1 ∧ inE (List.drop (Int.toNat (0 : Int)) (List.take (n.tmod ((↑l1.length : Int) + (1 : Int))).toNat l1)) ∧ InI64 s1 ∧ inE l1 ∧ (true && (begS s1 (List.drop
  (Int.toNat (0 : Int)) (List.take (n.tmod ((↑l1.length : Int) + (1 : Int))).toNat l1)) (chainE s1 (List.drop (Int.toNat (0 : Int)) (List.take (n.tmod ((↑l1.length : Int) + (1 : Int))).toNat l1))) s1 l1 h1).snd == (0 : Int) && (begS s1
  (List.drop (Int.toNat (0 : Int)) (List.take (n.tmod ((↑l1.length : Int) + (1 : Int))).toNat l1)) (chainE s1 (List.drop (Int.toNat (0 : Int)) (List.take (n.tmod ((↑l1.length : Int) + (1 : Int))).toNat l1))) s1 l1 h1).fst) = true))))
end Go.Proofs.YtgibafageolbnaaDoor
