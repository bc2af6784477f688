/- What is to be shown of each function, in plain terms. Written by a program (wip/tools/gen.py). -/
import Derived.Test.YtgibafageolbnaaDoorSealmc
namespace Go.Proofs.YtgibafageolbnaaDoor
open Go.Sy Go.RatLaw
set_option linter.unusedVariables false

def P_SMatches (id kind y p d s ver note val : Int) (q : ByteArray) (x s1 : Int) (l1 : List En) (h1 s2 : Int) (l2 : List En) (h2 t k a b c g : Int) : Prop :=
  ((!decide (l1.length ≤ (60 : Nat)) || !decide (l2.length ≤ (60 : Nat))) = true → true = true) ∧ ((!decide (l1.length ≤ (60 : Nat)) || !decide (l2.length ≤ (60 : Nat))) = false → (true = true → InI64 s1 ∧ inE l1) ∧ (true = true → InI64 s1
  ∧ inE l1) ∧ InI64 s1 ∧ inE l1 ∧ InI64 t ∧ ((0 : Int) ≤ g ∧ g < (18446744073709551616 : Int)) ∧ InI64 s1 ∧ inE l1 ∧ InI64 t ∧ ((0 : Int) ≤ g ∧ g < (18446744073709551616 : Int)) ∧ InI64 s1 ∧ inE l1 ∧ InI64 s2 ∧ inE l2 ∧ InI64 s1 ∧ inE l1 ∧
  InI64 s2 ∧ inE l2 ∧ (true && logB s1 l1 h1 == logB s1 l1 h1 && (sealS id kind y p d s ver note val q x).fst == (sealS id kind y p d s ver note val q x).fst && (sealS id kind y p d s ver note val q x).snd == (sealS id kind y p d s ver note
  val q x).snd && sameL (appS s1 l1 h1 (t, k, a, b, c, g)).fst.fst (appS s1 l1 h1 (t, k, a, b, c, g)).fst.snd.fst (appS s1 l1 h1 (t, k, a, b, c, g)).fst.snd.snd (appS s1 l1 h1 (t, k, a, b, c, g)).fst.fst (appS s1 l1 h1 (t, k, a, b, c,
  g)).fst.snd.fst (appS s1 l1 h1 (t, k, a, b, c, g)).fst.snd.snd && (appS s1 l1 h1 (t, k, a, b, c, g)).snd == (appS s1 l1 h1 (t, k, a, b, c, g)).snd && (begS s1 l1 h1 s2 l2 h2).fst == (begS s1 l1 h1 s2 l2 h2).fst && (begS s1 l1 h1 s2 l2
  h2).snd == (begS s1 l1 h1 s2 l2 h2).snd) = true)
end Go.Proofs.YtgibafageolbnaaDoor
