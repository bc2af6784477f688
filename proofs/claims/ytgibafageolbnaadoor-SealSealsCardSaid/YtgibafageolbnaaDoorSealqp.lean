/- What is to be shown of each function, in plain terms. Written by a program (wip/tools/gen.py). -/
import Derived.Test.YtgibafageolbnaaDoorSealqc
namespace Go.Proofs.YtgibafageolbnaaDoor
open Go.Sy Go.RatLaw
set_option linter.unusedVariables false

def P_SSeals (id kind y p d s ver note val : Int) (q : ByteArray) (x w z : Int) : Prop :=
  ((!markB id kind y p d s ver note val q || !secretB x) = true → true = true) ∧ ((!markB id kind y p d s ver note val q || !secretB x) = false → (3 : Int) ≠ (0 : Int) ∧ ((w.tmod (3 : Int) == (0 : Int)) = true → InI64 x ∧ (0 : Int) ≤ z ∧ z
  ≤ (255 : Int) ∧ (((sealS id kind y p d s ver note val q x).snd != (0 : Int) || (sealS id kind y p d s ver note val q x).snd != (0 : Int) || (sealS id kind y p d s ver note val q x).fst != (sealS id kind y p d s ver note val q x).fst) =
  true → false = true) ∧ (((sealS id kind y p d s ver note val q x).snd != (0 : Int) || (sealS id kind y p d s ver note val q x).snd != (0 : Int) || (sealS id kind y p d s ver note val q x).fst != (sealS id kind y p d s ver note val q
  x).fst) = false → (true && ((sealS id kind y p d s ver note val q (turnN x z)).snd == (0 : Int) && (sealS id kind y p d s ver note val q x).fst != (sealS id kind y p d s ver note val q (turnN x z)).fst || (sealS id kind y p d s ver note
  val q (turnN x z)).snd == (1 : Int) && !(markB id kind y p d s ver note val q && secretB (turnN x z)))) = true)) ∧ ((w.tmod (3 : Int) == (0 : Int)) = false → ((w.tmod (3 : Int) == (1 : Int)) = true → InI64 note ∧ (0 : Int) ≤ z ∧ z ≤ (255
  : Int) ∧ (((sealS id kind y p d s ver note val q x).snd != (0 : Int) || (sealS id kind y p d s ver note val q x).snd != (0 : Int) || (sealS id kind y p d s ver note val q x).fst != (sealS id kind y p d s ver note val q x).fst) = true →
  false = true) ∧ (((sealS id kind y p d s ver note val q x).snd != (0 : Int) || (sealS id kind y p d s ver note val q x).snd != (0 : Int) || (sealS id kind y p d s ver note val q x).fst != (sealS id kind y p d s ver note val q x).fst) =
  false → (true && ((sealS id kind y p d s ver (turnN note z) val q x).snd == (0 : Int) && (sealS id kind y p d s ver note val q x).fst != (sealS id kind y p d s ver (turnN note z) val q x).fst || (sealS id kind y p d s ver (turnN note z)
  val q x).snd == (1 : Int) && !(markB id kind y p d s ver (turnN note z) val q && secretB x))) = true)) ∧ ((w.tmod (3 : Int) == (1 : Int)) = false → ((w.tmod (3 : Int) == (2 : Int)) = true → InI64 val ∧ (0 : Int) ≤ z ∧ z ≤ (255 : Int) ∧
  (((sealS id kind y p d s ver note val q x).snd != (0 : Int) || (sealS id kind y p d s ver note val q x).snd != (0 : Int) || (sealS id kind y p d s ver note val q x).fst != (sealS id kind y p d s ver note val q x).fst) = true → false =
  true) ∧ (((sealS id kind y p d s ver note val q x).snd != (0 : Int) || (sealS id kind y p d s ver note val q x).snd != (0 : Int) || (sealS id kind y p d s ver note val q x).fst != (sealS id kind y p d s ver note val q x).fst) = false →
  (true && ((sealS id kind y p d s ver note (turnN val z) q x).snd == (0 : Int) && (sealS id kind y p d s ver note val q x).fst != (sealS id kind y p d s ver note (turnN val z) q x).fst || (sealS id kind y p d s ver note (turnN val z) q
  x).snd == (1 : Int) && !(markB id kind y p d s ver note (turnN val z) q && secretB x))) = true)) ∧ ((w.tmod (3 : Int) == (2 : Int)) = false → (((sealS id kind y p d s ver note val q x).snd != (0 : Int) || (sealS id kind y p d s ver note
  val q x).snd != (0 : Int) || (sealS id kind y p d s ver note val q x).fst != (sealS id kind y p d s ver note val q x).fst) = true → false = true) ∧ (((sealS id kind y p d s ver note val q x).snd != (0 : Int) || (sealS id kind y p d s ver
  note val q x).snd != (0 : Int) || (sealS id kind y p d s ver note val q x).fst != (sealS id kind y p d s ver note val q x).fst) = false → (true && ((sealS id kind y p d s ver note val q x).snd == (0 : Int) && (sealS id kind y p d s ver
  note val q x).fst != (sealS id kind y p d s ver note val q x).fst || (sealS id kind y p d s ver note val q x).snd == (1 : Int) && !(markB id kind y p d s ver note val q && secretB x))) = true)))))
end Go.Proofs.YtgibafageolbnaaDoor
