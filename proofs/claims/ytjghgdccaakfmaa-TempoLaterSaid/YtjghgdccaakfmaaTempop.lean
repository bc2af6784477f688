/- What is to be shown of each function, in plain terms. Written by a program (wip/tools/gen.py). -/
import Derived.Test.YtjghgdccaakfmaaTempoc
namespace Go.Proofs.Ytjghgdccaakfmaa
open Go.Sy Go.RatLaw
set_option linter.unusedVariables false

def P_isTempo (n d : Int) : Prop :=
  ((vld n d && decide (n > (0 : Int))) = true → InI64 ((10 : Int) * d)) ∧ ((vld n d && decide (n > (0 : Int)) && decide (n ≤ (10 : Int) * d)) = true → d ≠ (0 : Int)) ∧ (vld n d && decide (n > (0 : Int)) && decide (n ≤ (10 : Int) * d) &&
  Int.tmod (60 : Int) d == (0 : Int)) = isTm n d
def P_scale (n d : Int) : Prop :=
  ((!vld n d || decide (n < (1 : Int))) = false → InI64 ((10 : Int) * d)) ∧ ((!vld n d || decide (n < (1 : Int)) || decide (n > (10 : Int) * d)) = false → d ≠ (0 : Int)) ∧ ((!vld n d || decide (n < (1 : Int)) || decide (n > (10 : Int) * d)
  || Int.tmod (60 : Int) d != (0 : Int)) = true → (-1 : Int) = sclT n d) ∧ ((!vld n d || decide (n < (1 : Int)) || decide (n > (10 : Int) * d) || Int.tmod (60 : Int) d != (0 : Int)) = false → d ≠ (0 : Int) ∧ InI64 (Int.tdiv (60 : Int) d) ∧
  InI64 (n * Int.tdiv (60 : Int) d) ∧ n * Int.tdiv (60 : Int) d = sclT n d)
def P_tValid (bars : List Bar) (l : List T3) : Prop :=
  ((!okBars bars) = false → (↑l.length : Int) ≤ (9223372036854775807 : Int)) → ((!okBars bars || (↑l.length : Int) == (0 : Int)) = false → (↑l.length : Int) ≤ (9223372036854775807 : Int)) → ((!okBars bars || (↑l.length : Int) == (0 : Int)
  || decide ((↑l.length : Int) > (1000 : Int))) = false → (0 : Int) ≤ (0 : Int) ∧ (0 : Int) < (↑l.length : Int)) ∧ ((!okBars bars || (↑l.length : Int) == (0 : Int) || decide ((↑l.length : Int) > (1000 : Int)) || (l.getD (Int.toNat (0 :
  Int)) T3T.d0).fst != (0 : Int)) = true → false = okTm bars l) ∧ ((!okBars bars || (↑l.length : Int) == (0 : Int) || decide ((↑l.length : Int) > (1000 : Int)) || (l.getD (Int.toNat (0 : Int)) T3T.d0).fst != (0 : Int)) = false → (↑l.length
  : Int) ≤ (9223372036854775807 : Int) → (∃ (x : Nat), (x ≤ l.length ∧ tmsFrom (↑bars.length : Int) (-1 : Int) l = tmsFrom (↑bars.length : Int) (tmLast l x) (List.drop x l)) ∧ (0 : Int) = (↑x : Int)) ∧ ∀ (x : Nat), x ≤ l.length ∧ tmsFrom
  (↑bars.length : Int) (-1 : Int) l = tmsFrom (↑bars.length : Int) (tmLast l x) (List.drop x l) → (decide ((↑x : Int) < (↑l.length : Int)) = true → (0 : Int) ≤ (↑x : Int) ∧ (↑x : Int) < (↑l.length : Int) ∧ (decide ((↑x : Int) > (0 : Int)) =
  true ∧ (!isTm (l.getD (↑x : Int).toNat T3T.d0).snd.fst (l.getD (↑x : Int).toNat T3T.d0).snd.snd || decide ((l.getD (↑x : Int).toNat T3T.d0).fst ≥ (↑bars.length : Int))) = false → InI64 ((↑x : Int) - (1 : Int))) ∧ (decide ((↑x : Int) > (0
  : Int)) = true ∧ (!isTm (l.getD (↑x : Int).toNat T3T.d0).snd.fst (l.getD (↑x : Int).toNat T3T.d0).snd.snd || decide ((l.getD (↑x : Int).toNat T3T.d0).fst ≥ (↑bars.length : Int))) = false → (0 : Int) ≤ (↑x : Int) - (1 : Int) ∧ (↑x : Int) -
  (1 : Int) < (↑l.length : Int)) ∧ (((!isTm (l.getD (↑x : Int).toNat T3T.d0).snd.fst (l.getD (↑x : Int).toNat T3T.d0).snd.snd) = false → (↑bars.length : Int) ≤ (9223372036854775807 : Int)) → ((!isTm (l.getD (↑x : Int).toNat T3T.d0).snd.fst
  (l.getD (↑x : Int).toNat T3T.d0).snd.snd || decide ((l.getD (↑x : Int).toNat T3T.d0).fst ≥ (↑bars.length : Int)) || decide ((↑x : Int) > (0 : Int)) && decide ((l.getD (↑x : Int).toNat T3T.d0).fst ≤ (l.getD ((↑x : Int) - (1 : Int)).toNat
  T3T.d0).fst)) = true → false = okTm bars l) ∧ ((!isTm (l.getD (↑x : Int).toNat T3T.d0).snd.fst (l.getD (↑x : Int).toNat T3T.d0).snd.snd || decide ((l.getD (↑x : Int).toNat T3T.d0).fst ≥ (↑bars.length : Int)) || decide ((↑x : Int) > (0 :
  Int)) && decide ((l.getD (↑x : Int).toNat T3T.d0).fst ≤ (l.getD ((↑x : Int) - (1 : Int)).toNat T3T.d0).fst)) = false → InI64 ((↑x : Int) + (1 : Int)) ∧ ∃ (x' : Nat), (x' ≤ l.length ∧ tmsFrom (↑bars.length : Int) (-1 : Int) l = tmsFrom
  (↑bars.length : Int) (tmLast l x') (List.drop x' l)) ∧ l.length - x' < l.length - x ∧ (↑x : Int) + (1 : Int) = (↑x' : Int) ∧ (↑l.length : Int) = (↑l.length : Int) ∧ l = l ∧ (!okBars bars || (↑l.length : Int) == (0 : Int) || decide
  ((↑l.length : Int) > (1000 : Int)) || (l.getD (Int.toNat (0 : Int)) T3T.d0).fst != (0 : Int)) = (!okBars bars || (↑l.length : Int) == (0 : Int) || decide ((↑l.length : Int) > (1000 : Int)) || (l.getD (Int.toNat (0 : Int)) T3T.d0).fst !=
  (0 : Int)) ∧ bars = bars ∧ l = l))) ∧ (decide ((↑x : Int) < (↑l.length : Int)) = false → true = okTm bars l))
def P_rTValid (bars : List Bar) (l : List T3) : Prop :=
  ((!okBars bars) = false → (↑l.length : Int) ≤ (9223372036854775807 : Int)) → ((!okBars bars || decide ((↑l.length : Int) < (1 : Int))) = false → (↑l.length : Int) ≤ (9223372036854775807 : Int)) → ((!okBars bars || decide ((↑l.length :
  Int) < (1 : Int)) || decide ((↑l.length : Int) > (1000 : Int))) = false → (0 : Int) ≤ (0 : Int) ∧ (0 : Int) < (↑l.length : Int)) ∧ ((!okBars bars || decide ((↑l.length : Int) < (1 : Int)) || decide ((↑l.length : Int) > (1000 : Int)) ||
  (l.getD (Int.toNat (0 : Int)) T3T.d0).fst != (0 : Int)) = true → false = okTm bars l) ∧ ((!okBars bars || decide ((↑l.length : Int) < (1 : Int)) || decide ((↑l.length : Int) > (1000 : Int)) || (l.getD (Int.toNat (0 : Int)) T3T.d0).fst !=
  (0 : Int)) = false → (∃ (x : Nat), (x ≤ l.length ∧ tmsFrom (↑bars.length : Int) (-1 : Int) l = tmsFrom (↑bars.length : Int) (tmLast l x) (List.drop x l)) ∧ (0 : Int) = (↑x : Int)) ∧ ∀ (x : Nat), x ≤ l.length ∧ tmsFrom (↑bars.length : Int)
  (-1 : Int) l = tmsFrom (↑bars.length : Int) (tmLast l x) (List.drop x l) → (↑l.length : Int) ≤ (9223372036854775807 : Int) → (decide ((↑x : Int) < (↑l.length : Int)) = true → (0 : Int) ≤ (↑x : Int) ∧ (↑x : Int) < (↑l.length : Int) ∧
  (decide (sclT (l.getD (↑x : Int).toNat T3T.d0).snd.fst (l.getD (↑x : Int).toNat T3T.d0).snd.snd < (0 : Int)) = false → (0 : Int) ≤ (↑x : Int) ∧ (↑x : Int) < (↑l.length : Int)) ∧ (decide ((↑x : Int) > (0 : Int)) = true ∧ (decide (sclT
  (l.getD (↑x : Int).toNat T3T.d0).snd.fst (l.getD (↑x : Int).toNat T3T.d0).snd.snd < (0 : Int)) || decide ((l.getD (↑x : Int).toNat T3T.d0).fst ≥ (↑bars.length : Int))) = false → (0 : Int) ≤ (↑x : Int) ∧ (↑x : Int) < (↑l.length : Int)) ∧
  (decide ((↑x : Int) > (0 : Int)) = true ∧ (decide (sclT (l.getD (↑x : Int).toNat T3T.d0).snd.fst (l.getD (↑x : Int).toNat T3T.d0).snd.snd < (0 : Int)) || decide ((l.getD (↑x : Int).toNat T3T.d0).fst ≥ (↑bars.length : Int))) = false →
  InI64 ((↑x : Int) - (1 : Int))) ∧ (decide ((↑x : Int) > (0 : Int)) = true ∧ (decide (sclT (l.getD (↑x : Int).toNat T3T.d0).snd.fst (l.getD (↑x : Int).toNat T3T.d0).snd.snd < (0 : Int)) || decide ((l.getD (↑x : Int).toNat T3T.d0).fst ≥
  (↑bars.length : Int))) = false → (0 : Int) ≤ (↑x : Int) - (1 : Int) ∧ (↑x : Int) - (1 : Int) < (↑l.length : Int)) ∧ ((decide (sclT (l.getD (↑x : Int).toNat T3T.d0).snd.fst (l.getD (↑x : Int).toNat T3T.d0).snd.snd < (0 : Int)) = false →
  (↑bars.length : Int) ≤ (9223372036854775807 : Int)) → ((decide (sclT (l.getD (↑x : Int).toNat T3T.d0).snd.fst (l.getD (↑x : Int).toNat T3T.d0).snd.snd < (0 : Int)) || decide ((l.getD (↑x : Int).toNat T3T.d0).fst ≥ (↑bars.length : Int)) ||
  decide ((↑x : Int) > (0 : Int)) && decide ((l.getD (↑x : Int).toNat T3T.d0).fst ≤ (l.getD ((↑x : Int) - (1 : Int)).toNat T3T.d0).fst)) = true → false = okTm bars l) ∧ ((decide (sclT (l.getD (↑x : Int).toNat T3T.d0).snd.fst (l.getD (↑x :
  Int).toNat T3T.d0).snd.snd < (0 : Int)) || decide ((l.getD (↑x : Int).toNat T3T.d0).fst ≥ (↑bars.length : Int)) || decide ((↑x : Int) > (0 : Int)) && decide ((l.getD (↑x : Int).toNat T3T.d0).fst ≤ (l.getD ((↑x : Int) - (1 : Int)).toNat
  T3T.d0).fst)) = false → InI64 ((↑x : Int) + (1 : Int)) ∧ ∃ (x' : Nat), (x' ≤ l.length ∧ tmsFrom (↑bars.length : Int) (-1 : Int) l = tmsFrom (↑bars.length : Int) (tmLast l x') (List.drop x' l)) ∧ l.length - x' < l.length - x ∧ (↑x : Int) +
  (1 : Int) = (↑x' : Int) ∧ (!okBars bars || decide ((↑l.length : Int) < (1 : Int)) || decide ((↑l.length : Int) > (1000 : Int)) || (l.getD (Int.toNat (0 : Int)) T3T.d0).fst != (0 : Int)) = (!okBars bars || decide ((↑l.length : Int) < (1 :
  Int)) || decide ((↑l.length : Int) > (1000 : Int)) || (l.getD (Int.toNat (0 : Int)) T3T.d0).fst != (0 : Int)) ∧ okBars bars = okBars bars ∧ bars = bars ∧ l = l))) ∧ (decide ((↑x : Int) < (↑l.length : Int)) = false → true = okTm bars l))
def P_later1 (x b : Int) (l : List T3) : Prop :=
  (0 : Int) ≤ x ∧ x < (↑l.length : Int) ∧ decide ((l.getD x.toNat ((Ty.ti IntKind.i64).tp ((Ty.ti IntKind.i64).tp (Ty.ti IntKind.i64))).d0).fst > b) = decide ((l.getD x.toNat t30).fst > b) ∧ l = l ∧ b = b
def P_search (m b : Int) (l : List T3) : Prop :=
  (∃ (x : Nat × Nat), (x.fst ≤ x.snd ∧ x.snd ≤ l.length ∧ (∀ (k : Nat), k < x.fst → (l.getD k t30).fst ≤ b) ∧ ∀ (k : Nat), x.snd ≤ k → k < l.length → b < (l.getD k t30).fst) ∧ (0 : Int) = (↑x.fst : Int) ∧ m = (↑x.snd : Int)) ∧ ∀ (x : Nat ×
  Nat), (x.fst ≤ x.snd ∧ x.snd ≤ l.length ∧ (∀ (k : Nat), k < x.fst → (l.getD k t30).fst ≤ b) ∧ ∀ (k : Nat), x.snd ≤ k → k < l.length → b < (l.getD k t30).fst) → (decide ((↑x.fst : Int) < (↑x.snd : Int)) = true → InI64 ((↑x.fst : Int) +
  (↑x.snd : Int)) ∧ (0 : Int) ≤ (1 : Int) ∧ InI64 (shrW IntKind.u64 (IntKind.u64.wrap ((↑x.fst : Int) + (↑x.snd : Int))) (1 : Int)) ∧ (0 : Int) ≤ shrW IntKind.u64 (IntKind.u64.wrap ((↑x.fst : Int) + (↑x.snd : Int))) (1 : Int) ∧ shrW
  IntKind.u64 (IntKind.u64.wrap ((↑x.fst : Int) + (↑x.snd : Int))) (1 : Int) < (↑l.length : Int) ∧ ((!decide ((l.getD (shrW IntKind.u64 (IntKind.u64.wrap ((↑x.fst : Int) + (↑x.snd : Int))) (1 : Int)).toNat t30).fst > b)) = true → InI64
  (shrW IntKind.u64 (IntKind.u64.wrap ((↑x.fst : Int) + (↑x.snd : Int))) (1 : Int) + (1 : Int)) ∧ ∃ (x' : Nat × Nat), (x'.fst ≤ x'.snd ∧ x'.snd ≤ l.length ∧ (∀ (k : Nat), k < x'.fst → (l.getD k t30).fst ≤ b) ∧ ∀ (k : Nat), x'.snd ≤ k → k <
  l.length → b < (l.getD k t30).fst) ∧ x'.snd - x'.fst < x.snd - x.fst ∧ shrW IntKind.u64 (IntKind.u64.wrap ((↑x.fst : Int) + (↑x.snd : Int))) (1 : Int) + (1 : Int) = (↑x'.fst : Int) ∧ (↑x.snd : Int) = (↑x'.snd : Int) ∧ (0 : Int) = (0 :
  Int) ∧ m = m ∧ coL (LV.clo (60 : FuncId) [] [((2000 : Nat), (0 : Nat)), ((2001 : Nat), (0 : Nat))]) (LV.clo (60 : FuncId) [] [((2000 : Nat), (0 : Nat)), ((2001 : Nat), (0 : Nat))]) = LV.clo (60 : FuncId) [] [((2000 : Nat), (0 : Nat)),
  ((2001 : Nat), (0 : Nat))] ∧ l = l ∧ b = b) ∧ ((!decide ((l.getD (shrW IntKind.u64 (IntKind.u64.wrap ((↑x.fst : Int) + (↑x.snd : Int))) (1 : Int)).toNat t30).fst > b)) = false → ∃ (x' : Nat × Nat), (x'.fst ≤ x'.snd ∧ x'.snd ≤ l.length ∧
  (∀ (k : Nat), k < x'.fst → (l.getD k t30).fst ≤ b) ∧ ∀ (k : Nat), x'.snd ≤ k → k < l.length → b < (l.getD k t30).fst) ∧ x'.snd - x'.fst < x.snd - x.fst ∧ (↑x.fst : Int) = (↑x'.fst : Int) ∧ shrW IntKind.u64 (IntKind.u64.wrap ((↑x.fst :
  Int) + (↑x.snd : Int))) (1 : Int) = (↑x'.snd : Int) ∧ (0 : Int) = (0 : Int) ∧ m = m ∧ coL (LV.clo (60 : FuncId) [] [((2000 : Nat), (0 : Nat)), ((2001 : Nat), (0 : Nat))]) (LV.clo (60 : FuncId) [] [((2000 : Nat), (0 : Nat)), ((2001 : Nat),
  (0 : Nat))]) = LV.clo (60 : FuncId) [] [((2000 : Nat), (0 : Nat)), ((2001 : Nat), (0 : Nat))] ∧ l = l ∧ b = b)) ∧ (decide ((↑x.fst : Int) < (↑x.snd : Int)) = false → (↑x.fst : Int) = (↑(tmN l b) : Int) ∧ l = l ∧ b = b)
def P_tAt (l : List T3) (b : Int) : Prop :=
  (↑l.length : Int) ≤ (9223372036854775807 : Int) → (↑l.length : Int) = (↑l.length : Int) ∧ l.length ≤ (1000 : Nat) ∧ riseT l ∧ InI64 ((↑(tmN l b) : Int) - (1 : Int)) ∧ (0 : Int) ≤ (↑(tmN l b) : Int) - (1 : Int) ∧ (↑(tmN l b) : Int) - (1 :
  Int) < (↑l.length : Int) ∧ (l.getD ((↑(tmN l b) : Int) - (1 : Int)).toNat T3T.d0).snd.fst = (tmAt l b).fst ∧ (l.getD ((↑(tmN l b) : Int) - (1 : Int)).toNat T3T.d0).snd.snd = (tmAt l b).snd
def P_tadd (n t a d : Int) (l : List T3) : Prop :=
  InI64 (t * a) ∧ d ≠ (0 : Int) ∧ InI64 (Int.tdiv (60 : Int) d) ∧ InI64 (t * a * Int.tdiv (60 : Int) d) ∧ InI64 (n + t * a * Int.tdiv (60 : Int) d) ∧ n + t * a * Int.tdiv (60 : Int) d = n + t * sclT a d ∧ l = l
def P_tTake (n b x y s : Int) (l : List T3) : Prop :=
  InI64 (s * x) ∧ y ≠ (0 : Int) ∧ InI64 (Int.tdiv (1680 : Int) y) ∧ InI64 (s * x * Int.tdiv (1680 : Int) y) ∧ l.length ≤ (1000 : Nat) ∧ riseT l ∧ (0 : Nat) < tmN l b ∧ isTm (tmAt l b).fst (tmAt l b).snd = true ∧ ((-1000000000000 : Int) ≤ n
  ∧ n ≤ (1000000000000 : Int)) ∧ ((-100000 : Int) ≤ s * x * Int.tdiv (1680 : Int) y ∧ s * x * Int.tdiv (1680 : Int) y ≤ (100000 : Int)) ∧ n + s * x * Int.tdiv (1680 : Int) y * sclT (tmAt l b).fst (tmAt l b).snd = n + takeT l b (s * tk x y)
  ∧ l = l
def P_seconds (n : Int) (l : List T3) : Prop :=
  (make n (100800 : Int)).fst = (make n (100800 : Int)).fst ∧ (make n (100800 : Int)).snd.fst = (make n (100800 : Int)).snd.fst ∧ (make n (100800 : Int)).snd.snd = (make n (100800 : Int)).snd.snd ∧ n = n ∧ l = l
def P_tIsPos (bars : List Bar) (b n d : Int) : Prop :=
  ((timeS bars b n d).snd.snd == (0 : Int)) = posS bars b n d
def P_tLater (b n d b' n' d' : Int) : Prop :=
  ((b != b') = true → decide (b > b') = if b = b' then decide ((compareR n d n' d').fst > (0 : Int)) else decide (b > b')) ∧ ((b != b') = false → decide ((compareR n d n' d').fst > (0 : Int)) = if b = b' then decide ((compareR n d n'
  d').fst > (0 : Int)) else decide (b > b'))
def P_tAt0 (bars : List Bar) (l : List T3) (b : Int) : Prop :=
  ((!okTm bars l || decide (b < (0 : Int))) = false → (↑bars.length : Int) ≤ (9223372036854775807 : Int)) → ((!okTm bars l || decide (b < (0 : Int)) || decide (b ≥ (↑bars.length : Int))) = true → (0 : Int) = (tmAtS bars l b).fst ∧ (0 : Int)
  = (tmAtS bars l b).snd.fst ∧ (1 : Int) = (tmAtS bars l b).snd.snd) ∧ ((!okTm bars l || decide (b < (0 : Int)) || decide (b ≥ (↑bars.length : Int))) = false → l.length ≤ (1000 : Nat) ∧ riseT l ∧ (0 : Nat) < tmN l b ∧ (tmAt l b).fst =
  (tmAtS bars l b).fst ∧ (tmAt l b).snd = (tmAtS bars l b).snd.fst ∧ (0 : Int) = (tmAtS bars l b).snd.snd)
def P_tSeconds (bars : List Bar) (l : List T3) (b n d b' n' d' : Int) : Prop :=
  ((!okTm bars l) = false → okBars bars = true) ∧ ((!okTm bars l || !posS bars b n d) = false → okBars bars = true) ∧ ((!okTm bars l || !posS bars b n d || !posS bars b' n' d' || if b = b' then decide ((compareR n d n' d').fst > (0 : Int))
  else decide (b > b')) = true → (0 : Int) = (secS bars l b n d b' n' d').fst ∧ (0 : Int) = (secS bars l b n d b' n' d').snd.fst ∧ (1 : Int) = (secS bars l b n d b' n' d').snd.snd) ∧ ((!okTm bars l || !posS bars b n d || !posS bars b' n' d'
  || if b = b' then decide ((compareR n d n' d').fst > (0 : Int)) else decide (b > b')) = false → (∃ (x : Nat), (b.toNat ≤ x ∧ x ≤ b'.toNat) ∧ b = (↑x : Int) ∧ (0 : Int) = sumT bars l x - sumT bars l b.toNat ∧ l = l) ∧ ∀ (x : Nat), b.toNat
  ≤ x ∧ x ≤ b'.toNat → (decide ((↑x : Int) < b') = true → (0 : Int) ≤ (↑x : Int) ∧ (↑x : Int) < (↑bars.length : Int) ∧ l.length ≤ (1000 : Nat) ∧ riseT l ∧ (0 : Nat) < tmN l (↑x : Int) ∧ isTm (tmAt l (↑x : Int)).fst (tmAt l (↑x : Int)).snd =
  true ∧ dur (bars.getD (↑x : Int).toNat BT.d0).snd.fst.fst (bars.getD (↑x : Int).toNat BT.d0).snd.fst.snd = true ∧ tk (bars.getD (↑x : Int).toNat BT.d0).snd.fst.fst (bars.getD (↑x : Int).toNat BT.d0).snd.fst.snd ≤ (40320 : Int) ∧ ((1 :
  Int) = (1 : Int) ∨ (1 : Int) = (-1 : Int)) ∧ ((-1000000000000 : Int) ≤ sumT bars l x - sumT bars l b.toNat ∧ sumT bars l x - sumT bars l b.toNat ≤ (1000000000000 : Int)) ∧ InI64 ((↑x : Int) + (1 : Int)) ∧ ∃ (x' : Nat), (b.toNat ≤ x' ∧ x'
  ≤ b'.toNat) ∧ b'.toNat - x' < b'.toNat - x ∧ (↑x : Int) + (1 : Int) = (↑x' : Int) ∧ coL (LV.clo (38 : Nat) [((37 : Nat), (0 : Nat))] []) (LV.clo (38 : Nat) [((37 : Nat), (0 : Nat))] []) = LV.clo (38 : Nat) [((37 : Nat), (0 : Nat))] [] ∧
  (!okTm bars l || !posS bars b n d || !posS bars b' n' d' || if b = b' then decide ((compareR n d n' d').fst > (0 : Int)) else decide (b > b')) = (!okTm bars l || !posS bars b n d || !posS bars b' n' d' || if b = b' then decide ((compareR
  n d n' d').fst > (0 : Int)) else decide (b > b')) ∧ (0 : Int) = (0 : Int) ∧ bars = bars ∧ l = l ∧ b = b ∧ n = n ∧ d = d ∧ b' = b' ∧ n' = n' ∧ d' = d' ∧ sumT bars l x - sumT bars l b.toNat + takeT l (↑x : Int) ((1 : Int) * tk (bars.getD
  (↑x : Int).toNat BT.d0).snd.fst.fst (bars.getD (↑x : Int).toNat BT.d0).snd.fst.snd) = sumT bars l x' - sumT bars l b.toNat ∧ l = l ∧ (0 : Int) = (0 : Int) ∧ (0 : Int) = (0 : Int) ∧ b' = b' ∧ n' = n' ∧ d' = d' ∧ b = b ∧ n = n ∧ d = d) ∧
  (decide ((↑x : Int) < b') = false → (↑bars.length : Int) ≤ (9223372036854775807 : Int) → (decide (b < (↑bars.length : Int)) = true → l.length ≤ (1000 : Nat) ∧ riseT l ∧ (0 : Nat) < tmN l b ∧ isTm (tmAt l b).fst (tmAt l b).snd = true ∧ dur
  n d = true ∧ tk n d ≤ (40320 : Int) ∧ ((-1 : Int) = (1 : Int) ∨ (-1 : Int) = (-1 : Int)) ∧ ((-1000000000000 : Int) ≤ sumT bars l x - sumT bars l b.toNat ∧ sumT bars l x - sumT bars l b.toNat ≤ (1000000000000 : Int)) ∧ ((↑bars.length :
  Int) ≤ (9223372036854775807 : Int) → (decide (b' < (↑bars.length : Int)) = true → l.length ≤ (1000 : Nat) ∧ riseT l ∧ (0 : Nat) < tmN l b' ∧ isTm (tmAt l b').fst (tmAt l b').snd = true ∧ dur n' d' = true ∧ tk n' d' ≤ (40320 : Int) ∧ ((1 :
  Int) = (1 : Int) ∨ (1 : Int) = (-1 : Int)) ∧ ((-1000000000000 : Int) ≤ sumT bars l x - sumT bars l b.toNat + takeT l b ((-1 : Int) * tk n d) ∧ sumT bars l x - sumT bars l b.toNat + takeT l b ((-1 : Int) * tk n d) ≤ (1000000000000 : Int))
  ∧ (make (sumT bars l x - sumT bars l b.toNat + takeT l b ((-1 : Int) * tk n d) + takeT l b' ((1 : Int) * tk n' d')) (100800 : Int)).fst = (secS bars l b n d b' n' d').fst ∧ (make (sumT bars l x - sumT bars l b.toNat + takeT l b ((-1 :
  Int) * tk n d) + takeT l b' ((1 : Int) * tk n' d')) (100800 : Int)).snd.fst = (secS bars l b n d b' n' d').snd.fst ∧ (make (sumT bars l x - sumT bars l b.toNat + takeT l b ((-1 : Int) * tk n d) + takeT l b' ((1 : Int) * tk n' d')) (100800
  : Int)).snd.snd = (secS bars l b n d b' n' d').snd.snd) ∧ (decide (b' < (↑bars.length : Int)) = false → (make (sumT bars l x - sumT bars l b.toNat + takeT l b ((-1 : Int) * tk n d)) (100800 : Int)).fst = (secS bars l b n d b' n' d').fst ∧
  (make (sumT bars l x - sumT bars l b.toNat + takeT l b ((-1 : Int) * tk n d)) (100800 : Int)).snd.fst = (secS bars l b n d b' n' d').snd.fst ∧ (make (sumT bars l x - sumT bars l b.toNat + takeT l b ((-1 : Int) * tk n d)) (100800 :
  Int)).snd.snd = (secS bars l b n d b' n' d').snd.snd))) ∧ (decide (b < (↑bars.length : Int)) = false → (↑bars.length : Int) ≤ (9223372036854775807 : Int) → (decide (b' < (↑bars.length : Int)) = true → l.length ≤ (1000 : Nat) ∧ riseT l ∧
  (0 : Nat) < tmN l b' ∧ isTm (tmAt l b').fst (tmAt l b').snd = true ∧ dur n' d' = true ∧ tk n' d' ≤ (40320 : Int) ∧ ((1 : Int) = (1 : Int) ∨ (1 : Int) = (-1 : Int)) ∧ ((-1000000000000 : Int) ≤ sumT bars l x - sumT bars l b.toNat ∧ sumT
  bars l x - sumT bars l b.toNat ≤ (1000000000000 : Int)) ∧ (make (sumT bars l x - sumT bars l b.toNat + takeT l b' ((1 : Int) * tk n' d')) (100800 : Int)).fst = (secS bars l b n d b' n' d').fst ∧ (make (sumT bars l x - sumT bars l b.toNat
  + takeT l b' ((1 : Int) * tk n' d')) (100800 : Int)).snd.fst = (secS bars l b n d b' n' d').snd.fst ∧ (make (sumT bars l x - sumT bars l b.toNat + takeT l b' ((1 : Int) * tk n' d')) (100800 : Int)).snd.snd = (secS bars l b n d b' n'
  d').snd.snd) ∧ (decide (b' < (↑bars.length : Int)) = false → (make (sumT bars l x - sumT bars l b.toNat) (100800 : Int)).fst = (secS bars l b n d b' n' d').fst ∧ (make (sumT bars l x - sumT bars l b.toNat) (100800 : Int)).snd.fst = (secS
  bars l b n d b' n' d').snd.fst ∧ (make (sumT bars l x - sumT bars l b.toNat) (100800 : Int)).snd.snd = (secS bars l b n d b' n' d').snd.snd))))
def P_tPlayed (bars : List Bar) (l : List T3) (b : Int) (r e : List T3) (j t n : Int) (c : List T3) (x y : Int) : Prop :=
  ((!okTm bars l || (unfoldS (b, r, e, (j, t, n), c)).snd != (0 : Int)) = false → (↑bars.length : Int) ≤ (9223372036854775807 : Int)) → ((!okTm bars l || (unfoldS (b, r, e, (j, t, n), c)).snd != (0 : Int) || b != (↑bars.length : Int) ||
  decide (x < (0 : Int)) || decide (x > y)) = false → (↑(unfoldS (b, r, e, (j, t, n), c)).fst.length : Int) ≤ (9223372036854775807 : Int)) → ((!okTm bars l || (unfoldS (b, r, e, (j, t, n), c)).snd != (0 : Int) || b != (↑bars.length : Int)
  || decide (x < (0 : Int)) || decide (x > y) || decide (y > (↑(unfoldS (b, r, e, (j, t, n), c)).fst.length : Int))) = true → (0 : Int) = (playS bars l (b, r, e, (j, t, n), c) x y).fst ∧ (0 : Int) = (playS bars l (b, r, e, (j, t, n), c) x
  y).snd.fst ∧ (1 : Int) = (playS bars l (b, r, e, (j, t, n), c) x y).snd.snd) ∧ ((!okTm bars l || (unfoldS (b, r, e, (j, t, n), c)).snd != (0 : Int) || b != (↑bars.length : Int) || decide (x < (0 : Int)) || decide (x > y) || decide (y >
  (↑(unfoldS (b, r, e, (j, t, n), c)).fst.length : Int))) = false → (0 : Int) ≤ x ∧ x ≤ y ∧ y ≤ (↑(unfoldS (b, r, e, (j, t, n), c)).fst.length : Int) ∧ ((↑(List.drop x.toNat (List.take y.toNat (unfoldS (b, r, e, (j, t, n), c)).fst)).length
  : Int) ≤ (9223372036854775807 : Int) → (∃ (x_1 : Nat), x_1 ≤ (y - x).toNat ∧ (0 : Int) = (↑x_1 : Int) ∧ (0 : Int) = playN bars l (List.take x_1 (cutV (unfoldS (b, r, e, (j, t, n), c)).fst x y)) ∧ l = l) ∧ ∀ (x_1 : Nat), x_1 ≤ (y -
  x).toNat → (decide ((↑x_1 : Int) < (↑(List.drop x.toNat (List.take y.toNat (unfoldS (b, r, e, (j, t, n), c)).fst)).length : Int)) = true → (0 : Int) ≤ (↑x_1 : Int) ∧ (↑x_1 : Int) < (↑(List.drop x.toNat (List.take y.toNat (unfoldS (b, r,
  e, (j, t, n), c)).fst)).length : Int) ∧ (0 : Int) ≤ ((List.drop x.toNat (List.take y.toNat (unfoldS (b, r, e, (j, t, n), c)).fst)).getD (↑x_1 : Int).toNat T2T.d0).fst ∧ ((List.drop x.toNat (List.take y.toNat (unfoldS (b, r, e, (j, t, n),
  c)).fst)).getD (↑x_1 : Int).toNat T2T.d0).fst < (↑bars.length : Int) ∧ l.length ≤ (1000 : Nat) ∧ riseT l ∧ (0 : Nat) < tmN l ((List.drop x.toNat (List.take y.toNat (unfoldS (b, r, e, (j, t, n), c)).fst)).getD (↑x_1 : Int).toNat
  T2T.d0).fst ∧ isTm (tmAt l ((List.drop x.toNat (List.take y.toNat (unfoldS (b, r, e, (j, t, n), c)).fst)).getD (↑x_1 : Int).toNat T2T.d0).fst).fst (tmAt l ((List.drop x.toNat (List.take y.toNat (unfoldS (b, r, e, (j, t, n), c)).fst)).getD
  (↑x_1 : Int).toNat T2T.d0).fst).snd = true ∧ dur (bars.getD (Int.toNat ((List.drop x.toNat (List.take y.toNat (unfoldS (b, r, e, (j, t, n), c)).fst)).getD (↑x_1 : Int).toNat T2T.d0).fst) BT.d0).snd.fst.fst (bars.getD (Int.toNat
  ((List.drop x.toNat (List.take y.toNat (unfoldS (b, r, e, (j, t, n), c)).fst)).getD (↑x_1 : Int).toNat T2T.d0).fst) BT.d0).snd.fst.snd = true ∧ tk (bars.getD (Int.toNat ((List.drop x.toNat (List.take y.toNat (unfoldS (b, r, e, (j, t, n),
  c)).fst)).getD (↑x_1 : Int).toNat T2T.d0).fst) BT.d0).snd.fst.fst (bars.getD (Int.toNat ((List.drop x.toNat (List.take y.toNat (unfoldS (b, r, e, (j, t, n), c)).fst)).getD (↑x_1 : Int).toNat T2T.d0).fst) BT.d0).snd.fst.snd ≤ (40320 : Int)
  ∧ ((1 : Int) = (1 : Int) ∨ (1 : Int) = (-1 : Int)) ∧ ((-1000000000000 : Int) ≤ playN bars l (List.take x_1 (cutV (unfoldS (b, r, e, (j, t, n), c)).fst x y)) ∧ playN bars l (List.take x_1 (cutV (unfoldS (b, r, e, (j, t, n), c)).fst x y)) ≤
  (1000000000000 : Int)) ∧ InI64 ((↑x_1 : Int) + (1 : Int)) ∧ ∃ (x' : Nat), x' ≤ (y - x).toNat ∧ (y - x).toNat - x' < (y - x).toNat - x_1 ∧ (↑x_1 : Int) + (1 : Int) = (↑x' : Int) ∧ (↑(List.drop x.toNat (List.take y.toNat (unfoldS (b, r, e,
  (j, t, n), c)).fst)).length : Int) = (↑(List.drop x.toNat (List.take y.toNat (unfoldS (b, r, e, (j, t, n), c)).fst)).length : Int) ∧ List.drop x.toNat (List.take y.toNat (unfoldS (b, r, e, (j, t, n), c)).fst) = List.drop x.toNat
  (List.take y.toNat (unfoldS (b, r, e, (j, t, n), c)).fst) ∧ (!okTm bars l || (unfoldS (b, r, e, (j, t, n), c)).snd != (0 : Int) || b != (↑bars.length : Int) || decide (x < (0 : Int)) || decide (x > y) || decide (y > (↑(unfoldS (b, r, e,
  (j, t, n), c)).fst.length : Int))) = (!okTm bars l || (unfoldS (b, r, e, (j, t, n), c)).snd != (0 : Int) || b != (↑bars.length : Int) || decide (x < (0 : Int)) || decide (x > y) || decide (y > (↑(unfoldS (b, r, e, (j, t, n),
  c)).fst.length : Int))) ∧ (unfoldS (b, r, e, (j, t, n), c)).snd = (unfoldS (b, r, e, (j, t, n), c)).snd ∧ (unfoldS (b, r, e, (j, t, n), c)).fst = (unfoldS (b, r, e, (j, t, n), c)).fst ∧ (0 : Int) = (0 : Int) ∧ bars = bars ∧ l = l ∧ b = b
  ∧ r = r ∧ e = e ∧ j = j ∧ t = t ∧ n = n ∧ c = c ∧ x = x ∧ y = y ∧ playN bars l (List.take x_1 (cutV (unfoldS (b, r, e, (j, t, n), c)).fst x y)) + takeT l ((List.drop x.toNat (List.take y.toNat (unfoldS (b, r, e, (j, t, n), c)).fst)).getD
  (↑x_1 : Int).toNat T2T.d0).fst ((1 : Int) * tk (bars.getD (Int.toNat ((List.drop x.toNat (List.take y.toNat (unfoldS (b, r, e, (j, t, n), c)).fst)).getD (↑x_1 : Int).toNat T2T.d0).fst) BT.d0).snd.fst.fst (bars.getD (Int.toNat ((List.drop
  x.toNat (List.take y.toNat (unfoldS (b, r, e, (j, t, n), c)).fst)).getD (↑x_1 : Int).toNat T2T.d0).fst) BT.d0).snd.fst.snd) = playN bars l (List.take x' (cutV (unfoldS (b, r, e, (j, t, n), c)).fst x y)) ∧ l = l ∧ (0 : Int) = (0 : Int) ∧
  (0 : Int) = (0 : Int) ∧ b = b ∧ r = r ∧ e = e ∧ j = j ∧ t = t ∧ n = n ∧ c = c) ∧ (decide ((↑x_1 : Int) < (↑(List.drop x.toNat (List.take y.toNat (unfoldS (b, r, e, (j, t, n), c)).fst)).length : Int)) = false → (make (playN bars l
  (List.take x_1 (cutV (unfoldS (b, r, e, (j, t, n), c)).fst x y))) (100800 : Int)).fst = (playS bars l (b, r, e, (j, t, n), c) x y).fst ∧ (make (playN bars l (List.take x_1 (cutV (unfoldS (b, r, e, (j, t, n), c)).fst x y))) (100800 :
  Int)).snd.fst = (playS bars l (b, r, e, (j, t, n), c) x y).snd.fst ∧ (make (playN bars l (List.take x_1 (cutV (unfoldS (b, r, e, (j, t, n), c)).fst x y))) (100800 : Int)).snd.snd = (playS bars l (b, r, e, (j, t, n), c) x y).snd.snd)))
end Go.Proofs.Ytjghgdccaakfmaa
