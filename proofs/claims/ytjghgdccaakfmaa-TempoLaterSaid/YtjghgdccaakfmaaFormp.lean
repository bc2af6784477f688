/- What is to be shown of each function, in plain terms. Written by a program (wip/tools/gen.py). -/
import Derived.Test.YtjghgdccaakfmaaFormc
namespace Go.Proofs.Ytjghgdccaakfmaa
open Go.Sy Go.RatLaw
set_option linter.unusedVariables false

def P_wi1 (q1 q2 q3 x : Int) : Prop :=
  (decide (q1 < x) && decide (x < q2)) = inP x (q1, q2, q3) ∧ x = x
def P_ae1 (q1 q2 q3 x y z : Int) : Prop :=
  (decide (q1 ≤ x) && decide (y ≤ q2)) = coverP x y (q1, q2, q3) ∧ x = x ∧ y = y ∧ z = z
def P_ba1 (q1 q2 q3 x : Int) : Prop :=
  (q1 == x) = startP x (q1, q2, q3) ∧ x = x
def P_ie1 (q1 q2 q3 x y : Int) : Prop :=
  (decide (q1 ≤ x) && decide (x < q2) && q3 != y) = endHit x y (q1, q2, q3) ∧ x = x ∧ y = y
def P_un1 (q1 q2 q3 x y : Int) : Prop :=
  (decide (q1 ≤ x) && decide (x < q2) && (q3 == (0 : Int) || q3 == y)) = leavesB (x, y) (q1, q2, q3) ∧ x = x ∧ y = y
def P_ixR1 (l : List T3) (x : Int) : Prop :=
  (↑l.length : Int) ≤ (9223372036854775807 : Int) → (∃ (x_1 : Nat), (x_1 ≤ l.length ∧ ∀ (i : Nat), i < x_1 → inP x (l.getD i t30) = false) ∧ (0 : Int) = (↑x_1 : Int)) ∧ ∀ (x_1 : Nat), (x_1 ≤ l.length ∧ ∀ (i : Nat), i < x_1 → inP x (l.getD i
  t30) = false) → (decide ((↑x_1 : Int) < (↑l.length : Int)) = true → (0 : Int) ≤ (↑x_1 : Int) ∧ (↑x_1 : Int) < (↑l.length : Int) ∧ (inP x ((l.getD (↑x_1 : Int).toNat ((Ty.ti IntKind.i64).tp ((Ty.ti IntKind.i64).tp (Ty.ti
  IntKind.i64))).d0).fst, (l.getD (↑x_1 : Int).toNat ((Ty.ti IntKind.i64).tp ((Ty.ti IntKind.i64).tp (Ty.ti IntKind.i64))).d0).snd.fst, (l.getD (↑x_1 : Int).toNat ((Ty.ti IntKind.i64).tp ((Ty.ti IntKind.i64).tp (Ty.ti
  IntKind.i64))).d0).snd.snd) = true → (↑x_1 : Int) = gidx (inP x) l ∧ x = x) ∧ (inP x ((l.getD (↑x_1 : Int).toNat ((Ty.ti IntKind.i64).tp ((Ty.ti IntKind.i64).tp (Ty.ti IntKind.i64))).d0).fst, (l.getD (↑x_1 : Int).toNat ((Ty.ti
  IntKind.i64).tp ((Ty.ti IntKind.i64).tp (Ty.ti IntKind.i64))).d0).snd.fst, (l.getD (↑x_1 : Int).toNat ((Ty.ti IntKind.i64).tp ((Ty.ti IntKind.i64).tp (Ty.ti IntKind.i64))).d0).snd.snd) = false → InI64 ((↑x_1 : Int) + (1 : Int)) ∧ ∃ (x' :
  Nat), (x' ≤ l.length ∧ ∀ (i : Nat), i < x' → inP x (l.getD i t30) = false) ∧ l.length - x' < l.length - x_1 ∧ (↑x_1 : Int) + (1 : Int) = (↑x' : Int) ∧ (↑l.length : Int) = (↑l.length : Int) ∧ l = l ∧ coL (LV.clo (105 : FuncId) [] [((2000 :
  Nat), (0 : Nat))]) (LV.clo (105 : FuncId) [] [((2000 : Nat), (0 : Nat))]) = LV.clo (105 : FuncId) [] [((2000 : Nat), (0 : Nat))] ∧ x = x)) ∧ (decide ((↑x_1 : Int) < (↑l.length : Int)) = false → (-1 : Int) = gidx (inP x) l ∧ x = x)
def P_ixR2 (l : List T3) (x y z : Int) : Prop :=
  (↑l.length : Int) ≤ (9223372036854775807 : Int) → (∃ (x_1 : Nat), (x_1 ≤ l.length ∧ ∀ (i : Nat), i < x_1 → coverP x y (l.getD i t30) = false) ∧ (0 : Int) = (↑x_1 : Int)) ∧ ∀ (x_1 : Nat), (x_1 ≤ l.length ∧ ∀ (i : Nat), i < x_1 → coverP x y
  (l.getD i t30) = false) → (decide ((↑x_1 : Int) < (↑l.length : Int)) = true → (0 : Int) ≤ (↑x_1 : Int) ∧ (↑x_1 : Int) < (↑l.length : Int) ∧ (coverP x y ((l.getD (↑x_1 : Int).toNat ((Ty.ti IntKind.i64).tp ((Ty.ti IntKind.i64).tp (Ty.ti
  IntKind.i64))).d0).fst, (l.getD (↑x_1 : Int).toNat ((Ty.ti IntKind.i64).tp ((Ty.ti IntKind.i64).tp (Ty.ti IntKind.i64))).d0).snd.fst, (l.getD (↑x_1 : Int).toNat ((Ty.ti IntKind.i64).tp ((Ty.ti IntKind.i64).tp (Ty.ti
  IntKind.i64))).d0).snd.snd) = true → (↑x_1 : Int) = gidx (coverP x y) l ∧ x = x ∧ y = y ∧ z = z) ∧ (coverP x y ((l.getD (↑x_1 : Int).toNat ((Ty.ti IntKind.i64).tp ((Ty.ti IntKind.i64).tp (Ty.ti IntKind.i64))).d0).fst, (l.getD (↑x_1 :
  Int).toNat ((Ty.ti IntKind.i64).tp ((Ty.ti IntKind.i64).tp (Ty.ti IntKind.i64))).d0).snd.fst, (l.getD (↑x_1 : Int).toNat ((Ty.ti IntKind.i64).tp ((Ty.ti IntKind.i64).tp (Ty.ti IntKind.i64))).d0).snd.snd) = false → InI64 ((↑x_1 : Int) + (1
  : Int)) ∧ ∃ (x' : Nat), (x' ≤ l.length ∧ ∀ (i : Nat), i < x' → coverP x y (l.getD i t30) = false) ∧ l.length - x' < l.length - x_1 ∧ (↑x_1 : Int) + (1 : Int) = (↑x' : Int) ∧ (↑l.length : Int) = (↑l.length : Int) ∧ l = l ∧ coL (LV.clo (94
  : FuncId) [] [((2000 : Nat), (0 : Nat))]) (LV.clo (94 : FuncId) [] [((2000 : Nat), (0 : Nat))]) = LV.clo (94 : FuncId) [] [((2000 : Nat), (0 : Nat))] ∧ x = x ∧ y = y ∧ z = z)) ∧ (decide ((↑x_1 : Int) < (↑l.length : Int)) = false → (-1 :
  Int) = gidx (coverP x y) l ∧ x = x ∧ y = y ∧ z = z)
def P_ixR3 (l : List T3) (x : Int) : Prop :=
  (↑l.length : Int) ≤ (9223372036854775807 : Int) → (∃ (x_1 : Nat), (x_1 ≤ l.length ∧ ∀ (i : Nat), i < x_1 → startP x (l.getD i t30) = false) ∧ (0 : Int) = (↑x_1 : Int)) ∧ ∀ (x_1 : Nat), (x_1 ≤ l.length ∧ ∀ (i : Nat), i < x_1 → startP x
  (l.getD i t30) = false) → (decide ((↑x_1 : Int) < (↑l.length : Int)) = true → (0 : Int) ≤ (↑x_1 : Int) ∧ (↑x_1 : Int) < (↑l.length : Int) ∧ (startP x ((l.getD (↑x_1 : Int).toNat ((Ty.ti IntKind.i64).tp ((Ty.ti IntKind.i64).tp (Ty.ti
  IntKind.i64))).d0).fst, (l.getD (↑x_1 : Int).toNat ((Ty.ti IntKind.i64).tp ((Ty.ti IntKind.i64).tp (Ty.ti IntKind.i64))).d0).snd.fst, (l.getD (↑x_1 : Int).toNat ((Ty.ti IntKind.i64).tp ((Ty.ti IntKind.i64).tp (Ty.ti
  IntKind.i64))).d0).snd.snd) = true → (↑x_1 : Int) = gidx (startP x) l ∧ x = x) ∧ (startP x ((l.getD (↑x_1 : Int).toNat ((Ty.ti IntKind.i64).tp ((Ty.ti IntKind.i64).tp (Ty.ti IntKind.i64))).d0).fst, (l.getD (↑x_1 : Int).toNat ((Ty.ti
  IntKind.i64).tp ((Ty.ti IntKind.i64).tp (Ty.ti IntKind.i64))).d0).snd.fst, (l.getD (↑x_1 : Int).toNat ((Ty.ti IntKind.i64).tp ((Ty.ti IntKind.i64).tp (Ty.ti IntKind.i64))).d0).snd.snd) = false → InI64 ((↑x_1 : Int) + (1 : Int)) ∧ ∃ (x' :
  Nat), (x' ≤ l.length ∧ ∀ (i : Nat), i < x' → startP x (l.getD i t30) = false) ∧ l.length - x' < l.length - x_1 ∧ (↑x_1 : Int) + (1 : Int) = (↑x' : Int) ∧ (↑l.length : Int) = (↑l.length : Int) ∧ l = l ∧ coL (LV.clo (99 : FuncId) [] [((2000
  : Nat), (0 : Nat))]) (LV.clo (99 : FuncId) [] [((2000 : Nat), (0 : Nat))]) = LV.clo (99 : FuncId) [] [((2000 : Nat), (0 : Nat))] ∧ x = x)) ∧ (decide ((↑x_1 : Int) < (↑l.length : Int)) = false → (-1 : Int) = gidx (startP x) l ∧ x = x)
def P_cfR1 (l : List T3) (x : Int) : Prop :=
  decide (gidx (inP x) l ≥ (0 : Int)) = l.any (inP x) ∧ x = x
def P_cfR2 (l : List T3) (x y z : Int) : Prop :=
  decide (gidx (coverP x y) l ≥ (0 : Int)) = l.any (coverP x y) ∧ x = x ∧ y = y ∧ z = z
def P_ixE (l : List T3) (x y : Int) : Prop :=
  (↑l.length : Int) ≤ (9223372036854775807 : Int) → (∃ (x_1 : Nat), (x_1 ≤ l.length ∧ ∀ (i : Nat), i < x_1 → endHit x y (l.getD i t30) = false) ∧ (0 : Int) = (↑x_1 : Int)) ∧ ∀ (x_1 : Nat), (x_1 ≤ l.length ∧ ∀ (i : Nat), i < x_1 → endHit x y
  (l.getD i t30) = false) → (decide ((↑x_1 : Int) < (↑l.length : Int)) = true → (0 : Int) ≤ (↑x_1 : Int) ∧ (↑x_1 : Int) < (↑l.length : Int) ∧ (endHit x y ((l.getD (↑x_1 : Int).toNat ((Ty.ti IntKind.i64).tp ((Ty.ti IntKind.i64).tp (Ty.ti
  IntKind.i64))).d0).fst, (l.getD (↑x_1 : Int).toNat ((Ty.ti IntKind.i64).tp ((Ty.ti IntKind.i64).tp (Ty.ti IntKind.i64))).d0).snd.fst, (l.getD (↑x_1 : Int).toNat ((Ty.ti IntKind.i64).tp ((Ty.ti IntKind.i64).tp (Ty.ti
  IntKind.i64))).d0).snd.snd) = true → (↑x_1 : Int) = gidx (endHit x y) l ∧ x = x ∧ y = y) ∧ (endHit x y ((l.getD (↑x_1 : Int).toNat ((Ty.ti IntKind.i64).tp ((Ty.ti IntKind.i64).tp (Ty.ti IntKind.i64))).d0).fst, (l.getD (↑x_1 : Int).toNat
  ((Ty.ti IntKind.i64).tp ((Ty.ti IntKind.i64).tp (Ty.ti IntKind.i64))).d0).snd.fst, (l.getD (↑x_1 : Int).toNat ((Ty.ti IntKind.i64).tp ((Ty.ti IntKind.i64).tp (Ty.ti IntKind.i64))).d0).snd.snd) = false → InI64 ((↑x_1 : Int) + (1 : Int)) ∧
  ∃ (x' : Nat), (x' ≤ l.length ∧ ∀ (i : Nat), i < x' → endHit x y (l.getD i t30) = false) ∧ l.length - x' < l.length - x_1 ∧ (↑x_1 : Int) + (1 : Int) = (↑x' : Int) ∧ (↑l.length : Int) = (↑l.length : Int) ∧ l = l ∧ coL (LV.clo (107 : FuncId)
  [] [((2000 : Nat), (0 : Nat)), ((2001 : Nat), (0 : Nat))]) (LV.clo (107 : FuncId) [] [((2000 : Nat), (0 : Nat)), ((2001 : Nat), (0 : Nat))]) = LV.clo (107 : FuncId) [] [((2000 : Nat), (0 : Nat)), ((2001 : Nat), (0 : Nat))] ∧ x = x ∧ y =
  y)) ∧ (decide ((↑x_1 : Int) < (↑l.length : Int)) = false → (-1 : Int) = gidx (endHit x y) l ∧ x = x ∧ y = y)
def P_cfE (l : List T3) (x y : Int) : Prop :=
  decide (gidx (endHit x y) l ≥ (0 : Int)) = l.any (endHit x y) ∧ x = x ∧ y = y
def P_ixC (l : List T3) (x y : Int) : Prop :=
  (↑l.length : Int) ≤ (9223372036854775807 : Int) → (∃ (x_1 : Nat), (x_1 ≤ l.length ∧ ∀ (i : Nat), i < x_1 → leavesB (x, y) (l.getD i t30) = false) ∧ (0 : Int) = (↑x_1 : Int)) ∧ ∀ (x_1 : Nat), (x_1 ≤ l.length ∧ ∀ (i : Nat), i < x_1 →
  leavesB (x, y) (l.getD i t30) = false) → (decide ((↑x_1 : Int) < (↑l.length : Int)) = true → (0 : Int) ≤ (↑x_1 : Int) ∧ (↑x_1 : Int) < (↑l.length : Int) ∧ (leavesB (x, y) ((l.getD (↑x_1 : Int).toNat ((Ty.ti IntKind.i64).tp ((Ty.ti
  IntKind.i64).tp (Ty.ti IntKind.i64))).d0).fst, (l.getD (↑x_1 : Int).toNat ((Ty.ti IntKind.i64).tp ((Ty.ti IntKind.i64).tp (Ty.ti IntKind.i64))).d0).snd.fst, (l.getD (↑x_1 : Int).toNat ((Ty.ti IntKind.i64).tp ((Ty.ti IntKind.i64).tp (Ty.ti
  IntKind.i64))).d0).snd.snd) = true → (↑x_1 : Int) = gidx (leavesB (x, y)) l ∧ x = x ∧ y = y) ∧ (leavesB (x, y) ((l.getD (↑x_1 : Int).toNat ((Ty.ti IntKind.i64).tp ((Ty.ti IntKind.i64).tp (Ty.ti IntKind.i64))).d0).fst, (l.getD (↑x_1 :
  Int).toNat ((Ty.ti IntKind.i64).tp ((Ty.ti IntKind.i64).tp (Ty.ti IntKind.i64))).d0).snd.fst, (l.getD (↑x_1 : Int).toNat ((Ty.ti IntKind.i64).tp ((Ty.ti IntKind.i64).tp (Ty.ti IntKind.i64))).d0).snd.snd) = false → InI64 ((↑x_1 : Int) + (1
  : Int)) ∧ ∃ (x' : Nat), (x' ≤ l.length ∧ ∀ (i : Nat), i < x' → leavesB (x, y) (l.getD i t30) = false) ∧ l.length - x' < l.length - x_1 ∧ (↑x_1 : Int) + (1 : Int) = (↑x' : Int) ∧ (↑l.length : Int) = (↑l.length : Int) ∧ l = l ∧ coL (LV.clo
  (55 : FuncId) [] [((2000 : Nat), (0 : Nat))]) (LV.clo (55 : FuncId) [] [((2000 : Nat), (0 : Nat))]) = LV.clo (55 : FuncId) [] [((2000 : Nat), (0 : Nat))] ∧ x = x ∧ y = y)) ∧ (decide ((↑x_1 : Int) < (↑l.length : Int)) = false → (-1 : Int)
  = gidx (leavesB (x, y)) l ∧ x = x ∧ y = y)
def P_cfC (l : List T3) (x y : Int) : Prop :=
  decide (gidx (leavesB (x, y)) l ≥ (0 : Int)) = l.any (leavesB (x, y)) ∧ x = x ∧ y = y
def P_isWithin (b : Int) (r e : List T3) (j t n : Int) (c : List T3) (x : Int) : Prop :=
  r.any (inP x) = withinB r x
def P_areRepeats (b : Int) (r e : List T3) (j t n : Int) (c : List T3) : Prop :=
  (↑r.length : Int) ≤ (9223372036854775807 : Int) → (∃ (x : Nat), (x ≤ r.length ∧ repsFrom b (0 : Int) r = repsFrom b (lastT r x) (List.drop x r)) ∧ (0 : Int) = (↑x : Int) ∧ (0 : Int) = lastT r x) ∧ ∀ (x : Nat), x ≤ r.length ∧ repsFrom b (0
  : Int) r = repsFrom b (lastT r x) (List.drop x r) → (decide ((↑x : Int) < (↑r.length : Int)) = true → (0 : Int) ≤ (↑x : Int) ∧ (↑x : Int) < (↑r.length : Int) ∧ ((decide ((r.getD (↑x : Int).toNat T3T.d0).fst < lastT r x) || decide ((r.getD
  (↑x : Int).toNat T3T.d0).fst ≥ (r.getD (↑x : Int).toNat T3T.d0).snd.fst) || decide ((r.getD (↑x : Int).toNat T3T.d0).snd.fst > b) || decide ((r.getD (↑x : Int).toNat T3T.d0).snd.snd < (1 : Int)) || decide ((r.getD (↑x : Int).toNat
  T3T.d0).snd.snd > (9 : Int))) = true → false = repsB r b) ∧ ((decide ((r.getD (↑x : Int).toNat T3T.d0).fst < lastT r x) || decide ((r.getD (↑x : Int).toNat T3T.d0).fst ≥ (r.getD (↑x : Int).toNat T3T.d0).snd.fst) || decide ((r.getD (↑x :
  Int).toNat T3T.d0).snd.fst > b) || decide ((r.getD (↑x : Int).toNat T3T.d0).snd.snd < (1 : Int)) || decide ((r.getD (↑x : Int).toNat T3T.d0).snd.snd > (9 : Int))) = false → InI64 ((↑x : Int) + (1 : Int)) ∧ ∃ (x' : Nat), (x' ≤ r.length ∧
  repsFrom b (0 : Int) r = repsFrom b (lastT r x') (List.drop x' r)) ∧ r.length - x' < r.length - x ∧ (↑x : Int) + (1 : Int) = (↑x' : Int) ∧ (r.getD (↑x : Int).toNat T3T.d0).snd.fst = lastT r x' ∧ (↑r.length : Int) = (↑r.length : Int) ∧ r =
  r ∧ b = b ∧ r = r ∧ e = e ∧ j = j ∧ t = t ∧ n = n ∧ c = c ∧ b = b ∧ r = r ∧ e = e ∧ j = j ∧ t = t ∧ n = n ∧ c = c)) ∧ (decide ((↑x : Int) < (↑r.length : Int)) = false → (↑r.length : Int) ≤ (9223372036854775807 : Int) → decide ((↑r.length
  : Int) ≤ (100 : Int)) = repsB r b)
def P_areEndings (b : Int) (r e : List T3) (j t n : Int) (c : List T3) : Prop :=
  (↑e.length : Int) ≤ (9223372036854775807 : Int) → (∃ (x : Nat), (x ≤ e.length ∧ endsFrom r (0 : Int) e = endsFrom r (lastT e x) (List.drop x e)) ∧ (0 : Int) = (↑x : Int) ∧ (0 : Int) = lastT e x) ∧ ∀ (x : Nat), x ≤ e.length ∧ endsFrom r (0
  : Int) e = endsFrom r (lastT e x) (List.drop x e) → (decide ((↑x : Int) < (↑e.length : Int)) = true → (0 : Int) ≤ (↑x : Int) ∧ (↑x : Int) < (↑e.length : Int) ∧ ((decide ((e.getD (↑x : Int).toNat T3T.d0).fst < lastT e x) || decide ((e.getD
  (↑x : Int).toNat T3T.d0).fst ≥ (e.getD (↑x : Int).toNat T3T.d0).snd.fst) || !r.any (coverP (e.getD (↑x : Int).toNat T3T.d0).fst (e.getD (↑x : Int).toNat T3T.d0).snd.fst) || decide ((e.getD (↑x : Int).toNat T3T.d0).snd.snd < (1 : Int)) ||
  decide ((e.getD (↑x : Int).toNat T3T.d0).snd.snd > (9 : Int))) = true → false = endsB r e) ∧ ((decide ((e.getD (↑x : Int).toNat T3T.d0).fst < lastT e x) || decide ((e.getD (↑x : Int).toNat T3T.d0).fst ≥ (e.getD (↑x : Int).toNat
  T3T.d0).snd.fst) || !r.any (coverP (e.getD (↑x : Int).toNat T3T.d0).fst (e.getD (↑x : Int).toNat T3T.d0).snd.fst) || decide ((e.getD (↑x : Int).toNat T3T.d0).snd.snd < (1 : Int)) || decide ((e.getD (↑x : Int).toNat T3T.d0).snd.snd > (9 :
  Int))) = false → InI64 ((↑x : Int) + (1 : Int)) ∧ ∃ (x' : Nat), (x' ≤ e.length ∧ endsFrom r (0 : Int) e = endsFrom r (lastT e x') (List.drop x' e)) ∧ e.length - x' < e.length - x ∧ (↑x : Int) + (1 : Int) = (↑x' : Int) ∧ (e.getD (↑x :
  Int).toNat T3T.d0).snd.fst = lastT e x' ∧ (↑e.length : Int) = (↑e.length : Int) ∧ e = e ∧ b = b ∧ r = r ∧ e = e ∧ j = j ∧ t = t ∧ n = n ∧ c = c ∧ b = b ∧ r = r ∧ e = e ∧ j = j ∧ t = t ∧ n = n ∧ c = c)) ∧ (decide ((↑x : Int) < (↑e.length :
  Int)) = false → (↑e.length : Int) ≤ (9223372036854775807 : Int) → decide ((↑e.length : Int) ≤ (100 : Int)) = endsB r e)
def P_isJump (b : Int) (r e : List T3) (j t n : Int) (c : List T3) : Prop :=
  ((j == (0 : Int) && (t == (0 : Int) && n == (0 : Int))) = true → true = jumpB b r j t n) ∧ ((j == (0 : Int) && (t == (0 : Int) && n == (0 : Int))) = false → ((decide (j < (1 : Int)) || decide (j > b) || decide (t < (0 : Int)) || decide (t
  ≥ j) || decide (n ≤ t) || decide (n > b)) = true → false = jumpB b r j t n) ∧ ((decide (j < (1 : Int)) || decide (j > b) || decide (t < (0 : Int)) || decide (t ≥ j) || decide (n ≤ t) || decide (n > b)) = false → (!withinB r j && !withinB
  r t && !withinB r n) = jumpB b r j t n))
def P_isCut (b : Int) (r e : List T3) (j t n : Int) (c : List T3) (x y z : Int) : Prop :=
  (decide ((0 : Int) ≤ x) && decide (x < y) && decide (y ≤ b) && decide ((0 : Int) ≤ z) && decide (z ≤ (20 : Int))) = cutB b (x, y, z)
def P_areCuts (b : Int) (r e : List T3) (j t n : Int) (c : List T3) : Prop :=
  (↑c.length : Int) ≤ (9223372036854775807 : Int) → (∃ (x : Nat), (x ≤ c.length ∧ (List.take x c).all (cutB b) = true ∧ (List.take x c).Nodup) ∧ (0 : Int) = (↑x : Int) ∧ [] = seenC (List.take x c)) ∧ ∀ (x : Nat), x ≤ c.length ∧ (List.take x
  c).all (cutB b) = true ∧ (List.take x c).Nodup → (decide ((↑x : Int) < (↑c.length : Int)) = true → (0 : Int) ≤ (↑x : Int) ∧ (↑x : Int) < (↑c.length : Int) ∧ ((!cutB b ((c.getD (↑x : Int).toNat T3T.d0).fst, (c.getD (↑x : Int).toNat
  T3T.d0).snd.fst, (c.getD (↑x : Int).toNat T3T.d0).snd.snd) || (mget ((Ty.ti IntKind.i64).tp ((Ty.ti IntKind.i64).tp (Ty.ti IntKind.i64))).beq ((c.getD (↑x : Int).toNat T3T.d0).fst, (c.getD (↑x : Int).toNat T3T.d0).snd.fst, (c.getD (↑x :
  Int).toNat T3T.d0).snd.snd) (seenC (List.take x c))).getD Ty.tb.d0) = true → false = cutsB b c) ∧ ((!cutB b ((c.getD (↑x : Int).toNat T3T.d0).fst, (c.getD (↑x : Int).toNat T3T.d0).snd.fst, (c.getD (↑x : Int).toNat T3T.d0).snd.snd) ||
  (mget ((Ty.ti IntKind.i64).tp ((Ty.ti IntKind.i64).tp (Ty.ti IntKind.i64))).beq ((c.getD (↑x : Int).toNat T3T.d0).fst, (c.getD (↑x : Int).toNat T3T.d0).snd.fst, (c.getD (↑x : Int).toNat T3T.d0).snd.snd) (seenC (List.take x c))).getD
  Ty.tb.d0) = false → InI64 ((↑x : Int) + (1 : Int)) ∧ ∃ (x' : Nat), (x' ≤ c.length ∧ (List.take x' c).all (cutB b) = true ∧ (List.take x' c).Nodup) ∧ c.length - x' < c.length - x ∧ (↑x : Int) + (1 : Int) = (↑x' : Int) ∧ (↑c.length : Int) =
  (↑c.length : Int) ∧ c = c ∧ b = b ∧ r = r ∧ e = e ∧ j = j ∧ t = t ∧ n = n ∧ c = c ∧ mput ((Ty.ti IntKind.i64).tp ((Ty.ti IntKind.i64).tp (Ty.ti IntKind.i64))).beq ((c.getD (↑x : Int).toNat T3T.d0).fst, (c.getD (↑x : Int).toNat
  T3T.d0).snd.fst, (c.getD (↑x : Int).toNat T3T.d0).snd.snd) true (seenC (List.take x c)) = seenC (List.take x' c) ∧ b = b ∧ r = r ∧ e = e ∧ j = j ∧ t = t ∧ n = n ∧ c = c)) ∧ (decide ((↑x : Int) < (↑c.length : Int)) = false → (↑c.length :
  Int) ≤ (9223372036854775807 : Int) → decide ((↑c.length : Int) ≤ (100 : Int)) = cutsB b c)
def P_isEnding (b : Int) (r e : List T3) (j t n : Int) (c : List T3) (x y : Int) : Prop :=
  e.any (endHit x y) = e.any (endHit x y)
def P_bars1 (b : Int) (r e : List T3) (j t n : Int) (c : List T3) (x y : Int) (g : Bool) (go : Lp (Int × Unit)) : Prop :=
  (∃ (x_1 : Int × List Int), (x ≤ x_1.fst ∧ onG go (partS r e x y !g) x_1.snd (partS r e x_1.fst y !g)) ∧ [] = h1 x_1.snd ∧ go = go ∧ x = x_1.fst) ∧ ∀ (x_1 : Int × List Int), x ≤ x_1.fst ∧ onG go (partS r e x y !g) x_1.snd (partS r e
  x_1.fst y !g) → (decide (x_1.fst < y) = true → (decide (gidx (startP x_1.fst) r < (0 : Int)) = true → liveX go (h1 x_1.snd) (x_1.fst, ()) ∧ ((!go.1 (h1 x_1.snd ++ [(x_1.fst, ())])) = true → h1 x_1.snd ++ [(x_1.fst, ())] = gfed go.1 [] (h1
  (partS r e x y !g)) ∧ go = go ∧ x = x ∧ y = y ∧ b = b ∧ r = r ∧ e = e ∧ j = j ∧ t = t ∧ n = n ∧ c = c ∧ g = g) ∧ ((!go.1 (h1 x_1.snd ++ [(x_1.fst, ())])) = false → InI64 (x_1.fst + (1 : Int)) ∧ ∃ (x' : Int × List Int), (x ≤ x'.fst ∧ onG
  go (partS r e x y !g) x'.snd (partS r e x'.fst y !g)) ∧ (y - x'.fst).toNat < (y - x_1.fst).toNat ∧ h1 x_1.snd ++ [(x_1.fst, ())] = h1 x'.snd ∧ go = go ∧ x_1.fst + (1 : Int) = x'.fst ∧ x = x ∧ y = y ∧ b = b ∧ r = r ∧ e = e ∧ j = j ∧ t = t
  ∧ n = n ∧ c = c ∧ g = g)) ∧ (decide (gidx (startP x_1.fst) r < (0 : Int)) = false → (0 : Int) ≤ gidx (startP x_1.fst) r ∧ gidx (startP x_1.fst) r < (↑r.length : Int) ∧ (g = true → (∃ (x_2 : Int × List Int), ((firstP (r.getD (gidx (startP
  x_1.fst) r).toNat t30) !g) ≤ x_2.fst ∧ x_2.fst ≤ (r.getD (gidx (startP x_1.fst) r).toNat t30).snd.snd + (1 : Int) ∧ onG go (partS r e x y !g) x_2.snd (passesL e (r.getD (gidx (startP x_1.fst) r).toNat t30) x_2.fst ++ partS r e (r.getD
  (gidx (startP x_1.fst) r).toNat t30).snd.fst y !g)) ∧ (1 : Int) = x_2.fst ∧ h1 x_1.snd = h1 x_2.snd ∧ go = go) ∧ ∀ (x_2 : Int × List Int), (firstP (r.getD (gidx (startP x_1.fst) r).toNat t30) !g) ≤ x_2.fst ∧ x_2.fst ≤ (r.getD (gidx
  (startP x_1.fst) r).toNat t30).snd.snd + (1 : Int) ∧ onG go (partS r e x y !g) x_2.snd (passesL e (r.getD (gidx (startP x_1.fst) r).toNat t30) x_2.fst ++ partS r e (r.getD (gidx (startP x_1.fst) r).toNat t30).snd.fst y !g) → (decide
  (x_2.fst ≤ (r.getD (gidx (startP x_1.fst) r).toNat ((Ty.ti IntKind.i64).tp ((Ty.ti IntKind.i64).tp (Ty.ti IntKind.i64))).d0).snd.snd) = true → (∃ (x_3 : Int × List Int), ((r.getD (gidx (startP x_1.fst) r).toNat t30).fst ≤ x_3.fst ∧
  x_3.fst ≤ (r.getD (gidx (startP x_1.fst) r).toNat t30).snd.fst ∧ onG go (partS r e x y !g) x_3.snd (List.filter (fun (i : Int) => playedB e i x_2.fst) (intsF x_3.fst (r.getD (gidx (startP x_1.fst) r).toNat t30).snd.fst) ++ (passesL e
  (r.getD (gidx (startP x_1.fst) r).toNat t30) (x_2.fst + (1 : Int)) ++ partS r e (r.getD (gidx (startP x_1.fst) r).toNat t30).snd.fst y !g))) ∧ (r.getD (gidx (startP x_1.fst) r).toNat ((Ty.ti IntKind.i64).tp ((Ty.ti IntKind.i64).tp (Ty.ti
  IntKind.i64))).d0).fst = x_3.fst ∧ h1 x_2.snd = h1 x_3.snd ∧ go = go) ∧ ∀ (x_3 : Int × List Int), (r.getD (gidx (startP x_1.fst) r).toNat t30).fst ≤ x_3.fst ∧ x_3.fst ≤ (r.getD (gidx (startP x_1.fst) r).toNat t30).snd.fst ∧ onG go (partS
  r e x y !g) x_3.snd (List.filter (fun (i : Int) => playedB e i x_2.fst) (intsF x_3.fst (r.getD (gidx (startP x_1.fst) r).toNat t30).snd.fst) ++ (passesL e (r.getD (gidx (startP x_1.fst) r).toNat t30) (x_2.fst + (1 : Int)) ++ partS r e
  (r.getD (gidx (startP x_1.fst) r).toNat t30).snd.fst y !g)) → (decide (x_3.fst < (r.getD (gidx (startP x_1.fst) r).toNat ((Ty.ti IntKind.i64).tp ((Ty.ti IntKind.i64).tp (Ty.ti IntKind.i64))).d0).snd.fst) = true → ((!e.any (endHit x_3.fst
  x_2.fst)) = true → liveX go (h1 x_3.snd) (x_3.fst, ()) ∧ go = go) ∧ ((!e.any (endHit x_3.fst x_2.fst) && !go.1 (h1 x_3.snd ++ [(x_3.fst, ())])) = true → (bif (!e.any (endHit x_3.fst x_2.fst)) == true then h1 x_3.snd ++ [(x_3.fst, ())]
  else h1 x_3.snd) = gfed go.1 [] (h1 (partS r e x y !g)) ∧ go = go ∧ x = x ∧ y = y ∧ b = b ∧ r = r ∧ e = e ∧ j = j ∧ t = t ∧ n = n ∧ c = c ∧ g = g) ∧ ((!e.any (endHit x_3.fst x_2.fst) && !go.1 (h1 x_3.snd ++ [(x_3.fst, ())])) = false →
  InI64 (x_3.fst + (1 : Int)) ∧ ∃ (x' : Int × List Int), ((r.getD (gidx (startP x_1.fst) r).toNat t30).fst ≤ x'.fst ∧ x'.fst ≤ (r.getD (gidx (startP x_1.fst) r).toNat t30).snd.fst ∧ onG go (partS r e x y !g) x'.snd (List.filter (fun (i :
  Int) => playedB e i x_2.fst) (intsF x'.fst (r.getD (gidx (startP x_1.fst) r).toNat t30).snd.fst) ++ (passesL e (r.getD (gidx (startP x_1.fst) r).toNat t30) (x_2.fst + (1 : Int)) ++ partS r e (r.getD (gidx (startP x_1.fst) r).toNat
  t30).snd.fst y !g))) ∧ ((r.getD (gidx (startP x_1.fst) r).toNat t30).snd.fst - x'.fst).toNat < ((r.getD (gidx (startP x_1.fst) r).toNat t30).snd.fst - x_3.fst).toNat ∧ x_3.fst + (1 : Int) = x'.fst ∧ decide (x_2.fst ≤ (r.getD (gidx (startP
  x_1.fst) r).toNat ((Ty.ti IntKind.i64).tp ((Ty.ti IntKind.i64).tp (Ty.ti IntKind.i64))).d0).snd.snd) = decide (x_2.fst ≤ (r.getD (gidx (startP x_1.fst) r).toNat ((Ty.ti IntKind.i64).tp ((Ty.ti IntKind.i64).tp (Ty.ti
  IntKind.i64))).d0).snd.snd) ∧ x_2.fst = x_2.fst ∧ (1 : Int) = (1 : Int) ∧ g = g ∧ decide (gidx (startP x_1.fst) r < (0 : Int)) = decide (gidx (startP x_1.fst) r < (0 : Int)) ∧ gidx (startP x_1.fst) r = gidx (startP x_1.fst) r ∧ decide
  (x_1.fst < y) = decide (x_1.fst < y) ∧ (bif (!e.any (endHit x_3.fst x_2.fst)) == true then h1 x_3.snd ++ [(x_3.fst, ())] else h1 x_3.snd) = h1 x'.snd ∧ go = go ∧ (r.getD (gidx (startP x_1.fst) r).toNat ((Ty.ti IntKind.i64).tp ((Ty.ti
  IntKind.i64).tp (Ty.ti IntKind.i64))).d0).fst = (r.getD (gidx (startP x_1.fst) r).toNat ((Ty.ti IntKind.i64).tp ((Ty.ti IntKind.i64).tp (Ty.ti IntKind.i64))).d0).fst ∧ (r.getD (gidx (startP x_1.fst) r).toNat ((Ty.ti IntKind.i64).tp
  ((Ty.ti IntKind.i64).tp (Ty.ti IntKind.i64))).d0).snd.fst = (r.getD (gidx (startP x_1.fst) r).toNat ((Ty.ti IntKind.i64).tp ((Ty.ti IntKind.i64).tp (Ty.ti IntKind.i64))).d0).snd.fst ∧ (r.getD (gidx (startP x_1.fst) r).toNat ((Ty.ti
  IntKind.i64).tp ((Ty.ti IntKind.i64).tp (Ty.ti IntKind.i64))).d0).snd.snd = (r.getD (gidx (startP x_1.fst) r).toNat ((Ty.ti IntKind.i64).tp ((Ty.ti IntKind.i64).tp (Ty.ti IntKind.i64))).d0).snd.snd ∧ x_1.fst = x_1.fst ∧ x = x ∧ y = y ∧ b
  = b ∧ r = r ∧ e = e ∧ j = j ∧ t = t ∧ n = n ∧ c = c ∧ g = g)) ∧ (decide (x_3.fst < (r.getD (gidx (startP x_1.fst) r).toNat ((Ty.ti IntKind.i64).tp ((Ty.ti IntKind.i64).tp (Ty.ti IntKind.i64))).d0).snd.fst) = false → InI64 (x_2.fst + (1 :
  Int)) ∧ ∃ (x' : Int × List Int), ((firstP (r.getD (gidx (startP x_1.fst) r).toNat t30) !g) ≤ x'.fst ∧ x'.fst ≤ (r.getD (gidx (startP x_1.fst) r).toNat t30).snd.snd + (1 : Int) ∧ onG go (partS r e x y !g) x'.snd (passesL e (r.getD (gidx
  (startP x_1.fst) r).toNat t30) x'.fst ++ partS r e (r.getD (gidx (startP x_1.fst) r).toNat t30).snd.fst y !g)) ∧ ((r.getD (gidx (startP x_1.fst) r).toNat t30).snd.snd + (1 : Int) - x'.fst).toNat < ((r.getD (gidx (startP x_1.fst) r).toNat
  t30).snd.snd + (1 : Int) - x_2.fst).toNat ∧ x_2.fst + (1 : Int) = x'.fst ∧ (1 : Int) = (1 : Int) ∧ g = g ∧ decide (gidx (startP x_1.fst) r < (0 : Int)) = decide (gidx (startP x_1.fst) r < (0 : Int)) ∧ gidx (startP x_1.fst) r = gidx
  (startP x_1.fst) r ∧ decide (x_1.fst < y) = decide (x_1.fst < y) ∧ h1 x_3.snd = h1 x'.snd ∧ go = go ∧ (r.getD (gidx (startP x_1.fst) r).toNat ((Ty.ti IntKind.i64).tp ((Ty.ti IntKind.i64).tp (Ty.ti IntKind.i64))).d0).fst = (r.getD (gidx
  (startP x_1.fst) r).toNat ((Ty.ti IntKind.i64).tp ((Ty.ti IntKind.i64).tp (Ty.ti IntKind.i64))).d0).fst ∧ (r.getD (gidx (startP x_1.fst) r).toNat ((Ty.ti IntKind.i64).tp ((Ty.ti IntKind.i64).tp (Ty.ti IntKind.i64))).d0).snd.fst = (r.getD
  (gidx (startP x_1.fst) r).toNat ((Ty.ti IntKind.i64).tp ((Ty.ti IntKind.i64).tp (Ty.ti IntKind.i64))).d0).snd.fst ∧ (r.getD (gidx (startP x_1.fst) r).toNat ((Ty.ti IntKind.i64).tp ((Ty.ti IntKind.i64).tp (Ty.ti IntKind.i64))).d0).snd.snd
  = (r.getD (gidx (startP x_1.fst) r).toNat ((Ty.ti IntKind.i64).tp ((Ty.ti IntKind.i64).tp (Ty.ti IntKind.i64))).d0).snd.snd ∧ x_1.fst = x_1.fst ∧ x = x ∧ y = y ∧ b = b ∧ r = r ∧ e = e ∧ j = j ∧ t = t ∧ n = n ∧ c = c ∧ g = g)) ∧ (decide
  (x_2.fst ≤ (r.getD (gidx (startP x_1.fst) r).toNat ((Ty.ti IntKind.i64).tp ((Ty.ti IntKind.i64).tp (Ty.ti IntKind.i64))).d0).snd.snd) = false → InI64 ((r.getD (gidx (startP x_1.fst) r).toNat ((Ty.ti IntKind.i64).tp ((Ty.ti IntKind.i64).tp
  (Ty.ti IntKind.i64))).d0).snd.fst - (1 : Int)) ∧ InI64 ((r.getD (gidx (startP x_1.fst) r).toNat ((Ty.ti IntKind.i64).tp ((Ty.ti IntKind.i64).tp (Ty.ti IntKind.i64))).d0).snd.fst - (1 : Int) + (1 : Int)) ∧ ∃ (x' : Int × List Int), (x ≤
  x'.fst ∧ onG go (partS r e x y !g) x'.snd (partS r e x'.fst y !g)) ∧ (y - x'.fst).toNat < (y - x_1.fst).toNat ∧ h1 x_2.snd = h1 x'.snd ∧ go = go ∧ (r.getD (gidx (startP x_1.fst) r).toNat ((Ty.ti IntKind.i64).tp ((Ty.ti IntKind.i64).tp
  (Ty.ti IntKind.i64))).d0).snd.fst - (1 : Int) + (1 : Int) = x'.fst ∧ x = x ∧ y = y ∧ b = b ∧ r = r ∧ e = e ∧ j = j ∧ t = t ∧ n = n ∧ c = c ∧ g = g)) ∧ (g = false → (∃ (x_2 : Int × List Int), ((firstP (r.getD (gidx (startP x_1.fst)
  r).toNat t30) !g) ≤ x_2.fst ∧ x_2.fst ≤ (r.getD (gidx (startP x_1.fst) r).toNat t30).snd.snd + (1 : Int) ∧ onG go (partS r e x y !g) x_2.snd (passesL e (r.getD (gidx (startP x_1.fst) r).toNat t30) x_2.fst ++ partS r e (r.getD (gidx
  (startP x_1.fst) r).toNat t30).snd.fst y !g)) ∧ (r.getD (gidx (startP x_1.fst) r).toNat ((Ty.ti IntKind.i64).tp ((Ty.ti IntKind.i64).tp (Ty.ti IntKind.i64))).d0).snd.snd = x_2.fst ∧ h1 x_1.snd = h1 x_2.snd ∧ go = go) ∧ ∀ (x_2 : Int × List
  Int), (firstP (r.getD (gidx (startP x_1.fst) r).toNat t30) !g) ≤ x_2.fst ∧ x_2.fst ≤ (r.getD (gidx (startP x_1.fst) r).toNat t30).snd.snd + (1 : Int) ∧ onG go (partS r e x y !g) x_2.snd (passesL e (r.getD (gidx (startP x_1.fst) r).toNat
  t30) x_2.fst ++ partS r e (r.getD (gidx (startP x_1.fst) r).toNat t30).snd.fst y !g) → (decide (x_2.fst ≤ (r.getD (gidx (startP x_1.fst) r).toNat ((Ty.ti IntKind.i64).tp ((Ty.ti IntKind.i64).tp (Ty.ti IntKind.i64))).d0).snd.snd) = true →
  (∃ (x_3 : Int × List Int), ((r.getD (gidx (startP x_1.fst) r).toNat t30).fst ≤ x_3.fst ∧ x_3.fst ≤ (r.getD (gidx (startP x_1.fst) r).toNat t30).snd.fst ∧ onG go (partS r e x y !g) x_3.snd (List.filter (fun (i : Int) => playedB e i
  x_2.fst) (intsF x_3.fst (r.getD (gidx (startP x_1.fst) r).toNat t30).snd.fst) ++ (passesL e (r.getD (gidx (startP x_1.fst) r).toNat t30) (x_2.fst + (1 : Int)) ++ partS r e (r.getD (gidx (startP x_1.fst) r).toNat t30).snd.fst y !g))) ∧
  (r.getD (gidx (startP x_1.fst) r).toNat ((Ty.ti IntKind.i64).tp ((Ty.ti IntKind.i64).tp (Ty.ti IntKind.i64))).d0).fst = x_3.fst ∧ h1 x_2.snd = h1 x_3.snd ∧ go = go) ∧ ∀ (x_3 : Int × List Int), (r.getD (gidx (startP x_1.fst) r).toNat
  t30).fst ≤ x_3.fst ∧ x_3.fst ≤ (r.getD (gidx (startP x_1.fst) r).toNat t30).snd.fst ∧ onG go (partS r e x y !g) x_3.snd (List.filter (fun (i : Int) => playedB e i x_2.fst) (intsF x_3.fst (r.getD (gidx (startP x_1.fst) r).toNat
  t30).snd.fst) ++ (passesL e (r.getD (gidx (startP x_1.fst) r).toNat t30) (x_2.fst + (1 : Int)) ++ partS r e (r.getD (gidx (startP x_1.fst) r).toNat t30).snd.fst y !g)) → (decide (x_3.fst < (r.getD (gidx (startP x_1.fst) r).toNat ((Ty.ti
  IntKind.i64).tp ((Ty.ti IntKind.i64).tp (Ty.ti IntKind.i64))).d0).snd.fst) = true → ((!e.any (endHit x_3.fst x_2.fst)) = true → liveX go (h1 x_3.snd) (x_3.fst, ()) ∧ go = go) ∧ ((!e.any (endHit x_3.fst x_2.fst) && !go.1 (h1 x_3.snd ++
  [(x_3.fst, ())])) = true → (bif (!e.any (endHit x_3.fst x_2.fst)) == true then h1 x_3.snd ++ [(x_3.fst, ())] else h1 x_3.snd) = gfed go.1 [] (h1 (partS r e x y !g)) ∧ go = go ∧ x = x ∧ y = y ∧ b = b ∧ r = r ∧ e = e ∧ j = j ∧ t = t ∧ n = n
  ∧ c = c ∧ g = g) ∧ ((!e.any (endHit x_3.fst x_2.fst) && !go.1 (h1 x_3.snd ++ [(x_3.fst, ())])) = false → InI64 (x_3.fst + (1 : Int)) ∧ ∃ (x' : Int × List Int), ((r.getD (gidx (startP x_1.fst) r).toNat t30).fst ≤ x'.fst ∧ x'.fst ≤ (r.getD
  (gidx (startP x_1.fst) r).toNat t30).snd.fst ∧ onG go (partS r e x y !g) x'.snd (List.filter (fun (i : Int) => playedB e i x_2.fst) (intsF x'.fst (r.getD (gidx (startP x_1.fst) r).toNat t30).snd.fst) ++ (passesL e (r.getD (gidx (startP
  x_1.fst) r).toNat t30) (x_2.fst + (1 : Int)) ++ partS r e (r.getD (gidx (startP x_1.fst) r).toNat t30).snd.fst y !g))) ∧ ((r.getD (gidx (startP x_1.fst) r).toNat t30).snd.fst - x'.fst).toNat < ((r.getD (gidx (startP x_1.fst) r).toNat
  t30).snd.fst - x_3.fst).toNat ∧ x_3.fst + (1 : Int) = x'.fst ∧ decide (x_2.fst ≤ (r.getD (gidx (startP x_1.fst) r).toNat ((Ty.ti IntKind.i64).tp ((Ty.ti IntKind.i64).tp (Ty.ti IntKind.i64))).d0).snd.snd) = decide (x_2.fst ≤ (r.getD (gidx
  (startP x_1.fst) r).toNat ((Ty.ti IntKind.i64).tp ((Ty.ti IntKind.i64).tp (Ty.ti IntKind.i64))).d0).snd.snd) ∧ x_2.fst = x_2.fst ∧ g = g ∧ (r.getD (gidx (startP x_1.fst) r).toNat ((Ty.ti IntKind.i64).tp ((Ty.ti IntKind.i64).tp (Ty.ti
  IntKind.i64))).d0).snd.snd = (r.getD (gidx (startP x_1.fst) r).toNat ((Ty.ti IntKind.i64).tp ((Ty.ti IntKind.i64).tp (Ty.ti IntKind.i64))).d0).snd.snd ∧ decide (gidx (startP x_1.fst) r < (0 : Int)) = decide (gidx (startP x_1.fst) r < (0 :
  Int)) ∧ gidx (startP x_1.fst) r = gidx (startP x_1.fst) r ∧ decide (x_1.fst < y) = decide (x_1.fst < y) ∧ (bif (!e.any (endHit x_3.fst x_2.fst)) == true then h1 x_3.snd ++ [(x_3.fst, ())] else h1 x_3.snd) = h1 x'.snd ∧ go = go ∧ (r.getD
  (gidx (startP x_1.fst) r).toNat ((Ty.ti IntKind.i64).tp ((Ty.ti IntKind.i64).tp (Ty.ti IntKind.i64))).d0).fst = (r.getD (gidx (startP x_1.fst) r).toNat ((Ty.ti IntKind.i64).tp ((Ty.ti IntKind.i64).tp (Ty.ti IntKind.i64))).d0).fst ∧
  (r.getD (gidx (startP x_1.fst) r).toNat ((Ty.ti IntKind.i64).tp ((Ty.ti IntKind.i64).tp (Ty.ti IntKind.i64))).d0).snd.fst = (r.getD (gidx (startP x_1.fst) r).toNat ((Ty.ti IntKind.i64).tp ((Ty.ti IntKind.i64).tp (Ty.ti
  IntKind.i64))).d0).snd.fst ∧ (r.getD (gidx (startP x_1.fst) r).toNat ((Ty.ti IntKind.i64).tp ((Ty.ti IntKind.i64).tp (Ty.ti IntKind.i64))).d0).snd.snd = (r.getD (gidx (startP x_1.fst) r).toNat ((Ty.ti IntKind.i64).tp ((Ty.ti
  IntKind.i64).tp (Ty.ti IntKind.i64))).d0).snd.snd ∧ x_1.fst = x_1.fst ∧ x = x ∧ y = y ∧ b = b ∧ r = r ∧ e = e ∧ j = j ∧ t = t ∧ n = n ∧ c = c ∧ g = g)) ∧ (decide (x_3.fst < (r.getD (gidx (startP x_1.fst) r).toNat ((Ty.ti IntKind.i64).tp
  ((Ty.ti IntKind.i64).tp (Ty.ti IntKind.i64))).d0).snd.fst) = false → InI64 (x_2.fst + (1 : Int)) ∧ ∃ (x' : Int × List Int), ((firstP (r.getD (gidx (startP x_1.fst) r).toNat t30) !g) ≤ x'.fst ∧ x'.fst ≤ (r.getD (gidx (startP x_1.fst)
  r).toNat t30).snd.snd + (1 : Int) ∧ onG go (partS r e x y !g) x'.snd (passesL e (r.getD (gidx (startP x_1.fst) r).toNat t30) x'.fst ++ partS r e (r.getD (gidx (startP x_1.fst) r).toNat t30).snd.fst y !g)) ∧ ((r.getD (gidx (startP x_1.fst)
  r).toNat t30).snd.snd + (1 : Int) - x'.fst).toNat < ((r.getD (gidx (startP x_1.fst) r).toNat t30).snd.snd + (1 : Int) - x_2.fst).toNat ∧ x_2.fst + (1 : Int) = x'.fst ∧ g = g ∧ (r.getD (gidx (startP x_1.fst) r).toNat ((Ty.ti
  IntKind.i64).tp ((Ty.ti IntKind.i64).tp (Ty.ti IntKind.i64))).d0).snd.snd = (r.getD (gidx (startP x_1.fst) r).toNat ((Ty.ti IntKind.i64).tp ((Ty.ti IntKind.i64).tp (Ty.ti IntKind.i64))).d0).snd.snd ∧ decide (gidx (startP x_1.fst) r < (0 :
  Int)) = decide (gidx (startP x_1.fst) r < (0 : Int)) ∧ gidx (startP x_1.fst) r = gidx (startP x_1.fst) r ∧ decide (x_1.fst < y) = decide (x_1.fst < y) ∧ h1 x_3.snd = h1 x'.snd ∧ go = go ∧ (r.getD (gidx (startP x_1.fst) r).toNat ((Ty.ti
  IntKind.i64).tp ((Ty.ti IntKind.i64).tp (Ty.ti IntKind.i64))).d0).fst = (r.getD (gidx (startP x_1.fst) r).toNat ((Ty.ti IntKind.i64).tp ((Ty.ti IntKind.i64).tp (Ty.ti IntKind.i64))).d0).fst ∧ (r.getD (gidx (startP x_1.fst) r).toNat
  ((Ty.ti IntKind.i64).tp ((Ty.ti IntKind.i64).tp (Ty.ti IntKind.i64))).d0).snd.fst = (r.getD (gidx (startP x_1.fst) r).toNat ((Ty.ti IntKind.i64).tp ((Ty.ti IntKind.i64).tp (Ty.ti IntKind.i64))).d0).snd.fst ∧ (r.getD (gidx (startP x_1.fst)
  r).toNat ((Ty.ti IntKind.i64).tp ((Ty.ti IntKind.i64).tp (Ty.ti IntKind.i64))).d0).snd.snd = (r.getD (gidx (startP x_1.fst) r).toNat ((Ty.ti IntKind.i64).tp ((Ty.ti IntKind.i64).tp (Ty.ti IntKind.i64))).d0).snd.snd ∧ x_1.fst = x_1.fst ∧ x
  = x ∧ y = y ∧ b = b ∧ r = r ∧ e = e ∧ j = j ∧ t = t ∧ n = n ∧ c = c ∧ g = g)) ∧ (decide (x_2.fst ≤ (r.getD (gidx (startP x_1.fst) r).toNat ((Ty.ti IntKind.i64).tp ((Ty.ti IntKind.i64).tp (Ty.ti IntKind.i64))).d0).snd.snd) = false → InI64
  ((r.getD (gidx (startP x_1.fst) r).toNat ((Ty.ti IntKind.i64).tp ((Ty.ti IntKind.i64).tp (Ty.ti IntKind.i64))).d0).snd.fst - (1 : Int)) ∧ InI64 ((r.getD (gidx (startP x_1.fst) r).toNat ((Ty.ti IntKind.i64).tp ((Ty.ti IntKind.i64).tp
  (Ty.ti IntKind.i64))).d0).snd.fst - (1 : Int) + (1 : Int)) ∧ ∃ (x' : Int × List Int), (x ≤ x'.fst ∧ onG go (partS r e x y !g) x'.snd (partS r e x'.fst y !g)) ∧ (y - x'.fst).toNat < (y - x_1.fst).toNat ∧ h1 x_2.snd = h1 x'.snd ∧ go = go ∧
  (r.getD (gidx (startP x_1.fst) r).toNat ((Ty.ti IntKind.i64).tp ((Ty.ti IntKind.i64).tp (Ty.ti IntKind.i64))).d0).snd.fst - (1 : Int) + (1 : Int) = x'.fst ∧ x = x ∧ y = y ∧ b = b ∧ r = r ∧ e = e ∧ j = j ∧ t = t ∧ n = n ∧ c = c ∧ g = g))))
  ∧ (decide (x_1.fst < y) = false → h1 x_1.snd = gfed go.1 [] (h1 (partS r e x y !g)) ∧ go = go ∧ x = x ∧ y = y ∧ b = b ∧ r = r ∧ e = e ∧ j = j ∧ t = t ∧ n = n ∧ c = c ∧ g = g)
def P_bars (b : Int) (r e : List T3) (j t n : Int) (c : List T3) (x y : Int) (g : Bool) : Prop :=
  coL (LV.clo (97 : FuncId) [] [((5 : Nat), (0 : Nat)), ((6 : Nat), (0 : Nat)), ((4 : Nat), (0 : Nat)), ((7 : Nat), (0 : Nat))]) (LV.clo (97 : Nat) [] [((5 : Nat), (0 : Nat)), ((6 : Nat), (0 : Nat)), ((4 : Nat), (0 : Nat)), ((7 : Nat), (0 :
  Nat))]) = LV.clo (97 : FuncId) [] [((5 : Nat), (0 : Nat)), ((6 : Nat), (0 : Nat)), ((4 : Nat), (0 : Nat)), ((7 : Nat), (0 : Nat))] ∧ b = b ∧ r = r ∧ e = e ∧ j = j ∧ t = t ∧ n = n ∧ c = c ∧ x = x ∧ y = y ∧ g = g
def P_vis1 (x : Int) (l : List (Int × Int)) (hist : List (Vi × Unit)) (go : Lp (Vi × Unit)) : Prop :=
  InI64 ((mget (Ty.ti IntKind.i64).beq x l).getD (Ty.ti IntKind.i64).d0 + (1 : Int)) ∧ liveX go hist ((x, (mget (Ty.ti IntKind.i64).beq x (mput (Ty.ti IntKind.i64).beq x ((mget (Ty.ti IntKind.i64).beq x l).getD (Ty.ti IntKind.i64).d0 + (1 :
  Int)) l)).getD (Ty.ti IntKind.i64).d0), ()) ∧ go.1 (hist ++ [((x, (mget (Ty.ti IntKind.i64).beq x (mput (Ty.ti IntKind.i64).beq x ((mget (Ty.ti IntKind.i64).beq x l).getD (Ty.ti IntKind.i64).d0 + (1 : Int)) l)).getD (Ty.ti
  IntKind.i64).d0), ())]) = go.1 (snocV hist ((x, (mgetI x l).getD (0 : Int) + (1 : Int)), ())) ∧ mput (Ty.ti IntKind.i64).beq x ((mget (Ty.ti IntKind.i64).beq x l).getD (Ty.ti IntKind.i64).d0 + (1 : Int)) l = bump l x ∧ hist ++ [((x, (mget
  (Ty.ti IntKind.i64).beq x (mput (Ty.ti IntKind.i64).beq x ((mget (Ty.ti IntKind.i64).beq x l).getD (Ty.ti IntKind.i64).d0 + (1 : Int)) l)).getD (Ty.ti IntKind.i64).d0), ())] = snocV hist ((x, (mgetI x l).getD (0 : Int) + (1 : Int)), ()) ∧
  go = go
def P_vis (b : Int) (r e : List T3) (j t n : Int) (c : List T3) (go : Lp (Vi × Unit)) : Prop :=
  ((j == (0 : Int)) = true → okParts b r (0 : Int) b ∧ (∀ (k : Nat), go.2 (h1 (visS ([] ++ unI (List.take k (h1 (partS r e (0 : Int) b !true)))))) ∧ ([] ++ unI (List.take k (h1 (partS r e (0 : Int) b !true)))).length ≤ (partS r e (0 : Int)
  (untilJ b j) false).length) ∧ goV go [] (partS r e (0 : Int) (untilJ b j) false).length = goV go [] (partS r e (0 : Int) (untilJ b j) false).length ∧ True ∧ ([] = cntM (unI []) ∧ [] = h1 (visS (unI [])) ∧ go = go) ∧ (∀ (hist : List (Int ×
  PUnit)), True → ∀ (x : Int × PUnit), liveX (goV go [] (partS r e (0 : Int) (untilJ b j) false).length) hist x → InI64 ((mgetI x.fst (cntM (unI hist))).getD (0 : Int) + (1 : Int)) ∧ liveX go (h1 (visS (unI hist))) ((x.fst, (mgetI x.fst
  (cntM (unI hist))).getD (0 : Int) + (1 : Int)), ()) ∧ ((!go.1 (snocV (h1 (visS (unI hist))) ((x.fst, (mgetI x.fst (cntM (unI hist))).getD (0 : Int) + (1 : Int)), ()))) = true → (fun (α : Type) (self : Lp α) => self.1) (Vi × Unit) go (h1
  (visS ([] ++ unI (hist ++ [x])))) = false ∧ True ∧ True ∧ bump (cntM (unI hist)) x.fst = cntM (unI (hist ++ [x])) ∧ snocV (h1 (visS (unI hist))) ((x.fst, (mgetI x.fst (cntM (unI hist))).getD (0 : Int) + (1 : Int)), ()) = h1 (visS (unI
  (hist ++ [x]))) ∧ go = go ∧ j = j ∧ t = t ∧ n = n ∧ LV.clo (80 : Nat) [] [((3 : Nat), (0 : Nat)), ((2 : Nat), (0 : Nat))] = LV.clo (80 : Nat) [] [((3 : Nat), (0 : Nat)), ((2 : Nat), (0 : Nat))] ∧ b = b ∧ r = r ∧ e = e ∧ j = j ∧ t = t ∧ n
  = n ∧ c = c) ∧ ((!go.1 (snocV (h1 (visS (unI hist))) ((x.fst, (mgetI x.fst (cntM (unI hist))).getD (0 : Int) + (1 : Int)), ()))) = false → (fun (α : Type) (self : Lp α) => self.1) (Vi × Unit) go (h1 (visS ([] ++ unI (hist ++ [x])))) =
  true ∧ True ∧ bump (cntM (unI hist)) x.fst = cntM (unI (hist ++ [x])) ∧ snocV (h1 (visS (unI hist))) ((x.fst, (mgetI x.fst (cntM (unI hist))).getD (0 : Int) + (1 : Int)), ()) = h1 (visS (unI (hist ++ [x]))) ∧ go = go ∧ j = j ∧ t = t ∧ n =
  n ∧ LV.clo (80 : Nat) [] [((3 : Nat), (0 : Nat)), ((2 : Nat), (0 : Nat))] = LV.clo (80 : Nat) [] [((3 : Nat), (0 : Nat)), ((2 : Nat), (0 : Nat))] ∧ b = b ∧ r = r ∧ e = e ∧ j = j ∧ t = t ∧ n = n ∧ c = c)) ∧ (True → (live (goV go [] (partS
  r e (0 : Int) (untilJ b j) false).length) (gfed (fun (hist : List (Int × Unit)) => go.1 (h1 (visS ([] ++ unI hist)))) [] (h1 (partS r e (0 : Int) b !true))) → okParts b r t n ∧ (∀ (k : Nat), go.2 (h1 (visS (partS r e (0 : Int) (untilJ b
  j) false ++ unI (List.take k (h1 (partS r e t n !false)))))) ∧ (partS r e (0 : Int) (untilJ b j) false ++ unI (List.take k (h1 (partS r e t n !false)))).length ≤ (wholeF (b, r, e, (j, t, n), c)).length) ∧ goV go (partS r e (0 : Int)
  (untilJ b j) false) (wholeF (b, r, e, (j, t, n), c)).length = goV go (partS r e (0 : Int) (untilJ b j) false) (wholeF (b, r, e, (j, t, n), c)).length ∧ live go (h1 (visS (partS r e (0 : Int) (untilJ b j) false))) ∧ (cntM (unI (gfed (fun
  (hist : List (Int × Unit)) => go.1 (h1 (visS ([] ++ unI hist)))) [] (h1 (partS r e (0 : Int) b !true)))) = cntM (partS r e (0 : Int) (untilJ b j) false ++ unI []) ∧ h1 (visS (unI (gfed (fun (hist : List (Int × Unit)) => go.1 (h1 (visS ([]
  ++ unI hist)))) [] (h1 (partS r e (0 : Int) b !true))))) = h1 (visS (partS r e (0 : Int) (untilJ b j) false ++ unI [])) ∧ go = go) ∧ (∀ (hist : List (Int × PUnit)), live go (h1 (visS (partS r e (0 : Int) (untilJ b j) false))) → ∀ (x : Int
  × PUnit), liveX (goV go (partS r e (0 : Int) (untilJ b j) false) (wholeF (b, r, e, (j, t, n), c)).length) hist x → InI64 ((mgetI x.fst (cntM (partS r e (0 : Int) (untilJ b j) false ++ unI hist))).getD (0 : Int) + (1 : Int)) ∧ liveX go (h1
  (visS (partS r e (0 : Int) (untilJ b j) false ++ unI hist))) ((x.fst, (mgetI x.fst (cntM (partS r e (0 : Int) (untilJ b j) false ++ unI hist))).getD (0 : Int) + (1 : Int)), ()) ∧ ((!go.1 (snocV (h1 (visS (partS r e (0 : Int) (untilJ b j)
  false ++ unI hist))) ((x.fst, (mgetI x.fst (cntM (partS r e (0 : Int) (untilJ b j) false ++ unI hist))).getD (0 : Int) + (1 : Int)), ()))) = true → (fun (α : Type) (self : Lp α) => self.1) (Vi × Unit) go (h1 (visS (partS r e (0 : Int)
  (untilJ b j) false ++ unI (hist ++ [x])))) = false ∧ live go (h1 (visS (partS r e (0 : Int) (untilJ b j) false))) ∧ True ∧ bump (cntM (partS r e (0 : Int) (untilJ b j) false ++ unI hist)) x.fst = cntM (partS r e (0 : Int) (untilJ b j)
  false ++ unI (hist ++ [x])) ∧ snocV (h1 (visS (partS r e (0 : Int) (untilJ b j) false ++ unI hist))) ((x.fst, (mgetI x.fst (cntM (partS r e (0 : Int) (untilJ b j) false ++ unI hist))).getD (0 : Int) + (1 : Int)), ()) = h1 (visS (partS r e
  (0 : Int) (untilJ b j) false ++ unI (hist ++ [x]))) ∧ go = go ∧ true = true ∧ b = b ∧ (0 : Int) = (0 : Int) ∧ b = b ∧ r = r ∧ e = e ∧ j = j ∧ t = t ∧ n = n ∧ c = c ∧ j = j ∧ t = t ∧ n = n ∧ LV.clo (80 : Nat) [] [((3 : Nat), (0 : Nat)),
  ((2 : Nat), (0 : Nat))] = LV.clo (80 : Nat) [] [((3 : Nat), (0 : Nat)), ((2 : Nat), (0 : Nat))] ∧ b = b ∧ r = r ∧ e = e ∧ j = j ∧ t = t ∧ n = n ∧ c = c) ∧ ((!go.1 (snocV (h1 (visS (partS r e (0 : Int) (untilJ b j) false ++ unI hist)))
  ((x.fst, (mgetI x.fst (cntM (partS r e (0 : Int) (untilJ b j) false ++ unI hist))).getD (0 : Int) + (1 : Int)), ()))) = false → (fun (α : Type) (self : Lp α) => self.1) (Vi × Unit) go (h1 (visS (partS r e (0 : Int) (untilJ b j) false ++
  unI (hist ++ [x])))) = true ∧ live go (h1 (visS (partS r e (0 : Int) (untilJ b j) false))) ∧ bump (cntM (partS r e (0 : Int) (untilJ b j) false ++ unI hist)) x.fst = cntM (partS r e (0 : Int) (untilJ b j) false ++ unI (hist ++ [x])) ∧
  snocV (h1 (visS (partS r e (0 : Int) (untilJ b j) false ++ unI hist))) ((x.fst, (mgetI x.fst (cntM (partS r e (0 : Int) (untilJ b j) false ++ unI hist))).getD (0 : Int) + (1 : Int)), ()) = h1 (visS (partS r e (0 : Int) (untilJ b j) false
  ++ unI (hist ++ [x]))) ∧ go = go ∧ true = true ∧ b = b ∧ (0 : Int) = (0 : Int) ∧ b = b ∧ r = r ∧ e = e ∧ j = j ∧ t = t ∧ n = n ∧ c = c ∧ j = j ∧ t = t ∧ n = n ∧ LV.clo (80 : Nat) [] [((3 : Nat), (0 : Nat)), ((2 : Nat), (0 : Nat))] =
  LV.clo (80 : Nat) [] [((3 : Nat), (0 : Nat)), ((2 : Nat), (0 : Nat))] ∧ b = b ∧ r = r ∧ e = e ∧ j = j ∧ t = t ∧ n = n ∧ c = c)) ∧ (live go (h1 (visS (partS r e (0 : Int) (untilJ b j) false))) → (live (goV go (partS r e (0 : Int) (untilJ b
  j) false) (wholeF (b, r, e, (j, t, n), c)).length) (gfed (fun (hist : List (Int × Unit)) => go.1 (h1 (visS (partS r e (0 : Int) (untilJ b j) false ++ unI hist)))) [] (h1 (partS r e t n !false))) → h1 (visS (partS r e (0 : Int) (untilJ b
  j) false ++ unI (gfed (fun (hist : List (Int × Unit)) => go.1 (h1 (visS (partS r e (0 : Int) (untilJ b j) false ++ unI hist)))) [] (h1 (partS r e t n !false))))) = gfed go.1 [] (h1 (visS (wholeF (b, r, e, (j, t, n), c)))) ∧ go = go ∧ b =
  b ∧ r = r ∧ e = e ∧ j = j ∧ t = t ∧ n = n ∧ c = c) ∧ (¬live (goV go (partS r e (0 : Int) (untilJ b j) false) (wholeF (b, r, e, (j, t, n), c)).length) (gfed (fun (hist : List (Int × Unit)) => go.1 (h1 (visS (partS r e (0 : Int) (untilJ b
  j) false ++ unI hist)))) [] (h1 (partS r e t n !false))) → True → h1 (visS (partS r e (0 : Int) (untilJ b j) false ++ unI (gfed (fun (hist : List (Int × Unit)) => go.1 (h1 (visS (partS r e (0 : Int) (untilJ b j) false ++ unI hist)))) []
  (h1 (partS r e t n !false))))) = gfed go.1 [] (h1 (visS (wholeF (b, r, e, (j, t, n), c)))) ∧ go = go ∧ b = b ∧ r = r ∧ e = e ∧ j = j ∧ t = t ∧ n = n ∧ c = c) ∧ True)) ∧ (¬live (goV go [] (partS r e (0 : Int) (untilJ b j) false).length)
  (gfed (fun (hist : List (Int × Unit)) => go.1 (h1 (visS ([] ++ unI hist)))) [] (h1 (partS r e (0 : Int) b !true))) → True → h1 (visS (unI (gfed (fun (hist : List (Int × Unit)) => go.1 (h1 (visS ([] ++ unI hist)))) [] (h1 (partS r e (0 :
  Int) b !true))))) = gfed go.1 [] (h1 (visS (wholeF (b, r, e, (j, t, n), c)))) ∧ go = go ∧ b = b ∧ r = r ∧ e = e ∧ j = j ∧ t = t ∧ n = n ∧ c = c) ∧ True)) ∧ ((j == (0 : Int)) = false → okParts b r (0 : Int) j ∧ (∀ (k : Nat), go.2 (h1 (visS
  ([] ++ unI (List.take k (h1 (partS r e (0 : Int) j !true)))))) ∧ ([] ++ unI (List.take k (h1 (partS r e (0 : Int) j !true)))).length ≤ (partS r e (0 : Int) (untilJ b j) false).length) ∧ goV go [] (partS r e (0 : Int) (untilJ b j)
  false).length = goV go [] (partS r e (0 : Int) (untilJ b j) false).length ∧ True ∧ ([] = cntM (unI []) ∧ [] = h1 (visS (unI [])) ∧ go = go) ∧ (∀ (hist : List (Int × PUnit)), True → ∀ (x : Int × PUnit), liveX (goV go [] (partS r e (0 :
  Int) (untilJ b j) false).length) hist x → InI64 ((mgetI x.fst (cntM (unI hist))).getD (0 : Int) + (1 : Int)) ∧ liveX go (h1 (visS (unI hist))) ((x.fst, (mgetI x.fst (cntM (unI hist))).getD (0 : Int) + (1 : Int)), ()) ∧ ((!go.1 (snocV (h1
  (visS (unI hist))) ((x.fst, (mgetI x.fst (cntM (unI hist))).getD (0 : Int) + (1 : Int)), ()))) = true → (fun (α : Type) (self : Lp α) => self.1) (Vi × Unit) go (h1 (visS ([] ++ unI (hist ++ [x])))) = false ∧ True ∧ True ∧ bump (cntM (unI
  hist)) x.fst = cntM (unI (hist ++ [x])) ∧ snocV (h1 (visS (unI hist))) ((x.fst, (mgetI x.fst (cntM (unI hist))).getD (0 : Int) + (1 : Int)), ()) = h1 (visS (unI (hist ++ [x]))) ∧ go = go ∧ j = j ∧ t = t ∧ n = n ∧ LV.clo (80 : Nat) [] [((3
  : Nat), (0 : Nat)), ((2 : Nat), (0 : Nat))] = LV.clo (80 : Nat) [] [((3 : Nat), (0 : Nat)), ((2 : Nat), (0 : Nat))] ∧ b = b ∧ r = r ∧ e = e ∧ j = j ∧ t = t ∧ n = n ∧ c = c) ∧ ((!go.1 (snocV (h1 (visS (unI hist))) ((x.fst, (mgetI x.fst
  (cntM (unI hist))).getD (0 : Int) + (1 : Int)), ()))) = false → (fun (α : Type) (self : Lp α) => self.1) (Vi × Unit) go (h1 (visS ([] ++ unI (hist ++ [x])))) = true ∧ True ∧ bump (cntM (unI hist)) x.fst = cntM (unI (hist ++ [x])) ∧ snocV
  (h1 (visS (unI hist))) ((x.fst, (mgetI x.fst (cntM (unI hist))).getD (0 : Int) + (1 : Int)), ()) = h1 (visS (unI (hist ++ [x]))) ∧ go = go ∧ j = j ∧ t = t ∧ n = n ∧ LV.clo (80 : Nat) [] [((3 : Nat), (0 : Nat)), ((2 : Nat), (0 : Nat))] =
  LV.clo (80 : Nat) [] [((3 : Nat), (0 : Nat)), ((2 : Nat), (0 : Nat))] ∧ b = b ∧ r = r ∧ e = e ∧ j = j ∧ t = t ∧ n = n ∧ c = c)) ∧ (True → (live (goV go [] (partS r e (0 : Int) (untilJ b j) false).length) (gfed (fun (hist : List (Int ×
  Unit)) => go.1 (h1 (visS ([] ++ unI hist)))) [] (h1 (partS r e (0 : Int) j !true))) → okParts b r t n ∧ (∀ (k : Nat), go.2 (h1 (visS (partS r e (0 : Int) (untilJ b j) false ++ unI (List.take k (h1 (partS r e t n !false)))))) ∧ (partS r e
  (0 : Int) (untilJ b j) false ++ unI (List.take k (h1 (partS r e t n !false)))).length ≤ (wholeF (b, r, e, (j, t, n), c)).length) ∧ goV go (partS r e (0 : Int) (untilJ b j) false) (wholeF (b, r, e, (j, t, n), c)).length = goV go (partS r e
  (0 : Int) (untilJ b j) false) (wholeF (b, r, e, (j, t, n), c)).length ∧ live go (h1 (visS (partS r e (0 : Int) (untilJ b j) false))) ∧ (cntM (unI (gfed (fun (hist : List (Int × Unit)) => go.1 (h1 (visS ([] ++ unI hist)))) [] (h1 (partS r
  e (0 : Int) j !true)))) = cntM (partS r e (0 : Int) (untilJ b j) false ++ unI []) ∧ h1 (visS (unI (gfed (fun (hist : List (Int × Unit)) => go.1 (h1 (visS ([] ++ unI hist)))) [] (h1 (partS r e (0 : Int) j !true))))) = h1 (visS (partS r e
  (0 : Int) (untilJ b j) false ++ unI [])) ∧ go = go) ∧ (∀ (hist : List (Int × PUnit)), live go (h1 (visS (partS r e (0 : Int) (untilJ b j) false))) → ∀ (x : Int × PUnit), liveX (goV go (partS r e (0 : Int) (untilJ b j) false) (wholeF (b,
  r, e, (j, t, n), c)).length) hist x → InI64 ((mgetI x.fst (cntM (partS r e (0 : Int) (untilJ b j) false ++ unI hist))).getD (0 : Int) + (1 : Int)) ∧ liveX go (h1 (visS (partS r e (0 : Int) (untilJ b j) false ++ unI hist))) ((x.fst, (mgetI
  x.fst (cntM (partS r e (0 : Int) (untilJ b j) false ++ unI hist))).getD (0 : Int) + (1 : Int)), ()) ∧ ((!go.1 (snocV (h1 (visS (partS r e (0 : Int) (untilJ b j) false ++ unI hist))) ((x.fst, (mgetI x.fst (cntM (partS r e (0 : Int) (untilJ
  b j) false ++ unI hist))).getD (0 : Int) + (1 : Int)), ()))) = true → (fun (α : Type) (self : Lp α) => self.1) (Vi × Unit) go (h1 (visS (partS r e (0 : Int) (untilJ b j) false ++ unI (hist ++ [x])))) = false ∧ live go (h1 (visS (partS r e
  (0 : Int) (untilJ b j) false))) ∧ True ∧ bump (cntM (partS r e (0 : Int) (untilJ b j) false ++ unI hist)) x.fst = cntM (partS r e (0 : Int) (untilJ b j) false ++ unI (hist ++ [x])) ∧ snocV (h1 (visS (partS r e (0 : Int) (untilJ b j) false
  ++ unI hist))) ((x.fst, (mgetI x.fst (cntM (partS r e (0 : Int) (untilJ b j) false ++ unI hist))).getD (0 : Int) + (1 : Int)), ()) = h1 (visS (partS r e (0 : Int) (untilJ b j) false ++ unI (hist ++ [x]))) ∧ go = go ∧ true = true ∧ j = j ∧
  (0 : Int) = (0 : Int) ∧ b = b ∧ r = r ∧ e = e ∧ j = j ∧ t = t ∧ n = n ∧ c = c ∧ j = j ∧ t = t ∧ n = n ∧ LV.clo (80 : Nat) [] [((3 : Nat), (0 : Nat)), ((2 : Nat), (0 : Nat))] = LV.clo (80 : Nat) [] [((3 : Nat), (0 : Nat)), ((2 : Nat), (0 :
  Nat))] ∧ b = b ∧ r = r ∧ e = e ∧ j = j ∧ t = t ∧ n = n ∧ c = c) ∧ ((!go.1 (snocV (h1 (visS (partS r e (0 : Int) (untilJ b j) false ++ unI hist))) ((x.fst, (mgetI x.fst (cntM (partS r e (0 : Int) (untilJ b j) false ++ unI hist))).getD (0 :
  Int) + (1 : Int)), ()))) = false → (fun (α : Type) (self : Lp α) => self.1) (Vi × Unit) go (h1 (visS (partS r e (0 : Int) (untilJ b j) false ++ unI (hist ++ [x])))) = true ∧ live go (h1 (visS (partS r e (0 : Int) (untilJ b j) false))) ∧
  bump (cntM (partS r e (0 : Int) (untilJ b j) false ++ unI hist)) x.fst = cntM (partS r e (0 : Int) (untilJ b j) false ++ unI (hist ++ [x])) ∧ snocV (h1 (visS (partS r e (0 : Int) (untilJ b j) false ++ unI hist))) ((x.fst, (mgetI x.fst
  (cntM (partS r e (0 : Int) (untilJ b j) false ++ unI hist))).getD (0 : Int) + (1 : Int)), ()) = h1 (visS (partS r e (0 : Int) (untilJ b j) false ++ unI (hist ++ [x]))) ∧ go = go ∧ true = true ∧ j = j ∧ (0 : Int) = (0 : Int) ∧ b = b ∧ r =
  r ∧ e = e ∧ j = j ∧ t = t ∧ n = n ∧ c = c ∧ j = j ∧ t = t ∧ n = n ∧ LV.clo (80 : Nat) [] [((3 : Nat), (0 : Nat)), ((2 : Nat), (0 : Nat))] = LV.clo (80 : Nat) [] [((3 : Nat), (0 : Nat)), ((2 : Nat), (0 : Nat))] ∧ b = b ∧ r = r ∧ e = e ∧ j
  = j ∧ t = t ∧ n = n ∧ c = c)) ∧ (live go (h1 (visS (partS r e (0 : Int) (untilJ b j) false))) → (live (goV go (partS r e (0 : Int) (untilJ b j) false) (wholeF (b, r, e, (j, t, n), c)).length) (gfed (fun (hist : List (Int × Unit)) => go.1
  (h1 (visS (partS r e (0 : Int) (untilJ b j) false ++ unI hist)))) [] (h1 (partS r e t n !false))) → h1 (visS (partS r e (0 : Int) (untilJ b j) false ++ unI (gfed (fun (hist : List (Int × Unit)) => go.1 (h1 (visS (partS r e (0 : Int)
  (untilJ b j) false ++ unI hist)))) [] (h1 (partS r e t n !false))))) = gfed go.1 [] (h1 (visS (wholeF (b, r, e, (j, t, n), c)))) ∧ go = go ∧ b = b ∧ r = r ∧ e = e ∧ j = j ∧ t = t ∧ n = n ∧ c = c) ∧ (¬live (goV go (partS r e (0 : Int)
  (untilJ b j) false) (wholeF (b, r, e, (j, t, n), c)).length) (gfed (fun (hist : List (Int × Unit)) => go.1 (h1 (visS (partS r e (0 : Int) (untilJ b j) false ++ unI hist)))) [] (h1 (partS r e t n !false))) → True → h1 (visS (partS r e (0 :
  Int) (untilJ b j) false ++ unI (gfed (fun (hist : List (Int × Unit)) => go.1 (h1 (visS (partS r e (0 : Int) (untilJ b j) false ++ unI hist)))) [] (h1 (partS r e t n !false))))) = gfed go.1 [] (h1 (visS (wholeF (b, r, e, (j, t, n), c)))) ∧
  go = go ∧ b = b ∧ r = r ∧ e = e ∧ j = j ∧ t = t ∧ n = n ∧ c = c) ∧ True)) ∧ (¬live (goV go [] (partS r e (0 : Int) (untilJ b j) false).length) (gfed (fun (hist : List (Int × Unit)) => go.1 (h1 (visS ([] ++ unI hist)))) [] (h1 (partS r e
  (0 : Int) j !true))) → True → h1 (visS (unI (gfed (fun (hist : List (Int × Unit)) => go.1 (h1 (visS ([] ++ unI hist)))) [] (h1 (partS r e (0 : Int) j !true))))) = gfed go.1 [] (h1 (visS (wholeF (b, r, e, (j, t, n), c)))) ∧ go = go ∧ b = b
  ∧ r = r ∧ e = e ∧ j = j ∧ t = t ∧ n = n ∧ c = c) ∧ True))
def P_visits (b : Int) (r e : List T3) (j t n : Int) (c : List T3) : Prop :=
  coL (LV.clo (79 : FuncId) [] [((1 : Nat), (0 : Nat))]) (LV.clo (79 : Nat) [] [((1 : Nat), (0 : Nat))]) = LV.clo (79 : FuncId) [] [((1 : Nat), (0 : Nat))] ∧ b = b ∧ r = r ∧ e = e ∧ j = j ∧ t = t ∧ n = n ∧ c = c
def P_isShort (b : Int) (r e : List T3) (j t n : Int) (c : List T3) : Prop :=
  okForm (b, r, e, (j, t, n), c) = true ∧ (∀ (k : Nat), (List.take k (h1 (visS (wholeF (b, r, e, (j, t, n), c))))).length ≤ (1000000 : Nat)) ∧ goShort = goShort ∧ True ∧ ((0 : Int) = (↑(0 : Nat) : Int) ∧ false = false) ∧ (∀ (hist : List
  ((Int × Int) × PUnit)), True → ∀ (x : (Int × Int) × PUnit), liveX goShort hist x → InI64 ((↑hist.length : Int) + (1 : Int)) ∧ (decide ((↑hist.length : Int) + (1 : Int) > (20000 : Int)) = true → decide ((hist ++ [x]).length ≤ (20000 :
  Nat)) = false ∧ True ∧ True ∧ (↑hist.length : Int) + (1 : Int) = (↑(hist ++ [x]).length : Int) ∧ false = false ∧ b = b ∧ r = r ∧ e = e ∧ j = j ∧ t = t ∧ n = n ∧ c = c) ∧ (decide ((↑hist.length : Int) + (1 : Int) > (20000 : Int)) = false →
  decide ((hist ++ [x]).length ≤ (20000 : Nat)) = true ∧ True ∧ (↑hist.length : Int) + (1 : Int) = (↑(hist ++ [x]).length : Int) ∧ false = false ∧ b = b ∧ r = r ∧ e = e ∧ j = j ∧ t = t ∧ n = n ∧ c = c)) ∧ (True → (live goShort (gfed (fun
  (hist : List (Vi × Unit)) => decide (hist.length ≤ (20000 : Nat))) [] (h1 (visS (wholeF (b, r, e, (j, t, n), c))))) → true = shortF (b, r, e, (j, t, n), c)) ∧ (¬live goShort (gfed (fun (hist : List (Vi × Unit)) => decide (hist.length ≤
  (20000 : Nat))) [] (h1 (visS (wholeF (b, r, e, (j, t, n), c))))) → True → false = shortF (b, r, e, (j, t, n), c)) ∧ True)
def P_valid (b : Int) (r e : List T3) (j t n : Int) (c : List T3) : Prop :=
  ((decide (b ≥ (1 : Int)) && decide (b ≤ (4000 : Int)) && repsB r b && endsB r e && jumpB b r j t n && cutsB b c) = true → okForm (b, r, e, (j, t, n), c) = true) ∧ (decide (b ≥ (1 : Int)) && decide (b ≤ (4000 : Int)) && repsB r b && endsB
  r e && jumpB b r j t n && cutsB b c && shortF (b, r, e, (j, t, n), c)) = validF (b, r, e, (j, t, n), c)
def P_unfold (b : Int) (r e : List T3) (j t n : Int) (c : List T3) : Prop :=
  ((!validF (b, r, e, (j, t, n), c)) = true → [] = (unfoldS (b, r, e, (j, t, n), c)).fst ∧ (1 : Int) = (unfoldS (b, r, e, (j, t, n), c)).snd) ∧ ((!validF (b, r, e, (j, t, n), c)) = false → okForm (b, r, e, (j, t, n), c) = true ∧ (∀ (k :
  Nat), (List.take k (h1 (visS (wholeF (b, r, e, (j, t, n), c))))).length ≤ (20000 : Nat)) ∧ goAll (20000 : Nat) = goAll (20000 : Nat) ∧ True ∧ ([] = List.filter (keptB c) (unV []) ∧ (0 : Nat) = (0 : Nat)) ∧ (∀ (hist : List ((Int × Int) ×
  PUnit)), True → ∀ (x : (Int × Int) × PUnit), liveX (goAll (20000 : Nat)) hist x → ((!c.any (leavesB (x.fst.fst, x.fst.snd))) = true → (List.filter (keptB c) (unV hist)).length = (List.filter (keptB c) (unV hist)).length ∧ ((List.filter
  (keptB c) (unV hist)).length + ((0 : Nat) + (1 : Nat))) * (16 : Nat) ≤ (140737488355328 : Nat) ∧ true = true ∧ True ∧ List.filter (keptB c) (unV hist) ++ [(x.fst.fst, x.fst.snd)] = List.filter (keptB c) (unV (hist ++ [x])) ∧ (List.filter
  (keptB c) (unV hist)).length + ((0 : Nat) + (1 : Nat)) = (List.filter (keptB c) (unV (hist ++ [x]))).length ∧ (0 : Nat) = (0 : Nat) ∧ b = b ∧ r = r ∧ e = e ∧ j = j ∧ t = t ∧ n = n ∧ c = c) ∧ ((!c.any (leavesB (x.fst.fst, x.fst.snd))) =
  false → true = true ∧ True ∧ List.filter (keptB c) (unV hist) = List.filter (keptB c) (unV (hist ++ [x])) ∧ (List.filter (keptB c) (unV hist)).length = (List.filter (keptB c) (unV (hist ++ [x]))).length ∧ (0 : Nat) = (0 : Nat) ∧ b = b ∧ r
  = r ∧ e = e ∧ j = j ∧ t = t ∧ n = n ∧ c = c)) ∧ (True → (live (goAll (20000 : Nat)) (gfed (fun (x : List (Vi × Unit)) => true) [] (h1 (visS (wholeF (b, r, e, (j, t, n), c))))) → List.filter (keptB c) (unV (gfed (fun (x : List (Vi × Unit))
  => true) [] (h1 (visS (wholeF (b, r, e, (j, t, n), c)))))) = (unfoldS (b, r, e, (j, t, n), c)).fst ∧ (0 : Int) = (unfoldS (b, r, e, (j, t, n), c)).snd) ∧ True))
def P_few (b : Int) (r e : List T3) (j t n : Int) (c : List T3) : Prop :=
  (decide (b ≤ (60 : Int)) = true → (↑r.length : Int) ≤ (9223372036854775807 : Int)) → ((decide (b ≤ (60 : Int)) && decide ((↑r.length : Int) ≤ (110 : Int))) = true → (↑e.length : Int) ≤ (9223372036854775807 : Int)) → ((decide (b ≤ (60 :
  Int)) && decide ((↑r.length : Int) ≤ (110 : Int)) && decide ((↑e.length : Int) ≤ (60 : Int))) = true → (↑c.length : Int) ≤ (9223372036854775807 : Int)) → (decide (b ≤ (60 : Int)) && decide ((↑r.length : Int) ≤ (110 : Int)) && decide
  ((↑e.length : Int) ≤ (60 : Int)) && decide ((↑c.length : Int) ≤ (110 : Int))) = fewF (b, r, e, (j, t, n), c)
end Go.Proofs.Ytjghgdccaakfmaa
