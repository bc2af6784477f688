/- What is to be shown of each function, in plain terms. Written by a program (wip/tools/gen.py). -/
import Derived.Test.YtcklbglladijlaaFormc
namespace Go.Proofs.Ytcklbglladijlaa
open Go.Sy Go.RatLaw
set_option linter.unusedVariables false

def P_wi1 (q1 q2 q3 x : Int) : Prop :=
 (decide (q1 < x) && decide (x < q2)) = inP x (q1, q2, q3) ∧ x = x
def P_ae1 (q1 q2 q3 x y z : Int) : Prop :=
 (decide (q1 ≤ x) && decide (y ≤ q2)) = coverP x y (q1, q2, q3) ∧ x = x ∧ y = y ∧ z = z
def P_ba1 (q1 q2 q3 x : Int) : Prop :=
 (q1 == x) = startP x (q1, q2, q3) ∧ x = x
def P_ie1 (q1 q2 q3 x y : Int) : Prop :=
 (decide (q1 ≤ x) && decide (x < q2) && q3 != y) = endHit x y (q1, q2, q3) ∧ x = x ∧ y = y
def P_ixR1 (l : List T3) (x : Int) : Prop :=
 (↑l.length : Int) ≤ (9223372036854775807 : Int) → (∃ (x_1 : Nat), (x_1 ≤ l.length ∧ ∀ (i : Nat), i < x_1 → inP x (l.getD i t30) = false) ∧ (0 : Int) = (↑x_1 : Int)) ∧ ∀ (x_1 : Nat), (x_1 ≤ l.length ∧ ∀ (i : Nat), i < x_1 → inP x (l.getD i
 t30) = false) → (decide ((↑x_1 : Int) < (↑l.length : Int)) = true → (0 : Int) ≤ (↑x_1 : Int) ∧ (↑x_1 : Int) < (↑l.length : Int) ∧ (inP x ((l.getD (↑x_1 : Int).toNat T3T.d0).1, (l.getD (↑x_1 : Int).toNat T3T.d0).2.1, (l.getD (↑x_1 :
 Int).toNat T3T.d0).2.2) = true → (↑x_1 : Int) = gidx (inP x) l ∧ x = x) ∧ (inP x ((l.getD (↑x_1 : Int).toNat T3T.d0).1, (l.getD (↑x_1 : Int).toNat T3T.d0).2.1, (l.getD (↑x_1 : Int).toNat T3T.d0).2.2) = false → InI64 ((↑x_1 : Int) + (1 :
 Int)) ∧ ∃ (x' : Nat), (x' ≤ l.length ∧ ∀ (i : Nat), i < x' → inP x (l.getD i t30) = false) ∧ l.length - x' < l.length - x_1 ∧ (↑x_1 : Int) + (1 : Int) = (↑x' : Int) ∧ (↑l.length : Int) = (↑l.length : Int) ∧ l = l ∧ coL (LV.clo (85 :
 FuncId) [] [((2000 : Nat), (0 : Nat))]) (LV.clo (85 : FuncId) [] [((2000 : Nat), (0 : Nat))]) = LV.clo (85 : FuncId) [] [((2000 : Nat), (0 : Nat))] ∧ x = x)) ∧ (decide ((↑x_1 : Int) < (↑l.length : Int)) = false → (-1 : Int) = gidx (inP x)
 l ∧ x = x)
def P_ixR2 (l : List T3) (x y z : Int) : Prop :=
 (↑l.length : Int) ≤ (9223372036854775807 : Int) → (∃ (x_1 : Nat), (x_1 ≤ l.length ∧ ∀ (i : Nat), i < x_1 → coverP x y (l.getD i t30) = false) ∧ (0 : Int) = (↑x_1 : Int)) ∧ ∀ (x_1 : Nat), (x_1 ≤ l.length ∧ ∀ (i : Nat), i < x_1 → coverP x y
 (l.getD i t30) = false) → (decide ((↑x_1 : Int) < (↑l.length : Int)) = true → (0 : Int) ≤ (↑x_1 : Int) ∧ (↑x_1 : Int) < (↑l.length : Int) ∧ (coverP x y ((l.getD (↑x_1 : Int).toNat T3T.d0).1, (l.getD (↑x_1 : Int).toNat T3T.d0).2.1, (l.getD
 (↑x_1 : Int).toNat T3T.d0).2.2) = true → (↑x_1 : Int) = gidx (coverP x y) l ∧ x = x ∧ y = y ∧ z = z) ∧ (coverP x y ((l.getD (↑x_1 : Int).toNat T3T.d0).1, (l.getD (↑x_1 : Int).toNat T3T.d0).2.1, (l.getD (↑x_1 : Int).toNat T3T.d0).2.2) =
 false → InI64 ((↑x_1 : Int) + (1 : Int)) ∧ ∃ (x' : Nat), (x' ≤ l.length ∧ ∀ (i : Nat), i < x' → coverP x y (l.getD i t30) = false) ∧ l.length - x' < l.length - x_1 ∧ (↑x_1 : Int) + (1 : Int) = (↑x' : Int) ∧ (↑l.length : Int) = (↑l.length
 : Int) ∧ l = l ∧ coL (LV.clo (64 : FuncId) [] [((2000 : Nat), (0 : Nat))]) (LV.clo (64 : FuncId) [] [((2000 : Nat), (0 : Nat))]) = LV.clo (64 : FuncId) [] [((2000 : Nat), (0 : Nat))] ∧ x = x ∧ y = y ∧ z = z)) ∧ (decide ((↑x_1 : Int) <
 (↑l.length : Int)) = false → (-1 : Int) = gidx (coverP x y) l ∧ x = x ∧ y = y ∧ z = z)
def P_ixR3 (l : List T3) (x : Int) : Prop :=
 (↑l.length : Int) ≤ (9223372036854775807 : Int) → (∃ (x_1 : Nat), (x_1 ≤ l.length ∧ ∀ (i : Nat), i < x_1 → startP x (l.getD i t30) = false) ∧ (0 : Int) = (↑x_1 : Int)) ∧ ∀ (x_1 : Nat), (x_1 ≤ l.length ∧ ∀ (i : Nat), i < x_1 → startP x
 (l.getD i t30) = false) → (decide ((↑x_1 : Int) < (↑l.length : Int)) = true → (0 : Int) ≤ (↑x_1 : Int) ∧ (↑x_1 : Int) < (↑l.length : Int) ∧ (startP x ((l.getD (↑x_1 : Int).toNat T3T.d0).1, (l.getD (↑x_1 : Int).toNat T3T.d0).2.1, (l.getD
 (↑x_1 : Int).toNat T3T.d0).2.2) = true → (↑x_1 : Int) = gidx (startP x) l ∧ x = x) ∧ (startP x ((l.getD (↑x_1 : Int).toNat T3T.d0).1, (l.getD (↑x_1 : Int).toNat T3T.d0).2.1, (l.getD (↑x_1 : Int).toNat T3T.d0).2.2) = false → InI64 ((↑x_1 :
 Int) + (1 : Int)) ∧ ∃ (x' : Nat), (x' ≤ l.length ∧ ∀ (i : Nat), i < x' → startP x (l.getD i t30) = false) ∧ l.length - x' < l.length - x_1 ∧ (↑x_1 : Int) + (1 : Int) = (↑x' : Int) ∧ (↑l.length : Int) = (↑l.length : Int) ∧ l = l ∧ coL
 (LV.clo (101 : FuncId) [] [((2000 : Nat), (0 : Nat))]) (LV.clo (101 : FuncId) [] [((2000 : Nat), (0 : Nat))]) = LV.clo (101 : FuncId) [] [((2000 : Nat), (0 : Nat))] ∧ x = x)) ∧ (decide ((↑x_1 : Int) < (↑l.length : Int)) = false → (-1 :
 Int) = gidx (startP x) l ∧ x = x)
def P_cfR1 (l : List T3) (x : Int) : Prop :=
 decide (gidx (inP x) l ≥ (0 : Int)) = l.any (inP x) ∧ x = x
def P_cfR2 (l : List T3) (x y z : Int) : Prop :=
 decide (gidx (coverP x y) l ≥ (0 : Int)) = l.any (coverP x y) ∧ x = x ∧ y = y ∧ z = z
def P_ixE (l : List T3) (x y : Int) : Prop :=
 (↑l.length : Int) ≤ (9223372036854775807 : Int) → (∃ (x_1 : Nat), (x_1 ≤ l.length ∧ ∀ (i : Nat), i < x_1 → endHit x y (l.getD i t30) = false) ∧ (0 : Int) = (↑x_1 : Int)) ∧ ∀ (x_1 : Nat), (x_1 ≤ l.length ∧ ∀ (i : Nat), i < x_1 → endHit x y
 (l.getD i t30) = false) → (decide ((↑x_1 : Int) < (↑l.length : Int)) = true → (0 : Int) ≤ (↑x_1 : Int) ∧ (↑x_1 : Int) < (↑l.length : Int) ∧ (endHit x y ((l.getD (↑x_1 : Int).toNat T3T.d0).1, (l.getD (↑x_1 : Int).toNat T3T.d0).2.1, (l.getD
 (↑x_1 : Int).toNat T3T.d0).2.2) = true → (↑x_1 : Int) = gidx (endHit x y) l ∧ x = x ∧ y = y) ∧ (endHit x y ((l.getD (↑x_1 : Int).toNat T3T.d0).1, (l.getD (↑x_1 : Int).toNat T3T.d0).2.1, (l.getD (↑x_1 : Int).toNat T3T.d0).2.2) = false →
 InI64 ((↑x_1 : Int) + (1 : Int)) ∧ ∃ (x' : Nat), (x' ≤ l.length ∧ ∀ (i : Nat), i < x' → endHit x y (l.getD i t30) = false) ∧ l.length - x' < l.length - x_1 ∧ (↑x_1 : Int) + (1 : Int) = (↑x' : Int) ∧ (↑l.length : Int) = (↑l.length : Int) ∧
 l = l ∧ coL (LV.clo (106 : FuncId) [] [((2000 : Nat), (0 : Nat)), ((2001 : Nat), (0 : Nat))]) (LV.clo (106 : FuncId) [] [((2000 : Nat), (0 : Nat)), ((2001 : Nat), (0 : Nat))]) = LV.clo (106 : FuncId) [] [((2000 : Nat), (0 : Nat)), ((2001
 : Nat), (0 : Nat))] ∧ x = x ∧ y = y)) ∧ (decide ((↑x_1 : Int) < (↑l.length : Int)) = false → (-1 : Int) = gidx (endHit x y) l ∧ x = x ∧ y = y)
def P_cfE (l : List T3) (x y : Int) : Prop :=
 decide (gidx (endHit x y) l ≥ (0 : Int)) = l.any (endHit x y) ∧ x = x ∧ y = y
def P_isWithin (b : Int) (r e : List T3) (j t n : Int) (c : List T3) (x : Int) : Prop :=
 r.any (inP x) = withinB r x
def P_areRepeats (b : Int) (r e : List T3) (j t n : Int) (c : List T3) : Prop :=
 (↑r.length : Int) ≤ (9223372036854775807 : Int) → (∃ (x : Nat), (x ≤ r.length ∧ repsFrom b (0 : Int) r = repsFrom b (lastT r x) (List.drop x r)) ∧ (0 : Int) = (↑x : Int) ∧ (0 : Int) = lastT r x) ∧ ∀ (x : Nat), x ≤ r.length ∧ repsFrom b (0
 : Int) r = repsFrom b (lastT r x) (List.drop x r) → (decide ((↑x : Int) < (↑r.length : Int)) = true → (0 : Int) ≤ (↑x : Int) ∧ (↑x : Int) < (↑r.length : Int) ∧ ((decide ((r.getD (↑x : Int).toNat T3T.d0).1 < lastT r x) || decide ((r.getD
 (↑x : Int).toNat T3T.d0).1 ≥ (r.getD (↑x : Int).toNat T3T.d0).2.1) || decide ((r.getD (↑x : Int).toNat T3T.d0).2.1 > b) || decide ((r.getD (↑x : Int).toNat T3T.d0).2.2 < (1 : Int)) || decide ((r.getD (↑x : Int).toNat T3T.d0).2.2 > (9 :
 Int))) = true → false = repsB r b) ∧ ((decide ((r.getD (↑x : Int).toNat T3T.d0).1 < lastT r x) || decide ((r.getD (↑x : Int).toNat T3T.d0).1 ≥ (r.getD (↑x : Int).toNat T3T.d0).2.1) || decide ((r.getD (↑x : Int).toNat T3T.d0).2.1 > b) ||
 decide ((r.getD (↑x : Int).toNat T3T.d0).2.2 < (1 : Int)) || decide ((r.getD (↑x : Int).toNat T3T.d0).2.2 > (9 : Int))) = false → InI64 ((↑x : Int) + (1 : Int)) ∧ ∃ (x' : Nat), (x' ≤ r.length ∧ repsFrom b (0 : Int) r = repsFrom b (lastT r
 x') (List.drop x' r)) ∧ r.length - x' < r.length - x ∧ (↑x : Int) + (1 : Int) = (↑x' : Int) ∧ (r.getD (↑x : Int).toNat T3T.d0).2.1 = lastT r x' ∧ (↑r.length : Int) = (↑r.length : Int) ∧ r = r ∧ b = b ∧ r = r ∧ e = e ∧ j = j ∧ t = t ∧ n =
 n ∧ c = c ∧ b = b ∧ r = r ∧ e = e ∧ j = j ∧ t = t ∧ n = n ∧ c = c)) ∧ (decide ((↑x : Int) < (↑r.length : Int)) = false → (↑r.length : Int) ≤ (9223372036854775807 : Int) → decide ((↑r.length : Int) ≤ (100 : Int)) = repsB r b)
abbrev E_areEndings_1 (r : List T3) (e : List T3) (x : Nat) :=
 (decide ((e.getD (↑x : Int).toNat T3T.d0).1 < lastT e x) || decide ((e.getD (↑x : Int).toNat T3T.d0).1 ≥ (e.getD (↑x : Int).toNat T3T.d0).2.1) || !r.any (coverP (e.getD (↑x : Int).toNat T3T.d0).1 (e.getD (↑x : Int).toNat T3T.d0).2.1) ||
 decide ((e.getD (↑x : Int).toNat T3T.d0).2.2 < (1 : Int)) || decide ((e.getD (↑x : Int).toNat T3T.d0).2.2 > (9 : Int)))
def P_areEndings (b : Int) (r e : List T3) (j t n : Int) (c : List T3) : Prop :=
 (↑e.length : Int) ≤ (9223372036854775807 : Int) → (∃ (x : Nat), (x ≤ e.length ∧ endsFrom r (0 : Int) e = endsFrom r (lastT e x) (List.drop x e)) ∧ (0 : Int) = (↑x : Int) ∧ (0 : Int) = lastT e x) ∧ ∀ (x : Nat), x ≤ e.length ∧ endsFrom r (0
 : Int) e = endsFrom r (lastT e x) (List.drop x e) → (decide ((↑x : Int) < (↑e.length : Int)) = true → (0 : Int) ≤ (↑x : Int) ∧ (↑x : Int) < (↑e.length : Int) ∧ ((E_areEndings_1 r e x) = true → false = endsB r e) ∧ ((E_areEndings_1 r e x)
 = false → InI64 ((↑x : Int) + (1 : Int)) ∧ ∃ (x' : Nat), (x' ≤ e.length ∧ endsFrom r (0 : Int) e = endsFrom r (lastT e x') (List.drop x' e)) ∧ e.length - x' < e.length - x ∧ (↑x : Int) + (1 : Int) = (↑x' : Int) ∧ (e.getD (↑x : Int).toNat
 T3T.d0).2.1 = lastT e x' ∧ (↑e.length : Int) = (↑e.length : Int) ∧ e = e ∧ b = b ∧ r = r ∧ e = e ∧ j = j ∧ t = t ∧ n = n ∧ c = c ∧ b = b ∧ r = r ∧ e = e ∧ j = j ∧ t = t ∧ n = n ∧ c = c)) ∧ (decide ((↑x : Int) < (↑e.length : Int)) = false
 → (↑e.length : Int) ≤ (9223372036854775807 : Int) → decide ((↑e.length : Int) ≤ (100 : Int)) = endsB r e)
def P_isJump (b : Int) (r e : List T3) (j t n : Int) (c : List T3) : Prop :=
 ((j == (0 : Int) && (t == (0 : Int) && n == (0 : Int))) = true → true = jumpB b r j t n) ∧ ((j == (0 : Int) && (t == (0 : Int) && n == (0 : Int))) = false → ((decide (j < (1 : Int)) || decide (j > b) || decide (t < (0 : Int)) || decide (t
 ≥ j) || decide (n ≤ t) || decide (n > b)) = true → false = jumpB b r j t n) ∧ ((decide (j < (1 : Int)) || decide (j > b) || decide (t < (0 : Int)) || decide (t ≥ j) || decide (n ≤ t) || decide (n > b)) = false → (!withinB r j && !withinB
 r t && !withinB r n) = jumpB b r j t n))
def P_isCut (b : Int) (r e : List T3) (j t n : Int) (c : List T3) (x y z : Int) : Prop :=
 (decide ((0 : Int) ≤ x) && decide (x < y) && decide (y ≤ b) && decide ((0 : Int) ≤ z) && decide (z ≤ (20 : Int))) = cutB b (x, y, z)
abbrev E_areCuts_1 (c : List T3) (x : Nat) :=
 ((c.getD (↑x : Int).toNat T3T.d0).1, (c.getD (↑x : Int).toNat T3T.d0).2.1, (c.getD (↑x : Int).toNat T3T.d0).2.2)
def P_areCuts (b : Int) (r e : List T3) (j t n : Int) (c : List T3) : Prop :=
 (↑c.length : Int) ≤ (9223372036854775807 : Int) → (∃ (x : Nat), (x ≤ c.length ∧ (List.take x c).all (cutB b) = true ∧ (List.take x c).Nodup) ∧ (0 : Int) = (↑x : Int) ∧ [] = seenC (List.take x c)) ∧ ∀ (x : Nat), x ≤ c.length ∧ (List.take x
 c).all (cutB b) = true ∧ (List.take x c).Nodup → (decide ((↑x : Int) < (↑c.length : Int)) = true → (0 : Int) ≤ (↑x : Int) ∧ (↑x : Int) < (↑c.length : Int) ∧ ((!cutB b (E_areCuts_1 c x) || (mget ((Ty.ti IntKind.i64).tp ((Ty.ti
 IntKind.i64).tp (Ty.ti IntKind.i64))).beq (E_areCuts_1 c x) (seenC (List.take x c))).getD Ty.tb.d0) = true → false = cutsB b c) ∧ ((!cutB b (E_areCuts_1 c x) || (mget ((Ty.ti IntKind.i64).tp ((Ty.ti IntKind.i64).tp (Ty.ti
 IntKind.i64))).beq (E_areCuts_1 c x) (seenC (List.take x c))).getD Ty.tb.d0) = false → InI64 ((↑x : Int) + (1 : Int)) ∧ ∃ (x' : Nat), (x' ≤ c.length ∧ (List.take x' c).all (cutB b) = true ∧ (List.take x' c).Nodup) ∧ c.length - x' <
 c.length - x ∧ (↑x : Int) + (1 : Int) = (↑x' : Int) ∧ (↑c.length : Int) = (↑c.length : Int) ∧ c = c ∧ b = b ∧ r = r ∧ e = e ∧ j = j ∧ t = t ∧ n = n ∧ c = c ∧ mput ((Ty.ti IntKind.i64).tp ((Ty.ti IntKind.i64).tp (Ty.ti IntKind.i64))).beq
 (E_areCuts_1 c x) true (seenC (List.take x c)) = seenC (List.take x' c) ∧ b = b ∧ r = r ∧ e = e ∧ j = j ∧ t = t ∧ n = n ∧ c = c)) ∧ (decide ((↑x : Int) < (↑c.length : Int)) = false → (↑c.length : Int) ≤ (9223372036854775807 : Int) →
 decide ((↑c.length : Int) ≤ (100 : Int)) = cutsB b c)
def P_isEnding (b : Int) (r e : List T3) (j t n : Int) (c : List T3) (x y : Int) : Prop :=
 e.any (endHit x y) = e.any (endHit x y)
abbrev E_bars1_1 (r : List T3) (e : List T3) (y : Int) (g : Bool) (x_1 : Int × List Int) (x_2 : Int × List Int) :=
 (passesL e (r.getD (gidx (startP x_1.1) r).toNat t30) (x_2.1 + (1 : Int)) ++ partS r e (r.getD (gidx (startP x_1.1) r).toNat t30).2.1 y !g)
abbrev E_bars1_2 (r : List T3) (e : List T3) (y : Int) (g : Bool) (x_1 : Int × List Int) (x_2 : Int × List Int) :=
 (passesL e (r.getD (gidx (startP x_1.1) r).toNat t30) x_2.1 ++ partS r e (r.getD (gidx (startP x_1.1) r).toNat t30).2.1 y !g)
abbrev E_bars1_3 (e : List T3) (x_2 : Int × List Int) (x_3 : Int × List Int) :=
 (bif (!e.any (endHit x_3.1 x_2.1)) == true then h1 x_3.2 ++ [(x_3.1, ())] else h1 x_3.2)
def P_bars1 (b : Int) (r e : List T3) (j t n : Int) (c : List T3) (x y : Int) (g : Bool) (go : Lp (Int × Unit)) : Prop :=
 (∃ (x_1 : Int × List Int), (x ≤ x_1.1 ∧ onG go (partS r e x y !g) x_1.2 (partS r e x_1.1 y !g)) ∧ [] = h1 x_1.2 ∧ go = go ∧ x = x_1.1) ∧ ∀ (x_1 : Int × List Int), x ≤ x_1.1 ∧ onG go (partS r e x y !g) x_1.2 (partS r e x_1.1 y !g) →
 (decide (x_1.1 < y) = true → (decide (gidx (startP x_1.1) r < (0 : Int)) = true → liveX go (h1 x_1.2) (x_1.1, ()) ∧ ((!go.1 (h1 x_1.2 ++ [(x_1.1, ())])) = true → h1 x_1.2 ++ [(x_1.1, ())] = gfed go.1 [] (h1 (partS r e x y !g)) ∧ go = go ∧
 x = x ∧ y = y ∧ b = b ∧ r = r ∧ e = e ∧ j = j ∧ t = t ∧ n = n ∧ c = c ∧ g = g) ∧ ((!go.1 (h1 x_1.2 ++ [(x_1.1, ())])) = false → InI64 (x_1.1 + (1 : Int)) ∧ ∃ (x' : Int × List Int), (x ≤ x'.1 ∧ onG go (partS r e x y !g) x'.2 (partS r e
 x'.1 y !g)) ∧ (y - x'.1).toNat < (y - x_1.1).toNat ∧ h1 x_1.2 ++ [(x_1.1, ())] = h1 x'.2 ∧ go = go ∧ x_1.1 + (1 : Int) = x'.1 ∧ x = x ∧ y = y ∧ b = b ∧ r = r ∧ e = e ∧ j = j ∧ t = t ∧ n = n ∧ c = c ∧ g = g)) ∧ (decide (gidx (startP x_1.1)
 r < (0 : Int)) = false → (0 : Int) ≤ gidx (startP x_1.1) r ∧ gidx (startP x_1.1) r < (↑r.length : Int) ∧ (g = true → (∃ (x_2 : Int × List Int), ((firstP (r.getD (gidx (startP x_1.1) r).toNat t30) !g) ≤ x_2.1 ∧ x_2.1 ≤ (r.getD (gidx
 (startP x_1.1) r).toNat t30).2.2 + (1 : Int) ∧ onG go (partS r e x y !g) x_2.2 (E_bars1_2 r e y g x_1 x_2)) ∧ (1 : Int) = x_2.1 ∧ h1 x_1.2 = h1 x_2.2 ∧ go = go) ∧ ∀ (x_2 : Int × List Int), (firstP (r.getD (gidx (startP x_1.1) r).toNat
 t30) !g) ≤ x_2.1 ∧ x_2.1 ≤ (r.getD (gidx (startP x_1.1) r).toNat t30).2.2 + (1 : Int) ∧ onG go (partS r e x y !g) x_2.2 (E_bars1_2 r e y g x_1 x_2) → (decide (x_2.1 ≤ (r.getD (gidx (startP x_1.1) r).toNat T3T.d0).2.2) = true → (∃ (x_3 :
 Int × List Int), ((r.getD (gidx (startP x_1.1) r).toNat t30).1 ≤ x_3.1 ∧ x_3.1 ≤ (r.getD (gidx (startP x_1.1) r).toNat t30).2.1 ∧ onG go (partS r e x y !g) x_3.2 (List.filter (fun (i : Int) => playedB e i x_2.1) (intsF x_3.1 (r.getD (gidx
 (startP x_1.1) r).toNat t30).2.1) ++ (E_bars1_1 r e y g x_1 x_2))) ∧ (r.getD (gidx (startP x_1.1) r).toNat T3T.d0).1 = x_3.1 ∧ h1 x_2.2 = h1 x_3.2 ∧ go = go) ∧ ∀ (x_3 : Int × List Int), (r.getD (gidx (startP x_1.1) r).toNat t30).1 ≤ x_3.1
 ∧ x_3.1 ≤ (r.getD (gidx (startP x_1.1) r).toNat t30).2.1 ∧ onG go (partS r e x y !g) x_3.2 (List.filter (fun (i : Int) => playedB e i x_2.1) (intsF x_3.1 (r.getD (gidx (startP x_1.1) r).toNat t30).2.1) ++ (E_bars1_1 r e y g x_1 x_2)) →
 (decide (x_3.1 < (r.getD (gidx (startP x_1.1) r).toNat T3T.d0).2.1) = true → ((!e.any (endHit x_3.1 x_2.1)) = true → liveX go (h1 x_3.2) (x_3.1, ()) ∧ go = go) ∧ ((!e.any (endHit x_3.1 x_2.1) && !go.1 (h1 x_3.2 ++ [(x_3.1, ())])) = true →
 (E_bars1_3 e x_2 x_3) = gfed go.1 [] (h1 (partS r e x y !g)) ∧ go = go ∧ x = x ∧ y = y ∧ b = b ∧ r = r ∧ e = e ∧ j = j ∧ t = t ∧ n = n ∧ c = c ∧ g = g) ∧ ((!e.any (endHit x_3.1 x_2.1) && !go.1 (h1 x_3.2 ++ [(x_3.1, ())])) = false → InI64
 (x_3.1 + (1 : Int)) ∧ ∃ (x' : Int × List Int), ((r.getD (gidx (startP x_1.1) r).toNat t30).1 ≤ x'.1 ∧ x'.1 ≤ (r.getD (gidx (startP x_1.1) r).toNat t30).2.1 ∧ onG go (partS r e x y !g) x'.2 (List.filter (fun (i : Int) => playedB e i x_2.1)
 (intsF x'.1 (r.getD (gidx (startP x_1.1) r).toNat t30).2.1) ++ (E_bars1_1 r e y g x_1 x_2))) ∧ ((r.getD (gidx (startP x_1.1) r).toNat t30).2.1 - x'.1).toNat < ((r.getD (gidx (startP x_1.1) r).toNat t30).2.1 - x_3.1).toNat ∧ x_3.1 + (1 :
 Int) = x'.1 ∧ decide (x_2.1 ≤ (r.getD (gidx (startP x_1.1) r).toNat T3T.d0).2.2) = decide (x_2.1 ≤ (r.getD (gidx (startP x_1.1) r).toNat T3T.d0).2.2) ∧ x_2.1 = x_2.1 ∧ (1 : Int) = (1 : Int) ∧ g = g ∧ decide (gidx (startP x_1.1) r < (0 :
 Int)) = decide (gidx (startP x_1.1) r < (0 : Int)) ∧ gidx (startP x_1.1) r = gidx (startP x_1.1) r ∧ decide (x_1.1 < y) = decide (x_1.1 < y) ∧ (E_bars1_3 e x_2 x_3) = h1 x'.2 ∧ go = go ∧ (r.getD (gidx (startP x_1.1) r).toNat T3T.d0).1 =
 (r.getD (gidx (startP x_1.1) r).toNat T3T.d0).1 ∧ (r.getD (gidx (startP x_1.1) r).toNat T3T.d0).2.1 = (r.getD (gidx (startP x_1.1) r).toNat T3T.d0).2.1 ∧ (r.getD (gidx (startP x_1.1) r).toNat T3T.d0).2.2 = (r.getD (gidx (startP x_1.1)
 r).toNat T3T.d0).2.2 ∧ x_1.1 = x_1.1 ∧ x = x ∧ y = y ∧ b = b ∧ r = r ∧ e = e ∧ j = j ∧ t = t ∧ n = n ∧ c = c ∧ g = g)) ∧ (decide (x_3.1 < (r.getD (gidx (startP x_1.1) r).toNat T3T.d0).2.1) = false → InI64 (x_2.1 + (1 : Int)) ∧ ∃ (x' : Int
 × List Int), ((firstP (r.getD (gidx (startP x_1.1) r).toNat t30) !g) ≤ x'.1 ∧ x'.1 ≤ (r.getD (gidx (startP x_1.1) r).toNat t30).2.2 + (1 : Int) ∧ onG go (partS r e x y !g) x'.2 (passesL e (r.getD (gidx (startP x_1.1) r).toNat t30) x'.1 ++
 partS r e (r.getD (gidx (startP x_1.1) r).toNat t30).2.1 y !g)) ∧ ((r.getD (gidx (startP x_1.1) r).toNat t30).2.2 + (1 : Int) - x'.1).toNat < ((r.getD (gidx (startP x_1.1) r).toNat t30).2.2 + (1 : Int) - x_2.1).toNat ∧ x_2.1 + (1 : Int) =
 x'.1 ∧ (1 : Int) = (1 : Int) ∧ g = g ∧ decide (gidx (startP x_1.1) r < (0 : Int)) = decide (gidx (startP x_1.1) r < (0 : Int)) ∧ gidx (startP x_1.1) r = gidx (startP x_1.1) r ∧ decide (x_1.1 < y) = decide (x_1.1 < y) ∧ h1 x_3.2 = h1 x'.2
 ∧ go = go ∧ (r.getD (gidx (startP x_1.1) r).toNat T3T.d0).1 = (r.getD (gidx (startP x_1.1) r).toNat T3T.d0).1 ∧ (r.getD (gidx (startP x_1.1) r).toNat T3T.d0).2.1 = (r.getD (gidx (startP x_1.1) r).toNat T3T.d0).2.1 ∧ (r.getD (gidx (startP
 x_1.1) r).toNat T3T.d0).2.2 = (r.getD (gidx (startP x_1.1) r).toNat T3T.d0).2.2 ∧ x_1.1 = x_1.1 ∧ x = x ∧ y = y ∧ b = b ∧ r = r ∧ e = e ∧ j = j ∧ t = t ∧ n = n ∧ c = c ∧ g = g)) ∧ (decide (x_2.1 ≤ (r.getD (gidx (startP x_1.1) r).toNat
 T3T.d0).2.2) = false → InI64 ((r.getD (gidx (startP x_1.1) r).toNat T3T.d0).2.1 - (1 : Int)) ∧ InI64 ((r.getD (gidx (startP x_1.1) r).toNat T3T.d0).2.1 - (1 : Int) + (1 : Int)) ∧ ∃ (x' : Int × List Int), (x ≤ x'.1 ∧ onG go (partS r e x y
 !g) x'.2 (partS r e x'.1 y !g)) ∧ (y - x'.1).toNat < (y - x_1.1).toNat ∧ h1 x_2.2 = h1 x'.2 ∧ go = go ∧ (r.getD (gidx (startP x_1.1) r).toNat T3T.d0).2.1 - (1 : Int) + (1 : Int) = x'.1 ∧ x = x ∧ y = y ∧ b = b ∧ r = r ∧ e = e ∧ j = j ∧ t =
 t ∧ n = n ∧ c = c ∧ g = g)) ∧ (g = false → (∃ (x_2 : Int × List Int), ((firstP (r.getD (gidx (startP x_1.1) r).toNat t30) !g) ≤ x_2.1 ∧ x_2.1 ≤ (r.getD (gidx (startP x_1.1) r).toNat t30).2.2 + (1 : Int) ∧ onG go (partS r e x y !g) x_2.2
 (E_bars1_2 r e y g x_1 x_2)) ∧ (r.getD (gidx (startP x_1.1) r).toNat T3T.d0).2.2 = x_2.1 ∧ h1 x_1.2 = h1 x_2.2 ∧ go = go) ∧ ∀ (x_2 : Int × List Int), (firstP (r.getD (gidx (startP x_1.1) r).toNat t30) !g) ≤ x_2.1 ∧ x_2.1 ≤ (r.getD (gidx
 (startP x_1.1) r).toNat t30).2.2 + (1 : Int) ∧ onG go (partS r e x y !g) x_2.2 (E_bars1_2 r e y g x_1 x_2) → (decide (x_2.1 ≤ (r.getD (gidx (startP x_1.1) r).toNat T3T.d0).2.2) = true → (∃ (x_3 : Int × List Int), ((r.getD (gidx (startP
 x_1.1) r).toNat t30).1 ≤ x_3.1 ∧ x_3.1 ≤ (r.getD (gidx (startP x_1.1) r).toNat t30).2.1 ∧ onG go (partS r e x y !g) x_3.2 (List.filter (fun (i : Int) => playedB e i x_2.1) (intsF x_3.1 (r.getD (gidx (startP x_1.1) r).toNat t30).2.1) ++
 (E_bars1_1 r e y g x_1 x_2))) ∧ (r.getD (gidx (startP x_1.1) r).toNat T3T.d0).1 = x_3.1 ∧ h1 x_2.2 = h1 x_3.2 ∧ go = go) ∧ ∀ (x_3 : Int × List Int), (r.getD (gidx (startP x_1.1) r).toNat t30).1 ≤ x_3.1 ∧ x_3.1 ≤ (r.getD (gidx (startP
 x_1.1) r).toNat t30).2.1 ∧ onG go (partS r e x y !g) x_3.2 (List.filter (fun (i : Int) => playedB e i x_2.1) (intsF x_3.1 (r.getD (gidx (startP x_1.1) r).toNat t30).2.1) ++ (E_bars1_1 r e y g x_1 x_2)) → (decide (x_3.1 < (r.getD (gidx
 (startP x_1.1) r).toNat T3T.d0).2.1) = true → ((!e.any (endHit x_3.1 x_2.1)) = true → liveX go (h1 x_3.2) (x_3.1, ()) ∧ go = go) ∧ ((!e.any (endHit x_3.1 x_2.1) && !go.1 (h1 x_3.2 ++ [(x_3.1, ())])) = true → (E_bars1_3 e x_2 x_3) = gfed
 go.1 [] (h1 (partS r e x y !g)) ∧ go = go ∧ x = x ∧ y = y ∧ b = b ∧ r = r ∧ e = e ∧ j = j ∧ t = t ∧ n = n ∧ c = c ∧ g = g) ∧ ((!e.any (endHit x_3.1 x_2.1) && !go.1 (h1 x_3.2 ++ [(x_3.1, ())])) = false → InI64 (x_3.1 + (1 : Int)) ∧ ∃ (x' :
 Int × List Int), ((r.getD (gidx (startP x_1.1) r).toNat t30).1 ≤ x'.1 ∧ x'.1 ≤ (r.getD (gidx (startP x_1.1) r).toNat t30).2.1 ∧ onG go (partS r e x y !g) x'.2 (List.filter (fun (i : Int) => playedB e i x_2.1) (intsF x'.1 (r.getD (gidx
 (startP x_1.1) r).toNat t30).2.1) ++ (E_bars1_1 r e y g x_1 x_2))) ∧ ((r.getD (gidx (startP x_1.1) r).toNat t30).2.1 - x'.1).toNat < ((r.getD (gidx (startP x_1.1) r).toNat t30).2.1 - x_3.1).toNat ∧ x_3.1 + (1 : Int) = x'.1 ∧ decide (x_2.1
 ≤ (r.getD (gidx (startP x_1.1) r).toNat T3T.d0).2.2) = decide (x_2.1 ≤ (r.getD (gidx (startP x_1.1) r).toNat T3T.d0).2.2) ∧ x_2.1 = x_2.1 ∧ g = g ∧ (r.getD (gidx (startP x_1.1) r).toNat T3T.d0).2.2 = (r.getD (gidx (startP x_1.1) r).toNat
 T3T.d0).2.2 ∧ decide (gidx (startP x_1.1) r < (0 : Int)) = decide (gidx (startP x_1.1) r < (0 : Int)) ∧ gidx (startP x_1.1) r = gidx (startP x_1.1) r ∧ decide (x_1.1 < y) = decide (x_1.1 < y) ∧ (E_bars1_3 e x_2 x_3) = h1 x'.2 ∧ go = go ∧
 (r.getD (gidx (startP x_1.1) r).toNat T3T.d0).1 = (r.getD (gidx (startP x_1.1) r).toNat T3T.d0).1 ∧ (r.getD (gidx (startP x_1.1) r).toNat T3T.d0).2.1 = (r.getD (gidx (startP x_1.1) r).toNat T3T.d0).2.1 ∧ (r.getD (gidx (startP x_1.1)
 r).toNat T3T.d0).2.2 = (r.getD (gidx (startP x_1.1) r).toNat T3T.d0).2.2 ∧ x_1.1 = x_1.1 ∧ x = x ∧ y = y ∧ b = b ∧ r = r ∧ e = e ∧ j = j ∧ t = t ∧ n = n ∧ c = c ∧ g = g)) ∧ (decide (x_3.1 < (r.getD (gidx (startP x_1.1) r).toNat
 T3T.d0).2.1) = false → InI64 (x_2.1 + (1 : Int)) ∧ ∃ (x' : Int × List Int), ((firstP (r.getD (gidx (startP x_1.1) r).toNat t30) !g) ≤ x'.1 ∧ x'.1 ≤ (r.getD (gidx (startP x_1.1) r).toNat t30).2.2 + (1 : Int) ∧ onG go (partS r e x y !g)
 x'.2 (passesL e (r.getD (gidx (startP x_1.1) r).toNat t30) x'.1 ++ partS r e (r.getD (gidx (startP x_1.1) r).toNat t30).2.1 y !g)) ∧ ((r.getD (gidx (startP x_1.1) r).toNat t30).2.2 + (1 : Int) - x'.1).toNat < ((r.getD (gidx (startP x_1.1)
 r).toNat t30).2.2 + (1 : Int) - x_2.1).toNat ∧ x_2.1 + (1 : Int) = x'.1 ∧ g = g ∧ (r.getD (gidx (startP x_1.1) r).toNat T3T.d0).2.2 = (r.getD (gidx (startP x_1.1) r).toNat T3T.d0).2.2 ∧ decide (gidx (startP x_1.1) r < (0 : Int)) = decide
 (gidx (startP x_1.1) r < (0 : Int)) ∧ gidx (startP x_1.1) r = gidx (startP x_1.1) r ∧ decide (x_1.1 < y) = decide (x_1.1 < y) ∧ h1 x_3.2 = h1 x'.2 ∧ go = go ∧ (r.getD (gidx (startP x_1.1) r).toNat T3T.d0).1 = (r.getD (gidx (startP x_1.1)
 r).toNat T3T.d0).1 ∧ (r.getD (gidx (startP x_1.1) r).toNat T3T.d0).2.1 = (r.getD (gidx (startP x_1.1) r).toNat T3T.d0).2.1 ∧ (r.getD (gidx (startP x_1.1) r).toNat T3T.d0).2.2 = (r.getD (gidx (startP x_1.1) r).toNat T3T.d0).2.2 ∧ x_1.1 =
 x_1.1 ∧ x = x ∧ y = y ∧ b = b ∧ r = r ∧ e = e ∧ j = j ∧ t = t ∧ n = n ∧ c = c ∧ g = g)) ∧ (decide (x_2.1 ≤ (r.getD (gidx (startP x_1.1) r).toNat T3T.d0).2.2) = false → InI64 ((r.getD (gidx (startP x_1.1) r).toNat T3T.d0).2.1 - (1 : Int))
 ∧ InI64 ((r.getD (gidx (startP x_1.1) r).toNat T3T.d0).2.1 - (1 : Int) + (1 : Int)) ∧ ∃ (x' : Int × List Int), (x ≤ x'.1 ∧ onG go (partS r e x y !g) x'.2 (partS r e x'.1 y !g)) ∧ (y - x'.1).toNat < (y - x_1.1).toNat ∧ h1 x_2.2 = h1 x'.2 ∧
 go = go ∧ (r.getD (gidx (startP x_1.1) r).toNat T3T.d0).2.1 - (1 : Int) + (1 : Int) = x'.1 ∧ x = x ∧ y = y ∧ b = b ∧ r = r ∧ e = e ∧ j = j ∧ t = t ∧ n = n ∧ c = c ∧ g = g)))) ∧ (decide (x_1.1 < y) = false → h1 x_1.2 = gfed go.1 [] (h1
 (partS r e x y !g)) ∧ go = go ∧ x = x ∧ y = y ∧ b = b ∧ r = r ∧ e = e ∧ j = j ∧ t = t ∧ n = n ∧ c = c ∧ g = g)
def P_bars (b : Int) (r e : List T3) (j t n : Int) (c : List T3) (x y : Int) (g : Bool) : Prop :=
 coL (LV.clo (100 : FuncId) [] [((5 : Nat), (0 : Nat)), ((6 : Nat), (0 : Nat)), ((4 : Nat), (0 : Nat)), ((7 : Nat), (0 : Nat))]) (LV.clo (100 : Nat) [] [((5 : Nat), (0 : Nat)), ((6 : Nat), (0 : Nat)), ((4 : Nat), (0 : Nat)), ((7 : Nat), (0
 : Nat))]) = LV.clo (100 : FuncId) [] [((5 : Nat), (0 : Nat)), ((6 : Nat), (0 : Nat)), ((4 : Nat), (0 : Nat)), ((7 : Nat), (0 : Nat))] ∧ b = b ∧ r = r ∧ e = e ∧ j = j ∧ t = t ∧ n = n ∧ c = c ∧ x = x ∧ y = y ∧ g = g
def P_vis1 (x : Int) (l : List (Int × Int)) (hist : List (Vi × Unit)) (go : Lp (Vi × Unit)) : Prop :=
 InI64 ((mget (Ty.ti IntKind.i64).beq x l).getD (Ty.ti IntKind.i64).d0 + (1 : Int)) ∧ liveX go hist ((x, (mget (Ty.ti IntKind.i64).beq x (mput (Ty.ti IntKind.i64).beq x ((mget (Ty.ti IntKind.i64).beq x l).getD (Ty.ti IntKind.i64).d0 + (1 :
 Int)) l)).getD (Ty.ti IntKind.i64).d0), ()) ∧ go.1 (hist ++ [((x, (mget (Ty.ti IntKind.i64).beq x (mput (Ty.ti IntKind.i64).beq x ((mget (Ty.ti IntKind.i64).beq x l).getD (Ty.ti IntKind.i64).d0 + (1 : Int)) l)).getD (Ty.ti
 IntKind.i64).d0), ())]) = go.1 (snocV hist ((x, (mgetI x l).getD (0 : Int) + (1 : Int)), ())) ∧ mput (Ty.ti IntKind.i64).beq x ((mget (Ty.ti IntKind.i64).beq x l).getD (Ty.ti IntKind.i64).d0 + (1 : Int)) l = bump l x ∧ hist ++ [((x, (mget
 (Ty.ti IntKind.i64).beq x (mput (Ty.ti IntKind.i64).beq x ((mget (Ty.ti IntKind.i64).beq x l).getD (Ty.ti IntKind.i64).d0 + (1 : Int)) l)).getD (Ty.ti IntKind.i64).d0), ())] = snocV hist ((x, (mgetI x l).getD (0 : Int) + (1 : Int)), ()) ∧
 go = go
abbrev E_vis_1 (b : Int) (r : List T3) (e : List T3) (j : Int) (hist : List (Int × PUnit)) (x : Int × PUnit) :=
 ((x.1, (mgetI x.1 (cntM (partS r e (0 : Int) (untilJ b j) false ++ unI hist))).getD (0 : Int) + (1 : Int)), ())
abbrev E_vis_2 (b : Int) (r : List T3) (e : List T3) (j : Int) (hist : List (Int × PUnit)) :=
 (h1 (visS (partS r e (0 : Int) (untilJ b j) false ++ unI hist)))
abbrev E_vis_3 (hist : List (Int × PUnit)) (x : Int × PUnit) :=
 ((x.1, (mgetI x.1 (cntM (unI hist))).getD (0 : Int) + (1 : Int)), ())
abbrev E_vis_4 (b : Int) (r : List T3) (e : List T3) (j : Int) (hist : List (Int × PUnit)) (x : Int × PUnit) :=
 (partS r e (0 : Int) (untilJ b j) false ++ unI (hist ++ [x]))
abbrev E_vis_5 (b : Int) (r : List T3) (e : List T3) (j : Int) (t : Int) (n : Int) (c : List T3) (go : Lp (Vi × Unit)) :=
 (goV go (partS r e (0 : Int) (untilJ b j) false) (wholeF (b, r, e, (j, t, n), c)).length)
abbrev E_vis_6 (b : Int) (r : List T3) (e : List T3) (j : Int) (t : Int) (n : Int) (k : Nat) :=
 (partS r e (0 : Int) (untilJ b j) false ++ unI (List.take k (h1 (partS r e t n !false))))
def P_vis (b : Int) (r e : List T3) (j t n : Int) (c : List T3) (go : Lp (Vi × Unit)) : Prop :=
 ((j == (0 : Int)) = true → okParts b r (0 : Int) b ∧ (∀ (k : Nat), go.2 (h1 (visS ([] ++ unI (List.take k (h1 (partS r e (0 : Int) b !true)))))) ∧ ([] ++ unI (List.take k (h1 (partS r e (0 : Int) b !true)))).length ≤ (partS r e (0 : Int)
 (untilJ b j) false).length) ∧ goV go [] (partS r e (0 : Int) (untilJ b j) false).length = goV go [] (partS r e (0 : Int) (untilJ b j) false).length ∧ True ∧ ([] = cntM (unI []) ∧ [] = h1 (visS (unI [])) ∧ go = go) ∧ (∀ (hist : List (Int ×
 PUnit)), True → ∀ (x : Int × PUnit), liveX (goV go [] (partS r e (0 : Int) (untilJ b j) false).length) hist x → InI64 ((mgetI x.1 (cntM (unI hist))).getD (0 : Int) + (1 : Int)) ∧ liveX go (h1 (visS (unI hist))) (E_vis_3 hist x) ∧ ((!go.1
 (snocV (h1 (visS (unI hist))) (E_vis_3 hist x))) = true → (fun (α : Type) (self : Lp α) => self.1) (Vi × Unit) go (h1 (visS ([] ++ unI (hist ++ [x])))) = false ∧ True ∧ True ∧ bump (cntM (unI hist)) x.1 = cntM (unI (hist ++ [x])) ∧ snocV
 (h1 (visS (unI hist))) (E_vis_3 hist x) = h1 (visS (unI (hist ++ [x]))) ∧ go = go ∧ j = j ∧ t = t ∧ n = n ∧ LV.clo (87 : Nat) [] [((3 : Nat), (0 : Nat)), ((2 : Nat), (0 : Nat))] = LV.clo (87 : Nat) [] [((3 : Nat), (0 : Nat)), ((2 : Nat),
 (0 : Nat))] ∧ b = b ∧ r = r ∧ e = e ∧ j = j ∧ t = t ∧ n = n ∧ c = c) ∧ ((!go.1 (snocV (h1 (visS (unI hist))) (E_vis_3 hist x))) = false → (fun (α : Type) (self : Lp α) => self.1) (Vi × Unit) go (h1 (visS ([] ++ unI (hist ++ [x])))) = true
 ∧ True ∧ bump (cntM (unI hist)) x.1 = cntM (unI (hist ++ [x])) ∧ snocV (h1 (visS (unI hist))) (E_vis_3 hist x) = h1 (visS (unI (hist ++ [x]))) ∧ go = go ∧ j = j ∧ t = t ∧ n = n ∧ LV.clo (87 : Nat) [] [((3 : Nat), (0 : Nat)), ((2 : Nat),
 (0 : Nat))] = LV.clo (87 : Nat) [] [((3 : Nat), (0 : Nat)), ((2 : Nat), (0 : Nat))] ∧ b = b ∧ r = r ∧ e = e ∧ j = j ∧ t = t ∧ n = n ∧ c = c)) ∧ (True → (live (goV go [] (partS r e (0 : Int) (untilJ b j) false).length) (gfed (fun (hist :
 List (Int × Unit)) => go.1 (h1 (visS ([] ++ unI hist)))) [] (h1 (partS r e (0 : Int) b !true))) → okParts b r t n ∧ (∀ (k : Nat), go.2 (h1 (visS (E_vis_6 b r e j t n k))) ∧ (E_vis_6 b r e j t n k).length ≤ (wholeF (b, r, e, (j, t, n),
 c)).length) ∧ goV go (partS r e (0 : Int) (untilJ b j) false) (wholeF (b, r, e, (j, t, n), c)).length = goV go (partS r e (0 : Int) (untilJ b j) false) (wholeF (b, r, e, (j, t, n), c)).length ∧ live go (h1 (visS (partS r e (0 : Int)
 (untilJ b j) false))) ∧ (cntM (unI (gfed (fun (hist : List (Int × Unit)) => go.1 (h1 (visS ([] ++ unI hist)))) [] (h1 (partS r e (0 : Int) b !true)))) = cntM (partS r e (0 : Int) (untilJ b j) false ++ unI []) ∧ h1 (visS (unI (gfed (fun
 (hist : List (Int × Unit)) => go.1 (h1 (visS ([] ++ unI hist)))) [] (h1 (partS r e (0 : Int) b !true))))) = h1 (visS (partS r e (0 : Int) (untilJ b j) false ++ unI [])) ∧ go = go) ∧ (∀ (hist : List (Int × PUnit)), live go (h1 (visS (partS
 r e (0 : Int) (untilJ b j) false))) → ∀ (x : Int × PUnit), liveX (E_vis_5 b r e j t n c go) hist x → InI64 ((mgetI x.1 (cntM (partS r e (0 : Int) (untilJ b j) false ++ unI hist))).getD (0 : Int) + (1 : Int)) ∧ liveX go (E_vis_2 b r e j
 hist) (E_vis_1 b r e j hist x) ∧ ((!go.1 (snocV (E_vis_2 b r e j hist) (E_vis_1 b r e j hist x))) = true → (fun (α : Type) (self : Lp α) => self.1) (Vi × Unit) go (h1 (visS (E_vis_4 b r e j hist x))) = false ∧ live go (h1 (visS (partS r e
 (0 : Int) (untilJ b j) false))) ∧ True ∧ bump (cntM (partS r e (0 : Int) (untilJ b j) false ++ unI hist)) x.1 = cntM (E_vis_4 b r e j hist x) ∧ snocV (E_vis_2 b r e j hist) (E_vis_1 b r e j hist x) = h1 (visS (E_vis_4 b r e j hist x)) ∧
 go = go ∧ true = true ∧ b = b ∧ (0 : Int) = (0 : Int) ∧ b = b ∧ r = r ∧ e = e ∧ j = j ∧ t = t ∧ n = n ∧ c = c ∧ j = j ∧ t = t ∧ n = n ∧ LV.clo (87 : Nat) [] [((3 : Nat), (0 : Nat)), ((2 : Nat), (0 : Nat))] = LV.clo (87 : Nat) [] [((3 :
 Nat), (0 : Nat)), ((2 : Nat), (0 : Nat))] ∧ b = b ∧ r = r ∧ e = e ∧ j = j ∧ t = t ∧ n = n ∧ c = c) ∧ ((!go.1 (snocV (E_vis_2 b r e j hist) (E_vis_1 b r e j hist x))) = false → (fun (α : Type) (self : Lp α) => self.1) (Vi × Unit) go (h1
 (visS (E_vis_4 b r e j hist x))) = true ∧ live go (h1 (visS (partS r e (0 : Int) (untilJ b j) false))) ∧ bump (cntM (partS r e (0 : Int) (untilJ b j) false ++ unI hist)) x.1 = cntM (E_vis_4 b r e j hist x) ∧ snocV (E_vis_2 b r e j hist)
 (E_vis_1 b r e j hist x) = h1 (visS (E_vis_4 b r e j hist x)) ∧ go = go ∧ true = true ∧ b = b ∧ (0 : Int) = (0 : Int) ∧ b = b ∧ r = r ∧ e = e ∧ j = j ∧ t = t ∧ n = n ∧ c = c ∧ j = j ∧ t = t ∧ n = n ∧ LV.clo (87 : Nat) [] [((3 : Nat), (0 :
 Nat)), ((2 : Nat), (0 : Nat))] = LV.clo (87 : Nat) [] [((3 : Nat), (0 : Nat)), ((2 : Nat), (0 : Nat))] ∧ b = b ∧ r = r ∧ e = e ∧ j = j ∧ t = t ∧ n = n ∧ c = c)) ∧ (live go (h1 (visS (partS r e (0 : Int) (untilJ b j) false))) → (live
 (E_vis_5 b r e j t n c go) (gfed (fun (hist : List (Int × Unit)) => go.1 (E_vis_2 b r e j hist)) [] (h1 (partS r e t n !false))) → h1 (visS (partS r e (0 : Int) (untilJ b j) false ++ unI (gfed (fun (hist : List (Int × Unit)) => go.1
 (E_vis_2 b r e j hist)) [] (h1 (partS r e t n !false))))) = gfed go.1 [] (h1 (visS (wholeF (b, r, e, (j, t, n), c)))) ∧ go = go ∧ b = b ∧ r = r ∧ e = e ∧ j = j ∧ t = t ∧ n = n ∧ c = c) ∧ (¬live (E_vis_5 b r e j t n c go) (gfed (fun (hist
 : List (Int × Unit)) => go.1 (E_vis_2 b r e j hist)) [] (h1 (partS r e t n !false))) → True → h1 (visS (partS r e (0 : Int) (untilJ b j) false ++ unI (gfed (fun (hist : List (Int × Unit)) => go.1 (E_vis_2 b r e j hist)) [] (h1 (partS r e
 t n !false))))) = gfed go.1 [] (h1 (visS (wholeF (b, r, e, (j, t, n), c)))) ∧ go = go ∧ b = b ∧ r = r ∧ e = e ∧ j = j ∧ t = t ∧ n = n ∧ c = c) ∧ True)) ∧ (¬live (goV go [] (partS r e (0 : Int) (untilJ b j) false).length) (gfed (fun (hist
 : List (Int × Unit)) => go.1 (h1 (visS ([] ++ unI hist)))) [] (h1 (partS r e (0 : Int) b !true))) → True → h1 (visS (unI (gfed (fun (hist : List (Int × Unit)) => go.1 (h1 (visS ([] ++ unI hist)))) [] (h1 (partS r e (0 : Int) b !true)))))
 = gfed go.1 [] (h1 (visS (wholeF (b, r, e, (j, t, n), c)))) ∧ go = go ∧ b = b ∧ r = r ∧ e = e ∧ j = j ∧ t = t ∧ n = n ∧ c = c) ∧ True)) ∧ ((j == (0 : Int)) = false → okParts b r (0 : Int) j ∧ (∀ (k : Nat), go.2 (h1 (visS ([] ++ unI
 (List.take k (h1 (partS r e (0 : Int) j !true)))))) ∧ ([] ++ unI (List.take k (h1 (partS r e (0 : Int) j !true)))).length ≤ (partS r e (0 : Int) (untilJ b j) false).length) ∧ goV go [] (partS r e (0 : Int) (untilJ b j) false).length = goV
 go [] (partS r e (0 : Int) (untilJ b j) false).length ∧ True ∧ ([] = cntM (unI []) ∧ [] = h1 (visS (unI [])) ∧ go = go) ∧ (∀ (hist : List (Int × PUnit)), True → ∀ (x : Int × PUnit), liveX (goV go [] (partS r e (0 : Int) (untilJ b j)
 false).length) hist x → InI64 ((mgetI x.1 (cntM (unI hist))).getD (0 : Int) + (1 : Int)) ∧ liveX go (h1 (visS (unI hist))) (E_vis_3 hist x) ∧ ((!go.1 (snocV (h1 (visS (unI hist))) (E_vis_3 hist x))) = true → (fun (α : Type) (self : Lp α)
 => self.1) (Vi × Unit) go (h1 (visS ([] ++ unI (hist ++ [x])))) = false ∧ True ∧ True ∧ bump (cntM (unI hist)) x.1 = cntM (unI (hist ++ [x])) ∧ snocV (h1 (visS (unI hist))) (E_vis_3 hist x) = h1 (visS (unI (hist ++ [x]))) ∧ go = go ∧ j =
 j ∧ t = t ∧ n = n ∧ LV.clo (87 : Nat) [] [((3 : Nat), (0 : Nat)), ((2 : Nat), (0 : Nat))] = LV.clo (87 : Nat) [] [((3 : Nat), (0 : Nat)), ((2 : Nat), (0 : Nat))] ∧ b = b ∧ r = r ∧ e = e ∧ j = j ∧ t = t ∧ n = n ∧ c = c) ∧ ((!go.1 (snocV
 (h1 (visS (unI hist))) (E_vis_3 hist x))) = false → (fun (α : Type) (self : Lp α) => self.1) (Vi × Unit) go (h1 (visS ([] ++ unI (hist ++ [x])))) = true ∧ True ∧ bump (cntM (unI hist)) x.1 = cntM (unI (hist ++ [x])) ∧ snocV (h1 (visS (unI
 hist))) (E_vis_3 hist x) = h1 (visS (unI (hist ++ [x]))) ∧ go = go ∧ j = j ∧ t = t ∧ n = n ∧ LV.clo (87 : Nat) [] [((3 : Nat), (0 : Nat)), ((2 : Nat), (0 : Nat))] = LV.clo (87 : Nat) [] [((3 : Nat), (0 : Nat)), ((2 : Nat), (0 : Nat))] ∧ b
 = b ∧ r = r ∧ e = e ∧ j = j ∧ t = t ∧ n = n ∧ c = c)) ∧ (True → (live (goV go [] (partS r e (0 : Int) (untilJ b j) false).length) (gfed (fun (hist : List (Int × Unit)) => go.1 (h1 (visS ([] ++ unI hist)))) [] (h1 (partS r e (0 : Int) j
 !true))) → okParts b r t n ∧ (∀ (k : Nat), go.2 (h1 (visS (E_vis_6 b r e j t n k))) ∧ (E_vis_6 b r e j t n k).length ≤ (wholeF (b, r, e, (j, t, n), c)).length) ∧ goV go (partS r e (0 : Int) (untilJ b j) false) (wholeF (b, r, e, (j, t, n),
 c)).length = goV go (partS r e (0 : Int) (untilJ b j) false) (wholeF (b, r, e, (j, t, n), c)).length ∧ live go (h1 (visS (partS r e (0 : Int) (untilJ b j) false))) ∧ (cntM (unI (gfed (fun (hist : List (Int × Unit)) => go.1 (h1 (visS ([]
 ++ unI hist)))) [] (h1 (partS r e (0 : Int) j !true)))) = cntM (partS r e (0 : Int) (untilJ b j) false ++ unI []) ∧ h1 (visS (unI (gfed (fun (hist : List (Int × Unit)) => go.1 (h1 (visS ([] ++ unI hist)))) [] (h1 (partS r e (0 : Int) j
 !true))))) = h1 (visS (partS r e (0 : Int) (untilJ b j) false ++ unI [])) ∧ go = go) ∧ (∀ (hist : List (Int × PUnit)), live go (h1 (visS (partS r e (0 : Int) (untilJ b j) false))) → ∀ (x : Int × PUnit), liveX (E_vis_5 b r e j t n c go)
 hist x → InI64 ((mgetI x.1 (cntM (partS r e (0 : Int) (untilJ b j) false ++ unI hist))).getD (0 : Int) + (1 : Int)) ∧ liveX go (E_vis_2 b r e j hist) (E_vis_1 b r e j hist x) ∧ ((!go.1 (snocV (E_vis_2 b r e j hist) (E_vis_1 b r e j hist
 x))) = true → (fun (α : Type) (self : Lp α) => self.1) (Vi × Unit) go (h1 (visS (E_vis_4 b r e j hist x))) = false ∧ live go (h1 (visS (partS r e (0 : Int) (untilJ b j) false))) ∧ True ∧ bump (cntM (partS r e (0 : Int) (untilJ b j) false
 ++ unI hist)) x.1 = cntM (E_vis_4 b r e j hist x) ∧ snocV (E_vis_2 b r e j hist) (E_vis_1 b r e j hist x) = h1 (visS (E_vis_4 b r e j hist x)) ∧ go = go ∧ true = true ∧ j = j ∧ (0 : Int) = (0 : Int) ∧ b = b ∧ r = r ∧ e = e ∧ j = j ∧ t = t
 ∧ n = n ∧ c = c ∧ j = j ∧ t = t ∧ n = n ∧ LV.clo (87 : Nat) [] [((3 : Nat), (0 : Nat)), ((2 : Nat), (0 : Nat))] = LV.clo (87 : Nat) [] [((3 : Nat), (0 : Nat)), ((2 : Nat), (0 : Nat))] ∧ b = b ∧ r = r ∧ e = e ∧ j = j ∧ t = t ∧ n = n ∧ c =
 c) ∧ ((!go.1 (snocV (E_vis_2 b r e j hist) (E_vis_1 b r e j hist x))) = false → (fun (α : Type) (self : Lp α) => self.1) (Vi × Unit) go (h1 (visS (E_vis_4 b r e j hist x))) = true ∧ live go (h1 (visS (partS r e (0 : Int) (untilJ b j)
 false))) ∧ bump (cntM (partS r e (0 : Int) (untilJ b j) false ++ unI hist)) x.1 = cntM (E_vis_4 b r e j hist x) ∧ snocV (E_vis_2 b r e j hist) (E_vis_1 b r e j hist x) = h1 (visS (E_vis_4 b r e j hist x)) ∧ go = go ∧ true = true ∧ j = j ∧
 (0 : Int) = (0 : Int) ∧ b = b ∧ r = r ∧ e = e ∧ j = j ∧ t = t ∧ n = n ∧ c = c ∧ j = j ∧ t = t ∧ n = n ∧ LV.clo (87 : Nat) [] [((3 : Nat), (0 : Nat)), ((2 : Nat), (0 : Nat))] = LV.clo (87 : Nat) [] [((3 : Nat), (0 : Nat)), ((2 : Nat), (0 :
 Nat))] ∧ b = b ∧ r = r ∧ e = e ∧ j = j ∧ t = t ∧ n = n ∧ c = c)) ∧ (live go (h1 (visS (partS r e (0 : Int) (untilJ b j) false))) → (live (E_vis_5 b r e j t n c go) (gfed (fun (hist : List (Int × Unit)) => go.1 (E_vis_2 b r e j hist)) []
 (h1 (partS r e t n !false))) → h1 (visS (partS r e (0 : Int) (untilJ b j) false ++ unI (gfed (fun (hist : List (Int × Unit)) => go.1 (E_vis_2 b r e j hist)) [] (h1 (partS r e t n !false))))) = gfed go.1 [] (h1 (visS (wholeF (b, r, e, (j,
 t, n), c)))) ∧ go = go ∧ b = b ∧ r = r ∧ e = e ∧ j = j ∧ t = t ∧ n = n ∧ c = c) ∧ (¬live (E_vis_5 b r e j t n c go) (gfed (fun (hist : List (Int × Unit)) => go.1 (E_vis_2 b r e j hist)) [] (h1 (partS r e t n !false))) → True → h1 (visS
 (partS r e (0 : Int) (untilJ b j) false ++ unI (gfed (fun (hist : List (Int × Unit)) => go.1 (E_vis_2 b r e j hist)) [] (h1 (partS r e t n !false))))) = gfed go.1 [] (h1 (visS (wholeF (b, r, e, (j, t, n), c)))) ∧ go = go ∧ b = b ∧ r = r ∧
 e = e ∧ j = j ∧ t = t ∧ n = n ∧ c = c) ∧ True)) ∧ (¬live (goV go [] (partS r e (0 : Int) (untilJ b j) false).length) (gfed (fun (hist : List (Int × Unit)) => go.1 (h1 (visS ([] ++ unI hist)))) [] (h1 (partS r e (0 : Int) j !true))) → True
 → h1 (visS (unI (gfed (fun (hist : List (Int × Unit)) => go.1 (h1 (visS ([] ++ unI hist)))) [] (h1 (partS r e (0 : Int) j !true))))) = gfed go.1 [] (h1 (visS (wholeF (b, r, e, (j, t, n), c)))) ∧ go = go ∧ b = b ∧ r = r ∧ e = e ∧ j = j ∧ t
 = t ∧ n = n ∧ c = c) ∧ True))
def P_visits (b : Int) (r e : List T3) (j t n : Int) (c : List T3) : Prop :=
 coL (LV.clo (86 : FuncId) [] [((1 : Nat), (0 : Nat))]) (LV.clo (86 : Nat) [] [((1 : Nat), (0 : Nat))]) = LV.clo (86 : FuncId) [] [((1 : Nat), (0 : Nat))] ∧ b = b ∧ r = r ∧ e = e ∧ j = j ∧ t = t ∧ n = n ∧ c = c
def P_isShort (b : Int) (r e : List T3) (j t n : Int) (c : List T3) : Prop :=
 okForm (b, r, e, (j, t, n), c) = true ∧ (∀ (k : Nat), (List.take k (h1 (visS (wholeF (b, r, e, (j, t, n), c))))).length ≤ (1000000 : Nat)) ∧ goShort = goShort ∧ True ∧ ((0 : Int) = (↑(0 : Nat) : Int) ∧ false = false) ∧ (∀ (hist : List
 ((Int × Int) × PUnit)), True → ∀ (x : (Int × Int) × PUnit), liveX goShort hist x → InI64 ((↑hist.length : Int) + (1 : Int)) ∧ (decide ((↑hist.length : Int) + (1 : Int) > (20000 : Int)) = true → decide ((hist ++ [x]).length ≤ (20000 :
 Nat)) = false ∧ True ∧ True ∧ (↑hist.length : Int) + (1 : Int) = (↑(hist ++ [x]).length : Int) ∧ false = false ∧ b = b ∧ r = r ∧ e = e ∧ j = j ∧ t = t ∧ n = n ∧ c = c) ∧ (decide ((↑hist.length : Int) + (1 : Int) > (20000 : Int)) = false →
 decide ((hist ++ [x]).length ≤ (20000 : Nat)) = true ∧ True ∧ (↑hist.length : Int) + (1 : Int) = (↑(hist ++ [x]).length : Int) ∧ false = false ∧ b = b ∧ r = r ∧ e = e ∧ j = j ∧ t = t ∧ n = n ∧ c = c)) ∧ (True → (live goShort (gfed (fun
 (hist : List (Vi × Unit)) => decide (hist.length ≤ (20000 : Nat))) [] (h1 (visS (wholeF (b, r, e, (j, t, n), c))))) → true = shortF (b, r, e, (j, t, n), c)) ∧ (¬live goShort (gfed (fun (hist : List (Vi × Unit)) => decide (hist.length ≤
 (20000 : Nat))) [] (h1 (visS (wholeF (b, r, e, (j, t, n), c))))) → True → false = shortF (b, r, e, (j, t, n), c)) ∧ True)
def P_valid (b : Int) (r e : List T3) (j t n : Int) (c : List T3) : Prop :=
 ((decide (b ≥ (1 : Int)) && decide (b ≤ (4000 : Int)) && repsB r b && endsB r e && jumpB b r j t n && cutsB b c) = true → okForm (b, r, e, (j, t, n), c) = true) ∧ (decide (b ≥ (1 : Int)) && decide (b ≤ (4000 : Int)) && repsB r b && endsB
 r e && jumpB b r j t n && cutsB b c && shortF (b, r, e, (j, t, n), c)) = validF (b, r, e, (j, t, n), c)
def P_idxCu (l : List T3) (x y z : Int) : Prop :=
 (↑l.length : Int) ≤ (9223372036854775807 : Int) → (∃ (x_1 : Nat), (x_1 ≤ l.length ∧ ∀ (i : Nat), i < x_1 → l.getD i t30 ≠ (x, y, z)) ∧ (0 : Int) = (↑x_1 : Int)) ∧ ∀ (x_1 : Nat), (x_1 ≤ l.length ∧ ∀ (i : Nat), i < x_1 → l.getD i t30 ≠ (x,
 y, z)) → (decide ((↑x_1 : Int) < (↑l.length : Int)) = true → (0 : Int) ≤ (↑x_1 : Int) ∧ (↑x_1 : Int) < (↑l.length : Int) ∧ ((x == (l.getD (↑x_1 : Int).toNat T3T.d0).1 && (y == (l.getD (↑x_1 : Int).toNat T3T.d0).2.1 && z == (l.getD (↑x_1 :
 Int).toNat T3T.d0).2.2)) = true → (↑x_1 : Int) = gidx (isC (x, y, z)) l) ∧ ((x == (l.getD (↑x_1 : Int).toNat T3T.d0).1 && (y == (l.getD (↑x_1 : Int).toNat T3T.d0).2.1 && z == (l.getD (↑x_1 : Int).toNat T3T.d0).2.2)) = false → InI64 ((↑x_1
 : Int) + (1 : Int)) ∧ ∃ (x' : Nat), (x' ≤ l.length ∧ ∀ (i : Nat), i < x' → l.getD i t30 ≠ (x, y, z)) ∧ l.length - x' < l.length - x_1 ∧ (↑x_1 : Int) + (1 : Int) = (↑x' : Int) ∧ (↑l.length : Int) = (↑l.length : Int) ∧ l = l ∧ x = x ∧ y = y
 ∧ z = z ∧ x = x ∧ y = y ∧ z = z)) ∧ (decide ((↑x_1 : Int) < (↑l.length : Int)) = false → (-1 : Int) = gidx (isC (x, y, z)) l)
def P_contC (l : List T3) (x y z : Int) : Prop :=
 decide (gidx (isC (x, y, z)) l ≥ (0 : Int)) = l.any (isC (x, y, z))
def P_rWithin (r : List T3) (x : Int) : Prop :=
 (∃ (x_1 : Nat), (x_1 ≤ r.length ∧ ∀ (i : Nat), i < x_1 → inP x (r.getD i t30) = false) ∧ (0 : Int) = (↑x_1 : Int)) ∧ ∀ (x_1 : Nat), (x_1 ≤ r.length ∧ ∀ (i : Nat), i < x_1 → inP x (r.getD i t30) = false) → (↑r.length : Int) ≤
 (9223372036854775807 : Int) → (decide ((↑x_1 : Int) < (↑r.length : Int)) = true → (0 : Int) ≤ (↑x_1 : Int) ∧ (↑x_1 : Int) < (↑r.length : Int) ∧ (decide ((r.getD (↑x_1 : Int).toNat T3T.d0).1 < x) = true → (0 : Int) ≤ (↑x_1 : Int) ∧ (↑x_1 :
 Int) < (↑r.length : Int)) ∧ ((decide ((r.getD (↑x_1 : Int).toNat T3T.d0).1 < x) && decide (x < (r.getD (↑x_1 : Int).toNat T3T.d0).2.1)) = true → true = withinB r x) ∧ ((decide ((r.getD (↑x_1 : Int).toNat T3T.d0).1 < x) && decide (x <
 (r.getD (↑x_1 : Int).toNat T3T.d0).2.1)) = false → InI64 ((↑x_1 : Int) + (1 : Int)) ∧ ∃ (x' : Nat), (x' ≤ r.length ∧ ∀ (i : Nat), i < x' → inP x (r.getD i t30) = false) ∧ r.length - x' < r.length - x_1 ∧ (↑x_1 : Int) + (1 : Int) = (↑x' :
 Int) ∧ r = r ∧ x = x)) ∧ (decide ((↑x_1 : Int) < (↑r.length : Int)) = false → false = withinB r x)
abbrev E_rRepeats_1 (r : List T3) (b : Int) (x : Nat) :=
 (decide ((r.getD (↑x : Int).toNat T3T.d0).1 < lastT r x) || decide ((r.getD (↑x : Int).toNat T3T.d0).1 ≥ (r.getD (↑x : Int).toNat T3T.d0).2.1) || decide ((r.getD (↑x : Int).toNat T3T.d0).2.1 > b) || decide ((r.getD (↑x : Int).toNat
 T3T.d0).2.2 < (1 : Int)) || decide ((r.getD (↑x : Int).toNat T3T.d0).2.2 > (9 : Int)))
def P_rRepeats (r : List T3) (b : Int) : Prop :=
 (↑r.length : Int) ≤ (9223372036854775807 : Int) → (decide ((↑r.length : Int) > (100 : Int)) = true → false = repsB r b) ∧ (decide ((↑r.length : Int) > (100 : Int)) = false → (∃ (x : Nat), (x ≤ r.length ∧ repsFrom b (0 : Int) r = repsFrom
 b (lastT r x) (List.drop x r)) ∧ (0 : Int) = (↑x : Int) ∧ (0 : Int) = lastT r x) ∧ ∀ (x : Nat), x ≤ r.length ∧ repsFrom b (0 : Int) r = repsFrom b (lastT r x) (List.drop x r) → (↑r.length : Int) ≤ (9223372036854775807 : Int) → (decide
 ((↑x : Int) < (↑r.length : Int)) = true → (0 : Int) ≤ (↑x : Int) ∧ (↑x : Int) < (↑r.length : Int) ∧ (decide ((r.getD (↑x : Int).toNat T3T.d0).1 < lastT r x) = false → (0 : Int) ≤ (↑x : Int) ∧ (↑x : Int) < (↑r.length : Int)) ∧ (decide
 ((r.getD (↑x : Int).toNat T3T.d0).1 < lastT r x) = false → (0 : Int) ≤ (↑x : Int) ∧ (↑x : Int) < (↑r.length : Int)) ∧ ((decide ((r.getD (↑x : Int).toNat T3T.d0).1 < lastT r x) || decide ((r.getD (↑x : Int).toNat T3T.d0).1 ≥ (r.getD (↑x :
 Int).toNat T3T.d0).2.1)) = false → (0 : Int) ≤ (↑x : Int) ∧ (↑x : Int) < (↑r.length : Int)) ∧ ((decide ((r.getD (↑x : Int).toNat T3T.d0).1 < lastT r x) || decide ((r.getD (↑x : Int).toNat T3T.d0).1 ≥ (r.getD (↑x : Int).toNat T3T.d0).2.1)
 || decide ((r.getD (↑x : Int).toNat T3T.d0).2.1 > b)) = false → (0 : Int) ≤ (↑x : Int) ∧ (↑x : Int) < (↑r.length : Int)) ∧ ((decide ((r.getD (↑x : Int).toNat T3T.d0).1 < lastT r x) || decide ((r.getD (↑x : Int).toNat T3T.d0).1 ≥ (r.getD
 (↑x : Int).toNat T3T.d0).2.1) || decide ((r.getD (↑x : Int).toNat T3T.d0).2.1 > b) || decide ((r.getD (↑x : Int).toNat T3T.d0).2.2 < (1 : Int))) = false → (0 : Int) ≤ (↑x : Int) ∧ (↑x : Int) < (↑r.length : Int)) ∧ ((E_rRepeats_1 r b x) =
 true → false = repsB r b) ∧ ((E_rRepeats_1 r b x) = false → (0 : Int) ≤ (↑x : Int) ∧ (↑x : Int) < (↑r.length : Int) ∧ InI64 ((↑x : Int) + (1 : Int)) ∧ ∃ (x' : Nat), (x' ≤ r.length ∧ repsFrom b (0 : Int) r = repsFrom b (lastT r x')
 (List.drop x' r)) ∧ r.length - x' < r.length - x ∧ (↑x : Int) + (1 : Int) = (↑x' : Int) ∧ (r.getD (↑x : Int).toNat T3T.d0).2.1 = lastT r x' ∧ decide ((↑r.length : Int) > (100 : Int)) = decide ((↑r.length : Int) > (100 : Int)) ∧ r = r ∧ b
 = b)) ∧ (decide ((↑x : Int) < (↑r.length : Int)) = false → true = repsB r b))
def P_rInside (r : List T3) (x y : Int) : Prop :=
 (∃ (x_1 : Nat), (x_1 ≤ r.length ∧ ∀ (i : Nat), i < x_1 → coverP x y (r.getD i t30) = false) ∧ (0 : Int) = (↑x_1 : Int)) ∧ ∀ (x_1 : Nat), (x_1 ≤ r.length ∧ ∀ (i : Nat), i < x_1 → coverP x y (r.getD i t30) = false) → (↑r.length : Int) ≤
 (9223372036854775807 : Int) → (decide ((↑x_1 : Int) < (↑r.length : Int)) = true → (0 : Int) ≤ (↑x_1 : Int) ∧ (↑x_1 : Int) < (↑r.length : Int) ∧ (decide ((r.getD (↑x_1 : Int).toNat T3T.d0).1 ≤ x) = true → (0 : Int) ≤ (↑x_1 : Int) ∧ (↑x_1 :
 Int) < (↑r.length : Int)) ∧ ((decide ((r.getD (↑x_1 : Int).toNat T3T.d0).1 ≤ x) && decide (y ≤ (r.getD (↑x_1 : Int).toNat T3T.d0).2.1)) = true → true = insideB r x y) ∧ ((decide ((r.getD (↑x_1 : Int).toNat T3T.d0).1 ≤ x) && decide (y ≤
 (r.getD (↑x_1 : Int).toNat T3T.d0).2.1)) = false → InI64 ((↑x_1 : Int) + (1 : Int)) ∧ ∃ (x' : Nat), (x' ≤ r.length ∧ ∀ (i : Nat), i < x' → coverP x y (r.getD i t30) = false) ∧ r.length - x' < r.length - x_1 ∧ (↑x_1 : Int) + (1 : Int) =
 (↑x' : Int) ∧ r = r ∧ x = x ∧ y = y)) ∧ (decide ((↑x_1 : Int) < (↑r.length : Int)) = false → false = insideB r x y)
abbrev E_rEndings_1 (r : List T3) (e : List T3) (x : Nat) :=
 (decide ((e.getD (↑x : Int).toNat T3T.d0).1 < lastT e x) || decide ((e.getD (↑x : Int).toNat T3T.d0).1 ≥ (e.getD (↑x : Int).toNat T3T.d0).2.1) || !insideB r (e.getD (↑x : Int).toNat T3T.d0).1 (e.getD (↑x : Int).toNat T3T.d0).2.1 || decide
 ((e.getD (↑x : Int).toNat T3T.d0).2.2 < (1 : Int)) || decide ((e.getD (↑x : Int).toNat T3T.d0).2.2 > (9 : Int)))
def P_rEndings (b : Int) (r e : List T3) (j t n : Int) (c : List T3) : Prop :=
 (↑e.length : Int) ≤ (9223372036854775807 : Int) → (decide ((↑e.length : Int) > (100 : Int)) = true → false = endsB r e) ∧ (decide ((↑e.length : Int) > (100 : Int)) = false → (∃ (x : Nat), (x ≤ e.length ∧ endsFrom r (0 : Int) e = endsFrom
 r (lastT e x) (List.drop x e)) ∧ (0 : Int) = (↑x : Int) ∧ (0 : Int) = lastT e x) ∧ ∀ (x : Nat), x ≤ e.length ∧ endsFrom r (0 : Int) e = endsFrom r (lastT e x) (List.drop x e) → (↑e.length : Int) ≤ (9223372036854775807 : Int) → (decide
 ((↑x : Int) < (↑e.length : Int)) = true → (0 : Int) ≤ (↑x : Int) ∧ (↑x : Int) < (↑e.length : Int) ∧ ((E_rEndings_1 r e x) = true → false = endsB r e) ∧ ((E_rEndings_1 r e x) = false → InI64 ((↑x : Int) + (1 : Int)) ∧ ∃ (x' : Nat), (x' ≤
 e.length ∧ endsFrom r (0 : Int) e = endsFrom r (lastT e x') (List.drop x' e)) ∧ e.length - x' < e.length - x ∧ (↑x : Int) + (1 : Int) = (↑x' : Int) ∧ (e.getD (↑x : Int).toNat T3T.d0).2.1 = lastT e x' ∧ decide ((↑e.length : Int) > (100 :
 Int)) = decide ((↑e.length : Int) > (100 : Int)) ∧ b = b ∧ r = r ∧ e = e ∧ j = j ∧ t = t ∧ n = n ∧ c = c ∧ b = b ∧ r = r ∧ e = e ∧ j = j ∧ t = t ∧ n = n ∧ c = c)) ∧ (decide ((↑x : Int) < (↑e.length : Int)) = false → true = endsB r e))
def P_rJump (b : Int) (r e : List T3) (j t n : Int) (c : List T3) : Prop :=
 ((j == (0 : Int) && (t == (0 : Int) && n == (0 : Int))) = true → true = jumpB b r j t n) ∧ ((j == (0 : Int) && (t == (0 : Int) && n == (0 : Int))) = false → ((decide (j < (1 : Int)) || decide (j > b) || decide (t < (0 : Int)) || decide (t
 ≥ j) || decide (n ≤ t) || decide (n > b)) = true → false = jumpB b r j t n) ∧ ((decide (j < (1 : Int)) || decide (j > b) || decide (t < (0 : Int)) || decide (t ≥ j) || decide (n ≤ t) || decide (n > b)) = false → (!withinB r j && !withinB
 r t && !withinB r n) = jumpB b r j t n))
def P_rCut1 (b : Int) (r e : List T3) (j t n : Int) (c : List T3) (x y z : Int) : Prop :=
 (decide (x ≥ (0 : Int)) && decide (x < y) && decide (y ≤ b) && decide (z ≥ (0 : Int)) && decide (z ≤ (20 : Int))) = cutB b (x, y, z)
def P_rHas (l : List T3) (x y z : Int) : Prop :=
 (∃ (x_1 : Nat), (x_1 ≤ l.length ∧ ∀ (i : Nat), i < x_1 → l.getD i t30 ≠ (x, y, z)) ∧ (0 : Int) = (↑x_1 : Int)) ∧ ∀ (x_1 : Nat), (x_1 ≤ l.length ∧ ∀ (i : Nat), i < x_1 → l.getD i t30 ≠ (x, y, z)) → (↑l.length : Int) ≤ (9223372036854775807
 : Int) → (decide ((↑x_1 : Int) < (↑l.length : Int)) = true → (0 : Int) ≤ (↑x_1 : Int) ∧ (↑x_1 : Int) < (↑l.length : Int) ∧ (((l.getD (↑x_1 : Int).toNat T3T.d0).1 == x && ((l.getD (↑x_1 : Int).toNat T3T.d0).2.1 == y && (l.getD (↑x_1 :
 Int).toNat T3T.d0).2.2 == z)) = true → (↑x_1 : Int) = gidx (isC (x, y, z)) l) ∧ (((l.getD (↑x_1 : Int).toNat T3T.d0).1 == x && ((l.getD (↑x_1 : Int).toNat T3T.d0).2.1 == y && (l.getD (↑x_1 : Int).toNat T3T.d0).2.2 == z)) = false → InI64
 ((↑x_1 : Int) + (1 : Int)) ∧ ∃ (x' : Nat), (x' ≤ l.length ∧ ∀ (i : Nat), i < x' → l.getD i t30 ≠ (x, y, z)) ∧ l.length - x' < l.length - x_1 ∧ (↑x_1 : Int) + (1 : Int) = (↑x' : Int) ∧ l = l ∧ x = x ∧ y = y ∧ z = z ∧ x = x ∧ y = y ∧ z =
 z)) ∧ (decide ((↑x_1 : Int) < (↑l.length : Int)) = false → (-1 : Int) = gidx (isC (x, y, z)) l)
def P_rPlayed (b : Int) (r e : List T3) (j t n : Int) (c : List T3) (x y : Int) : Prop :=
 (∃ (x_1 : Nat), (x_1 ≤ e.length ∧ ∀ (i : Nat), i < x_1 → endHit x y (e.getD i t30) = false) ∧ (0 : Int) = (↑x_1 : Int)) ∧ ∀ (x_1 : Nat), (x_1 ≤ e.length ∧ ∀ (i : Nat), i < x_1 → endHit x y (e.getD i t30) = false) → (↑e.length : Int) ≤
 (9223372036854775807 : Int) → (decide ((↑x_1 : Int) < (↑e.length : Int)) = true → (0 : Int) ≤ (↑x_1 : Int) ∧ (↑x_1 : Int) < (↑e.length : Int) ∧ ((decide ((e.getD (↑x_1 : Int).toNat T3T.d0).1 ≤ x) && decide (x < (e.getD (↑x_1 : Int).toNat
 T3T.d0).2.1) && (e.getD (↑x_1 : Int).toNat T3T.d0).2.2 != y) = true → false = playedB e x y) ∧ ((decide ((e.getD (↑x_1 : Int).toNat T3T.d0).1 ≤ x) && decide (x < (e.getD (↑x_1 : Int).toNat T3T.d0).2.1) && (e.getD (↑x_1 : Int).toNat
 T3T.d0).2.2 != y) = false → InI64 ((↑x_1 : Int) + (1 : Int)) ∧ ∃ (x' : Nat), (x' ≤ e.length ∧ ∀ (i : Nat), i < x' → endHit x y (e.getD i t30) = false) ∧ e.length - x' < e.length - x_1 ∧ (↑x_1 : Int) + (1 : Int) = (↑x' : Int) ∧ b = b ∧ r =
 r ∧ e = e ∧ j = j ∧ t = t ∧ n = n ∧ c = c ∧ x = x ∧ y = y ∧ b = b ∧ r = r ∧ e = e ∧ j = j ∧ t = t ∧ n = n ∧ c = c)) ∧ (decide ((↑x_1 : Int) < (↑e.length : Int)) = false → true = playedB e x y)
def P_rStarts (b : Int) (r e : List T3) (j t n : Int) (c : List T3) (x : Int) : Prop :=
 (∃ (x_1 : Nat), (x_1 ≤ r.length ∧ ∀ (i : Nat), i < x_1 → startP x (r.getD i t30) = false) ∧ (0 : Int) = (↑x_1 : Int)) ∧ ∀ (x_1 : Nat), (x_1 ≤ r.length ∧ ∀ (i : Nat), i < x_1 → startP x (r.getD i t30) = false) → (↑r.length : Int) ≤
 (9223372036854775807 : Int) → (decide ((↑x_1 : Int) < (↑r.length : Int)) = true → (0 : Int) ≤ (↑x_1 : Int) ∧ (↑x_1 : Int) < (↑r.length : Int) ∧ (((r.getD (↑x_1 : Int).toNat T3T.d0).1 == x) = true → (↑x_1 : Int) = gidx (startP x) r) ∧
 (((r.getD (↑x_1 : Int).toNat T3T.d0).1 == x) = false → InI64 ((↑x_1 : Int) + (1 : Int)) ∧ ∃ (x' : Nat), (x' ≤ r.length ∧ ∀ (i : Nat), i < x' → startP x (r.getD i t30) = false) ∧ r.length - x' < r.length - x_1 ∧ (↑x_1 : Int) + (1 : Int) =
 (↑x' : Int) ∧ b = b ∧ r = r ∧ e = e ∧ j = j ∧ t = t ∧ n = n ∧ c = c ∧ x = x ∧ b = b ∧ r = r ∧ e = e ∧ j = j ∧ t = t ∧ n = n ∧ c = c)) ∧ (decide ((↑x_1 : Int) < (↑r.length : Int)) = false → (-1 : Int) = gidx (startP x) r)
abbrev E_rPart_1 (r : List T3) (e : List T3) (y : Int) (g : Bool) (x_1 : Int × List Int) (x_2 : Int × List Int) :=
 (passesL e (r.getD (gidx (startP x_1.1) r).toNat t30) (x_2.1 + (1 : Int)) ++ partS r e (r.getD (gidx (startP x_1.1) r).toNat t30).2.1 y g)
abbrev E_rPart_2 (r : List T3) (e : List T3) (y : Int) (g : Bool) (x_1 : Int × List Int) (x_2 : Int × List Int) :=
 (passesL e (r.getD (gidx (startP x_1.1) r).toNat t30) x_2.1 ++ partS r e (r.getD (gidx (startP x_1.1) r).toNat t30).2.1 y g)
def P_rPart (b : Int) (r e : List T3) (j t n : Int) (c : List T3) (x y : Int) (g : Bool) : Prop :=
 (∃ (x_1 : Int × List Int), (x ≤ x_1.1 ∧ x_1.2 ++ partS r e x_1.1 y g = partS r e x y g) ∧ x = x_1.1 ∧ [] = x_1.2 ∧ (0 : Nat) = x_1.2.length) ∧ ∀ (x_1 : Int × List Int), x ≤ x_1.1 ∧ x_1.2 ++ partS r e x_1.1 y g = partS r e x y g → (decide
 (x_1.1 < y) = true → (decide (gidx (startP x_1.1) r < (0 : Int)) = true → x_1.2.length = x_1.2.length ∧ (x_1.2.length + ((0 : Nat) + (1 : Nat))) * (8 : Nat) ≤ (140737488355328 : Nat) ∧ InI64 (x_1.1 + (1 : Int)) ∧ ∃ (x' : Int × List Int),
 (x ≤ x'.1 ∧ x'.2 ++ partS r e x'.1 y g = partS r e x y g) ∧ (y - x'.1).toNat < (y - x_1.1).toNat ∧ x_1.1 + (1 : Int) = x'.1 ∧ x_1.2 ++ [x_1.1] = x'.2 ∧ nl Int = nl Int ∧ b = b ∧ r = r ∧ e = e ∧ j = j ∧ t = t ∧ n = n ∧ c = c ∧ x = x ∧ y =
 y ∧ g = g ∧ x_1.2.length + ((0 : Nat) + (1 : Nat)) = x'.2.length ∧ (0 : Nat) = (0 : Nat) ∧ b = b ∧ r = r ∧ e = e ∧ j = j ∧ t = t ∧ n = n ∧ c = c) ∧ (decide (gidx (startP x_1.1) r < (0 : Int)) = false → (0 : Int) ≤ gidx (startP x_1.1) r ∧
 gidx (startP x_1.1) r < (↑r.length : Int) ∧ (g = true → (∃ (x_2 : Int × List Int), (firstP (r.getD (gidx (startP x_1.1) r).toNat t30) g ≤ x_2.1 ∧ x_2.1 ≤ (r.getD (gidx (startP x_1.1) r).toNat t30).2.2 + (1 : Int) ∧ x_2.2 ++ (E_rPart_2 r e
 y g x_1 x_2) = partS r e x y g) ∧ (r.getD (gidx (startP x_1.1) r).toNat T3T.d0).2.2 = x_2.1 ∧ x_1.2 = x_2.2 ∧ x_1.2.length = x_2.2.length) ∧ ∀ (x_2 : Int × List Int), firstP (r.getD (gidx (startP x_1.1) r).toNat t30) g ≤ x_2.1 ∧ x_2.1 ≤
 (r.getD (gidx (startP x_1.1) r).toNat t30).2.2 + (1 : Int) ∧ x_2.2 ++ (E_rPart_2 r e y g x_1 x_2) = partS r e x y g → (decide (x_2.1 ≤ (r.getD (gidx (startP x_1.1) r).toNat T3T.d0).2.2) = true → (∃ (x_3 : Int × List Int), ((r.getD (gidx
 (startP x_1.1) r).toNat t30).1 ≤ x_3.1 ∧ x_3.1 ≤ (r.getD (gidx (startP x_1.1) r).toNat t30).2.1 ∧ x_3.2 ++ (List.filter (fun (i : Int) => playedB e i x_2.1) (intsF x_3.1 (r.getD (gidx (startP x_1.1) r).toNat t30).2.1) ++ (E_rPart_1 r e y
 g x_1 x_2)) = partS r e x y g) ∧ (r.getD (gidx (startP x_1.1) r).toNat T3T.d0).1 = x_3.1 ∧ x_2.2 = x_3.2 ∧ x_2.2.length = x_3.2.length) ∧ ∀ (x_3 : Int × List Int), (r.getD (gidx (startP x_1.1) r).toNat t30).1 ≤ x_3.1 ∧ x_3.1 ≤ (r.getD
 (gidx (startP x_1.1) r).toNat t30).2.1 ∧ x_3.2 ++ (List.filter (fun (i : Int) => playedB e i x_2.1) (intsF x_3.1 (r.getD (gidx (startP x_1.1) r).toNat t30).2.1) ++ (E_rPart_1 r e y g x_1 x_2)) = partS r e x y g → (decide (x_3.1 < (r.getD
 (gidx (startP x_1.1) r).toNat T3T.d0).2.1) = true → (playedB e x_3.1 x_2.1 = true → x_3.2.length = x_3.2.length ∧ (x_3.2.length + ((0 : Nat) + (1 : Nat))) * (8 : Nat) ≤ (140737488355328 : Nat) ∧ InI64 (x_3.1 + (1 : Int)) ∧ ∃ (x' : Int ×
 List Int), ((r.getD (gidx (startP x_1.1) r).toNat t30).1 ≤ x'.1 ∧ x'.1 ≤ (r.getD (gidx (startP x_1.1) r).toNat t30).2.1 ∧ x'.2 ++ (List.filter (fun (i : Int) => playedB e i x_2.1) (intsF x'.1 (r.getD (gidx (startP x_1.1) r).toNat
 t30).2.1) ++ (E_rPart_1 r e y g x_1 x_2)) = partS r e x y g) ∧ ((r.getD (gidx (startP x_1.1) r).toNat t30).2.1 - x'.1).toNat < ((r.getD (gidx (startP x_1.1) r).toNat t30).2.1 - x_3.1).toNat ∧ x_3.1 + (1 : Int) = x'.1 ∧ x_3.2 ++ [x_3.1] =
 x'.2 ∧ decide (x_2.1 ≤ (r.getD (gidx (startP x_1.1) r).toNat T3T.d0).2.2) = decide (x_2.1 ≤ (r.getD (gidx (startP x_1.1) r).toNat T3T.d0).2.2) ∧ x_2.1 = x_2.1 ∧ (r.getD (gidx (startP x_1.1) r).toNat T3T.d0).2.2 = (r.getD (gidx (startP
 x_1.1) r).toNat T3T.d0).2.2 ∧ g = g ∧ decide (gidx (startP x_1.1) r < (0 : Int)) = decide (gidx (startP x_1.1) r < (0 : Int)) ∧ gidx (startP x_1.1) r = gidx (startP x_1.1) r ∧ decide (x_1.1 < y) = decide (x_1.1 < y) ∧ x_1.1 = x_1.1 ∧ nl
 Int = nl Int ∧ b = b ∧ r = r ∧ e = e ∧ j = j ∧ t = t ∧ n = n ∧ c = c ∧ x = x ∧ y = y ∧ g = g ∧ x_3.2.length + ((0 : Nat) + (1 : Nat)) = x'.2.length ∧ (r.getD (gidx (startP x_1.1) r).toNat T3T.d0).1 = (r.getD (gidx (startP x_1.1) r).toNat
 T3T.d0).1 ∧ (r.getD (gidx (startP x_1.1) r).toNat T3T.d0).2.1 = (r.getD (gidx (startP x_1.1) r).toNat T3T.d0).2.1 ∧ (r.getD (gidx (startP x_1.1) r).toNat T3T.d0).2.2 = (r.getD (gidx (startP x_1.1) r).toNat T3T.d0).2.2 ∧ (0 : Nat) = (0 :
 Nat) ∧ b = b ∧ r = r ∧ e = e ∧ j = j ∧ t = t ∧ n = n ∧ c = c) ∧ (playedB e x_3.1 x_2.1 = false → InI64 (x_3.1 + (1 : Int)) ∧ ∃ (x' : Int × List Int), ((r.getD (gidx (startP x_1.1) r).toNat t30).1 ≤ x'.1 ∧ x'.1 ≤ (r.getD (gidx (startP
 x_1.1) r).toNat t30).2.1 ∧ x'.2 ++ (List.filter (fun (i : Int) => playedB e i x_2.1) (intsF x'.1 (r.getD (gidx (startP x_1.1) r).toNat t30).2.1) ++ (E_rPart_1 r e y g x_1 x_2)) = partS r e x y g) ∧ ((r.getD (gidx (startP x_1.1) r).toNat
 t30).2.1 - x'.1).toNat < ((r.getD (gidx (startP x_1.1) r).toNat t30).2.1 - x_3.1).toNat ∧ x_3.1 + (1 : Int) = x'.1 ∧ x_3.2 = x'.2 ∧ decide (x_2.1 ≤ (r.getD (gidx (startP x_1.1) r).toNat T3T.d0).2.2) = decide (x_2.1 ≤ (r.getD (gidx (startP
 x_1.1) r).toNat T3T.d0).2.2) ∧ x_2.1 = x_2.1 ∧ (r.getD (gidx (startP x_1.1) r).toNat T3T.d0).2.2 = (r.getD (gidx (startP x_1.1) r).toNat T3T.d0).2.2 ∧ g = g ∧ decide (gidx (startP x_1.1) r < (0 : Int)) = decide (gidx (startP x_1.1) r < (0
 : Int)) ∧ gidx (startP x_1.1) r = gidx (startP x_1.1) r ∧ decide (x_1.1 < y) = decide (x_1.1 < y) ∧ x_1.1 = x_1.1 ∧ nl Int = nl Int ∧ b = b ∧ r = r ∧ e = e ∧ j = j ∧ t = t ∧ n = n ∧ c = c ∧ x = x ∧ y = y ∧ g = g ∧ x_3.2.length =
 x'.2.length ∧ (r.getD (gidx (startP x_1.1) r).toNat T3T.d0).1 = (r.getD (gidx (startP x_1.1) r).toNat T3T.d0).1 ∧ (r.getD (gidx (startP x_1.1) r).toNat T3T.d0).2.1 = (r.getD (gidx (startP x_1.1) r).toNat T3T.d0).2.1 ∧ (r.getD (gidx
 (startP x_1.1) r).toNat T3T.d0).2.2 = (r.getD (gidx (startP x_1.1) r).toNat T3T.d0).2.2 ∧ (0 : Nat) = (0 : Nat) ∧ b = b ∧ r = r ∧ e = e ∧ j = j ∧ t = t ∧ n = n ∧ c = c)) ∧ (decide (x_3.1 < (r.getD (gidx (startP x_1.1) r).toNat
 T3T.d0).2.1) = false → InI64 (x_2.1 + (1 : Int)) ∧ ∃ (x' : Int × List Int), (firstP (r.getD (gidx (startP x_1.1) r).toNat t30) g ≤ x'.1 ∧ x'.1 ≤ (r.getD (gidx (startP x_1.1) r).toNat t30).2.2 + (1 : Int) ∧ x'.2 ++ (passesL e (r.getD (gidx
 (startP x_1.1) r).toNat t30) x'.1 ++ partS r e (r.getD (gidx (startP x_1.1) r).toNat t30).2.1 y g) = partS r e x y g) ∧ ((r.getD (gidx (startP x_1.1) r).toNat t30).2.2 + (1 : Int) - x'.1).toNat < ((r.getD (gidx (startP x_1.1) r).toNat
 t30).2.2 + (1 : Int) - x_2.1).toNat ∧ x_2.1 + (1 : Int) = x'.1 ∧ x_3.2 = x'.2 ∧ (r.getD (gidx (startP x_1.1) r).toNat T3T.d0).2.2 = (r.getD (gidx (startP x_1.1) r).toNat T3T.d0).2.2 ∧ g = g ∧ decide (gidx (startP x_1.1) r < (0 : Int)) =
 decide (gidx (startP x_1.1) r < (0 : Int)) ∧ gidx (startP x_1.1) r = gidx (startP x_1.1) r ∧ decide (x_1.1 < y) = decide (x_1.1 < y) ∧ x_1.1 = x_1.1 ∧ nl Int = nl Int ∧ b = b ∧ r = r ∧ e = e ∧ j = j ∧ t = t ∧ n = n ∧ c = c ∧ x = x ∧ y = y
 ∧ g = g ∧ x_3.2.length = x'.2.length ∧ (r.getD (gidx (startP x_1.1) r).toNat T3T.d0).1 = (r.getD (gidx (startP x_1.1) r).toNat T3T.d0).1 ∧ (r.getD (gidx (startP x_1.1) r).toNat T3T.d0).2.1 = (r.getD (gidx (startP x_1.1) r).toNat
 T3T.d0).2.1 ∧ (r.getD (gidx (startP x_1.1) r).toNat T3T.d0).2.2 = (r.getD (gidx (startP x_1.1) r).toNat T3T.d0).2.2 ∧ (0 : Nat) = (0 : Nat) ∧ b = b ∧ r = r ∧ e = e ∧ j = j ∧ t = t ∧ n = n ∧ c = c)) ∧ (decide (x_2.1 ≤ (r.getD (gidx (startP
 x_1.1) r).toNat T3T.d0).2.2) = false → ∃ (x' : Int × List Int), (x ≤ x'.1 ∧ x'.2 ++ partS r e x'.1 y g = partS r e x y g) ∧ (y - x'.1).toNat < (y - x_1.1).toNat ∧ (r.getD (gidx (startP x_1.1) r).toNat T3T.d0).2.1 = x'.1 ∧ x_2.2 = x'.2 ∧
 nl Int = nl Int ∧ b = b ∧ r = r ∧ e = e ∧ j = j ∧ t = t ∧ n = n ∧ c = c ∧ x = x ∧ y = y ∧ g = g ∧ x_2.2.length = x'.2.length ∧ (0 : Nat) = (0 : Nat) ∧ b = b ∧ r = r ∧ e = e ∧ j = j ∧ t = t ∧ n = n ∧ c = c)) ∧ (g = false → (∃ (x_2 : Int ×
 List Int), (firstP (r.getD (gidx (startP x_1.1) r).toNat t30) g ≤ x_2.1 ∧ x_2.1 ≤ (r.getD (gidx (startP x_1.1) r).toNat t30).2.2 + (1 : Int) ∧ x_2.2 ++ (E_rPart_2 r e y g x_1 x_2) = partS r e x y g) ∧ (1 : Int) = x_2.1 ∧ x_1.2 = x_2.2 ∧
 x_1.2.length = x_2.2.length) ∧ ∀ (x_2 : Int × List Int), firstP (r.getD (gidx (startP x_1.1) r).toNat t30) g ≤ x_2.1 ∧ x_2.1 ≤ (r.getD (gidx (startP x_1.1) r).toNat t30).2.2 + (1 : Int) ∧ x_2.2 ++ (E_rPart_2 r e y g x_1 x_2) = partS r e x
 y g → (decide (x_2.1 ≤ (r.getD (gidx (startP x_1.1) r).toNat T3T.d0).2.2) = true → (∃ (x_3 : Int × List Int), ((r.getD (gidx (startP x_1.1) r).toNat t30).1 ≤ x_3.1 ∧ x_3.1 ≤ (r.getD (gidx (startP x_1.1) r).toNat t30).2.1 ∧ x_3.2 ++
 (List.filter (fun (i : Int) => playedB e i x_2.1) (intsF x_3.1 (r.getD (gidx (startP x_1.1) r).toNat t30).2.1) ++ (E_rPart_1 r e y g x_1 x_2)) = partS r e x y g) ∧ (r.getD (gidx (startP x_1.1) r).toNat T3T.d0).1 = x_3.1 ∧ x_2.2 = x_3.2 ∧
 x_2.2.length = x_3.2.length) ∧ ∀ (x_3 : Int × List Int), (r.getD (gidx (startP x_1.1) r).toNat t30).1 ≤ x_3.1 ∧ x_3.1 ≤ (r.getD (gidx (startP x_1.1) r).toNat t30).2.1 ∧ x_3.2 ++ (List.filter (fun (i : Int) => playedB e i x_2.1) (intsF
 x_3.1 (r.getD (gidx (startP x_1.1) r).toNat t30).2.1) ++ (E_rPart_1 r e y g x_1 x_2)) = partS r e x y g → (decide (x_3.1 < (r.getD (gidx (startP x_1.1) r).toNat T3T.d0).2.1) = true → (playedB e x_3.1 x_2.1 = true → x_3.2.length =
 x_3.2.length ∧ (x_3.2.length + ((0 : Nat) + (1 : Nat))) * (8 : Nat) ≤ (140737488355328 : Nat) ∧ InI64 (x_3.1 + (1 : Int)) ∧ ∃ (x' : Int × List Int), ((r.getD (gidx (startP x_1.1) r).toNat t30).1 ≤ x'.1 ∧ x'.1 ≤ (r.getD (gidx (startP
 x_1.1) r).toNat t30).2.1 ∧ x'.2 ++ (List.filter (fun (i : Int) => playedB e i x_2.1) (intsF x'.1 (r.getD (gidx (startP x_1.1) r).toNat t30).2.1) ++ (E_rPart_1 r e y g x_1 x_2)) = partS r e x y g) ∧ ((r.getD (gidx (startP x_1.1) r).toNat
 t30).2.1 - x'.1).toNat < ((r.getD (gidx (startP x_1.1) r).toNat t30).2.1 - x_3.1).toNat ∧ x_3.1 + (1 : Int) = x'.1 ∧ x_3.2 ++ [x_3.1] = x'.2 ∧ decide (x_2.1 ≤ (r.getD (gidx (startP x_1.1) r).toNat T3T.d0).2.2) = decide (x_2.1 ≤ (r.getD
 (gidx (startP x_1.1) r).toNat T3T.d0).2.2) ∧ x_2.1 = x_2.1 ∧ g = g ∧ (1 : Int) = (1 : Int) ∧ decide (gidx (startP x_1.1) r < (0 : Int)) = decide (gidx (startP x_1.1) r < (0 : Int)) ∧ gidx (startP x_1.1) r = gidx (startP x_1.1) r ∧ decide
 (x_1.1 < y) = decide (x_1.1 < y) ∧ x_1.1 = x_1.1 ∧ nl Int = nl Int ∧ b = b ∧ r = r ∧ e = e ∧ j = j ∧ t = t ∧ n = n ∧ c = c ∧ x = x ∧ y = y ∧ g = g ∧ x_3.2.length + ((0 : Nat) + (1 : Nat)) = x'.2.length ∧ (r.getD (gidx (startP x_1.1)
 r).toNat T3T.d0).1 = (r.getD (gidx (startP x_1.1) r).toNat T3T.d0).1 ∧ (r.getD (gidx (startP x_1.1) r).toNat T3T.d0).2.1 = (r.getD (gidx (startP x_1.1) r).toNat T3T.d0).2.1 ∧ (r.getD (gidx (startP x_1.1) r).toNat T3T.d0).2.2 = (r.getD
 (gidx (startP x_1.1) r).toNat T3T.d0).2.2 ∧ (0 : Nat) = (0 : Nat) ∧ b = b ∧ r = r ∧ e = e ∧ j = j ∧ t = t ∧ n = n ∧ c = c) ∧ (playedB e x_3.1 x_2.1 = false → InI64 (x_3.1 + (1 : Int)) ∧ ∃ (x' : Int × List Int), ((r.getD (gidx (startP
 x_1.1) r).toNat t30).1 ≤ x'.1 ∧ x'.1 ≤ (r.getD (gidx (startP x_1.1) r).toNat t30).2.1 ∧ x'.2 ++ (List.filter (fun (i : Int) => playedB e i x_2.1) (intsF x'.1 (r.getD (gidx (startP x_1.1) r).toNat t30).2.1) ++ (E_rPart_1 r e y g x_1 x_2))
 = partS r e x y g) ∧ ((r.getD (gidx (startP x_1.1) r).toNat t30).2.1 - x'.1).toNat < ((r.getD (gidx (startP x_1.1) r).toNat t30).2.1 - x_3.1).toNat ∧ x_3.1 + (1 : Int) = x'.1 ∧ x_3.2 = x'.2 ∧ decide (x_2.1 ≤ (r.getD (gidx (startP x_1.1)
 r).toNat T3T.d0).2.2) = decide (x_2.1 ≤ (r.getD (gidx (startP x_1.1) r).toNat T3T.d0).2.2) ∧ x_2.1 = x_2.1 ∧ g = g ∧ (1 : Int) = (1 : Int) ∧ decide (gidx (startP x_1.1) r < (0 : Int)) = decide (gidx (startP x_1.1) r < (0 : Int)) ∧ gidx
 (startP x_1.1) r = gidx (startP x_1.1) r ∧ decide (x_1.1 < y) = decide (x_1.1 < y) ∧ x_1.1 = x_1.1 ∧ nl Int = nl Int ∧ b = b ∧ r = r ∧ e = e ∧ j = j ∧ t = t ∧ n = n ∧ c = c ∧ x = x ∧ y = y ∧ g = g ∧ x_3.2.length = x'.2.length ∧ (r.getD
 (gidx (startP x_1.1) r).toNat T3T.d0).1 = (r.getD (gidx (startP x_1.1) r).toNat T3T.d0).1 ∧ (r.getD (gidx (startP x_1.1) r).toNat T3T.d0).2.1 = (r.getD (gidx (startP x_1.1) r).toNat T3T.d0).2.1 ∧ (r.getD (gidx (startP x_1.1) r).toNat
 T3T.d0).2.2 = (r.getD (gidx (startP x_1.1) r).toNat T3T.d0).2.2 ∧ (0 : Nat) = (0 : Nat) ∧ b = b ∧ r = r ∧ e = e ∧ j = j ∧ t = t ∧ n = n ∧ c = c)) ∧ (decide (x_3.1 < (r.getD (gidx (startP x_1.1) r).toNat T3T.d0).2.1) = false → InI64 (x_2.1
 + (1 : Int)) ∧ ∃ (x' : Int × List Int), (firstP (r.getD (gidx (startP x_1.1) r).toNat t30) g ≤ x'.1 ∧ x'.1 ≤ (r.getD (gidx (startP x_1.1) r).toNat t30).2.2 + (1 : Int) ∧ x'.2 ++ (passesL e (r.getD (gidx (startP x_1.1) r).toNat t30) x'.1
 ++ partS r e (r.getD (gidx (startP x_1.1) r).toNat t30).2.1 y g) = partS r e x y g) ∧ ((r.getD (gidx (startP x_1.1) r).toNat t30).2.2 + (1 : Int) - x'.1).toNat < ((r.getD (gidx (startP x_1.1) r).toNat t30).2.2 + (1 : Int) - x_2.1).toNat ∧
 x_2.1 + (1 : Int) = x'.1 ∧ x_3.2 = x'.2 ∧ g = g ∧ (1 : Int) = (1 : Int) ∧ decide (gidx (startP x_1.1) r < (0 : Int)) = decide (gidx (startP x_1.1) r < (0 : Int)) ∧ gidx (startP x_1.1) r = gidx (startP x_1.1) r ∧ decide (x_1.1 < y) =
 decide (x_1.1 < y) ∧ x_1.1 = x_1.1 ∧ nl Int = nl Int ∧ b = b ∧ r = r ∧ e = e ∧ j = j ∧ t = t ∧ n = n ∧ c = c ∧ x = x ∧ y = y ∧ g = g ∧ x_3.2.length = x'.2.length ∧ (r.getD (gidx (startP x_1.1) r).toNat T3T.d0).1 = (r.getD (gidx (startP
 x_1.1) r).toNat T3T.d0).1 ∧ (r.getD (gidx (startP x_1.1) r).toNat T3T.d0).2.1 = (r.getD (gidx (startP x_1.1) r).toNat T3T.d0).2.1 ∧ (r.getD (gidx (startP x_1.1) r).toNat T3T.d0).2.2 = (r.getD (gidx (startP x_1.1) r).toNat T3T.d0).2.2 ∧ (0
 : Nat) = (0 : Nat) ∧ b = b ∧ r = r ∧ e = e ∧ j = j ∧ t = t ∧ n = n ∧ c = c)) ∧ (decide (x_2.1 ≤ (r.getD (gidx (startP x_1.1) r).toNat T3T.d0).2.2) = false → ∃ (x' : Int × List Int), (x ≤ x'.1 ∧ x'.2 ++ partS r e x'.1 y g = partS r e x y
 g) ∧ (y - x'.1).toNat < (y - x_1.1).toNat ∧ (r.getD (gidx (startP x_1.1) r).toNat T3T.d0).2.1 = x'.1 ∧ x_2.2 = x'.2 ∧ nl Int = nl Int ∧ b = b ∧ r = r ∧ e = e ∧ j = j ∧ t = t ∧ n = n ∧ c = c ∧ x = x ∧ y = y ∧ g = g ∧ x_2.2.length =
 x'.2.length ∧ (0 : Nat) = (0 : Nat) ∧ b = b ∧ r = r ∧ e = e ∧ j = j ∧ t = t ∧ n = n ∧ c = c)))) ∧ (decide (x_1.1 < y) = false → x_1.2 = partS r e x y g ∧ x_1.2.length = (partS r e x y g).length)
def P_rWhole (b : Int) (r e : List T3) (j t n : Int) (c : List T3) : Prop :=
 ((j == (0 : Int)) = true → okParts b r (0 : Int) b ∧ partS r e (0 : Int) b false = wholeF (b, r, e, (j, t, n), c)) ∧ ((j == (0 : Int)) = false → okParts b r (0 : Int) j ∧ okParts b r t n ∧ (partS r e (0 : Int) j false).length = (partS r e
 (0 : Int) j false).length ∧ ((partS r e (0 : Int) j false).length + (partS r e t n true).length) * (8 : Nat) ≤ (140737488355328 : Nat) ∧ partS r e (0 : Int) j false ++ partS r e t n true = wholeF (b, r, e, (j, t, n), c))
abbrev E_rFValid_1 (c : List T3) (x : Nat) :=
 ((c.getD (↑x : Int).toNat T3T.d0).1, (c.getD (↑x : Int).toNat T3T.d0).2.1, (c.getD (↑x : Int).toNat T3T.d0).2.2)
abbrev E_rFValid_2 (b : Int) (r : List T3) (e : List T3) (j : Int) (t : Int) (n : Int) (c : List T3) :=
 (decide (b < (1 : Int)) || decide (b > (4000 : Int)) || !repsB r b || !endsB r e || !jumpB b r j t n || decide ((↑c.length : Int) > (100 : Int)))
def P_rFValid (b : Int) (r e : List T3) (j t n : Int) (c : List T3) : Prop :=
 ((decide (b < (1 : Int)) || decide (b > (4000 : Int)) || !repsB r b || !endsB r e || !jumpB b r j t n) = false → (↑c.length : Int) ≤ (9223372036854775807 : Int)) → ((E_rFValid_2 b r e j t n c) = true → false = validF (b, r, e, (j, t, n),
 c)) ∧ ((E_rFValid_2 b r e j t n c) = false → (∃ (x : Nat), (x ≤ c.length ∧ (List.take x c).all (cutB b) = true ∧ (List.take x c).Nodup) ∧ (0 : Int) = (↑x : Int)) ∧ ∀ (x : Nat), x ≤ c.length ∧ (List.take x c).all (cutB b) = true ∧
 (List.take x c).Nodup → (↑c.length : Int) ≤ (9223372036854775807 : Int) → (decide ((↑x : Int) < (↑c.length : Int)) = true → (0 : Int) ≤ (↑x : Int) ∧ (↑x : Int) < (↑c.length : Int) ∧ ((!cutB b (E_rFValid_1 c x)) = false → (0 : Int) ≤ (0 :
 Int) ∧ (0 : Int) ≤ (↑x : Int) ∧ (↑x : Int) ≤ (↑c.length : Int)) ∧ ((!cutB b (E_rFValid_1 c x)) = false → (0 : Int) ≤ (↑x : Int) ∧ (↑x : Int) < (↑c.length : Int)) ∧ ((!cutB b (E_rFValid_1 c x) || decide (gidx (isC (E_rFValid_1 c x))
 (List.drop (Int.toNat (0 : Int)) (List.take (↑x : Int).toNat c)) ≥ (0 : Int))) = true → false = validF (b, r, e, (j, t, n), c)) ∧ ((!cutB b (E_rFValid_1 c x) || decide (gidx (isC (E_rFValid_1 c x)) (List.drop (Int.toNat (0 : Int))
 (List.take (↑x : Int).toNat c)) ≥ (0 : Int))) = false → InI64 ((↑x : Int) + (1 : Int)) ∧ ∃ (x' : Nat), (x' ≤ c.length ∧ (List.take x' c).all (cutB b) = true ∧ (List.take x' c).Nodup) ∧ c.length - x' < c.length - x ∧ (↑x : Int) + (1 : Int)
 = (↑x' : Int) ∧ (E_rFValid_2 b r e j t n c) = (E_rFValid_2 b r e j t n c) ∧ b = b ∧ r = r ∧ e = e ∧ j = j ∧ t = t ∧ n = n ∧ c = c ∧ b = b ∧ r = r ∧ e = e ∧ j = j ∧ t = t ∧ n = n ∧ c = c)) ∧ (decide ((↑x : Int) < (↑c.length : Int)) = false
 → okForm0 (b, r, e, (j, t, n), c) = true ∧ ((↑(wholeF (b, r, e, (j, t, n), c)).length : Int) ≤ (9223372036854775807 : Int) → decide ((↑(wholeF (b, r, e, (j, t, n), c)).length : Int) ≤ (20000 : Int)) = validF (b, r, e, (j, t, n), c))))
abbrev E_same_1 (b : Int) (r : List T3) (e : List T3) (j : Int) (t : Int) (n : Int) (c : List T3) (b' : Int) (r' : List T3) (e' : List T3) (j' : Int) (t' : Int) (n' : Int) (c' : List T3) :=
 (b != b' || !(j == j' && (t == t' && n == n')) || (↑r.length : Int) != (↑r'.length : Int) || (↑e.length : Int) != (↑e'.length : Int) || (↑c.length : Int) != (↑c'.length : Int))
abbrev E_same_2 (e : List T3) (e' : List T3) (x_1 : Nat) :=
 (!((e.getD (↑x_1 : Int).toNat T3T.d0).1 == (e'.getD (↑x_1 : Int).toNat T3T.d0).1 && ((e.getD (↑x_1 : Int).toNat T3T.d0).2.1 == (e'.getD (↑x_1 : Int).toNat T3T.d0).2.1 && (e.getD (↑x_1 : Int).toNat T3T.d0).2.2 == (e'.getD (↑x_1 :
 Int).toNat T3T.d0).2.2)))
abbrev E_same_3 (c : List T3) (c' : List T3) (x_2 : Nat) :=
 (!((c.getD (↑x_2 : Int).toNat T3T.d0).1 == (c'.getD (↑x_2 : Int).toNat T3T.d0).1 && ((c.getD (↑x_2 : Int).toNat T3T.d0).2.1 == (c'.getD (↑x_2 : Int).toNat T3T.d0).2.1 && (c.getD (↑x_2 : Int).toNat T3T.d0).2.2 == (c'.getD (↑x_2 :
 Int).toNat T3T.d0).2.2)))
abbrev E_same_4 (r : List T3) (r' : List T3) (x : Nat) :=
 (!((r.getD (↑x : Int).toNat T3T.d0).1 == (r'.getD (↑x : Int).toNat T3T.d0).1 && ((r.getD (↑x : Int).toNat T3T.d0).2.1 == (r'.getD (↑x : Int).toNat T3T.d0).2.1 && (r.getD (↑x : Int).toNat T3T.d0).2.2 == (r'.getD (↑x : Int).toNat
 T3T.d0).2.2)))
def P_same (b : Int) (r e : List T3) (j t n : Int) (c : List T3) (b' : Int) (r' e' : List T3) (j' t' n' : Int) (c' : List T3) : Prop :=
 ((b != b' || !(j == j' && (t == t' && n == n'))) = false → (↑r.length : Int) ≤ (9223372036854775807 : Int)) → ((b != b' || !(j == j' && (t == t' && n == n'))) = false → (↑r'.length : Int) ≤ (9223372036854775807 : Int)) → ((b != b' || !(j
 == j' && (t == t' && n == n')) || (↑r.length : Int) != (↑r'.length : Int)) = false → (↑e.length : Int) ≤ (9223372036854775807 : Int)) → ((b != b' || !(j == j' && (t == t' && n == n')) || (↑r.length : Int) != (↑r'.length : Int)) = false →
 (↑e'.length : Int) ≤ (9223372036854775807 : Int)) → ((b != b' || !(j == j' && (t == t' && n == n')) || (↑r.length : Int) != (↑r'.length : Int) || (↑e.length : Int) != (↑e'.length : Int)) = false → (↑c.length : Int) ≤ (9223372036854775807
 : Int)) → ((b != b' || !(j == j' && (t == t' && n == n')) || (↑r.length : Int) != (↑r'.length : Int) || (↑e.length : Int) != (↑e'.length : Int)) = false → (↑c'.length : Int) ≤ (9223372036854775807 : Int)) → ((E_same_1 b r e j t n c b' r'
 e' j' t' n' c') = true → false = sameF (b, r, e, (j, t, n), c) (b', r', e', (j', t', n'), c')) ∧ ((E_same_1 b r e j t n c b' r' e' j' t' n' c') = false → (∃ (x : Nat), (x ≤ r.length ∧ List.take x r = List.take x r') ∧ (0 : Int) = (↑x :
 Int)) ∧ ∀ (x : Nat), x ≤ r.length ∧ List.take x r = List.take x r' → (↑r.length : Int) ≤ (9223372036854775807 : Int) → (decide ((↑x : Int) < (↑r.length : Int)) = true → (0 : Int) ≤ (↑x : Int) ∧ (↑x : Int) < (↑r.length : Int) ∧ (0 : Int) ≤
 (↑x : Int) ∧ (↑x : Int) < (↑r'.length : Int) ∧ ((E_same_4 r r' x) = true → false = sameF (b, r, e, (j, t, n), c) (b', r', e', (j', t', n'), c')) ∧ ((E_same_4 r r' x) = false → InI64 ((↑x : Int) + (1 : Int)) ∧ ∃ (x' : Nat), (x' ≤ r.length
 ∧ List.take x' r = List.take x' r') ∧ r.length - x' < r.length - x ∧ (↑x : Int) + (1 : Int) = (↑x' : Int) ∧ (E_same_1 b r e j t n c b' r' e' j' t' n' c') = (E_same_1 b r e j t n c b' r' e' j' t' n' c') ∧ b = b ∧ r = r ∧ e = e ∧ j = j ∧ t
 = t ∧ n = n ∧ c = c ∧ b' = b' ∧ r' = r' ∧ e' = e' ∧ j' = j' ∧ t' = t' ∧ n' = n' ∧ c' = c' ∧ b' = b' ∧ r' = r' ∧ e' = e' ∧ j' = j' ∧ t' = t' ∧ n' = n' ∧ c' = c' ∧ b = b ∧ r = r ∧ e = e ∧ j = j ∧ t = t ∧ n = n ∧ c = c)) ∧ (decide ((↑x :
 Int) < (↑r.length : Int)) = false → (∃ (x : Nat), (x ≤ e.length ∧ List.take x e = List.take x e') ∧ (0 : Int) = (↑x : Int)) ∧ ∀ (x_1 : Nat), x_1 ≤ e.length ∧ List.take x_1 e = List.take x_1 e' → (↑e.length : Int) ≤ (9223372036854775807 :
 Int) → (decide ((↑x_1 : Int) < (↑e.length : Int)) = true → (0 : Int) ≤ (↑x_1 : Int) ∧ (↑x_1 : Int) < (↑e.length : Int) ∧ (0 : Int) ≤ (↑x_1 : Int) ∧ (↑x_1 : Int) < (↑e'.length : Int) ∧ ((E_same_2 e e' x_1) = true → false = sameF (b, r, e,
 (j, t, n), c) (b', r', e', (j', t', n'), c')) ∧ ((E_same_2 e e' x_1) = false → InI64 ((↑x_1 : Int) + (1 : Int)) ∧ ∃ (x' : Nat), (x' ≤ e.length ∧ List.take x' e = List.take x' e') ∧ e.length - x' < e.length - x_1 ∧ (↑x_1 : Int) + (1 : Int)
 = (↑x' : Int) ∧ decide ((↑x : Int) < (↑r.length : Int)) = decide ((↑x : Int) < (↑r.length : Int)) ∧ (↑x : Int) = (↑x : Int) ∧ (E_same_1 b r e j t n c b' r' e' j' t' n' c') = (E_same_1 b r e j t n c b' r' e' j' t' n' c') ∧ b = b ∧ r = r ∧
 e = e ∧ j = j ∧ t = t ∧ n = n ∧ c = c ∧ b' = b' ∧ r' = r' ∧ e' = e' ∧ j' = j' ∧ t' = t' ∧ n' = n' ∧ c' = c' ∧ b' = b' ∧ r' = r' ∧ e' = e' ∧ j' = j' ∧ t' = t' ∧ n' = n' ∧ c' = c' ∧ b = b ∧ r = r ∧ e = e ∧ j = j ∧ t = t ∧ n = n ∧ c = c)) ∧
 (decide ((↑x_1 : Int) < (↑e.length : Int)) = false → (∃ (x : Nat), (x ≤ c.length ∧ List.take x c = List.take x c') ∧ (0 : Int) = (↑x : Int)) ∧ ∀ (x_2 : Nat), x_2 ≤ c.length ∧ List.take x_2 c = List.take x_2 c' → (↑c.length : Int) ≤
 (9223372036854775807 : Int) → (decide ((↑x_2 : Int) < (↑c.length : Int)) = true → (0 : Int) ≤ (↑x_2 : Int) ∧ (↑x_2 : Int) < (↑c.length : Int) ∧ (0 : Int) ≤ (↑x_2 : Int) ∧ (↑x_2 : Int) < (↑c'.length : Int) ∧ ((E_same_3 c c' x_2) = true →
 false = sameF (b, r, e, (j, t, n), c) (b', r', e', (j', t', n'), c')) ∧ ((E_same_3 c c' x_2) = false → InI64 ((↑x_2 : Int) + (1 : Int)) ∧ ∃ (x' : Nat), (x' ≤ c.length ∧ List.take x' c = List.take x' c') ∧ c.length - x' < c.length - x_2 ∧
 (↑x_2 : Int) + (1 : Int) = (↑x' : Int) ∧ decide ((↑x_1 : Int) < (↑e.length : Int)) = decide ((↑x_1 : Int) < (↑e.length : Int)) ∧ (↑x_1 : Int) = (↑x_1 : Int) ∧ decide ((↑x : Int) < (↑r.length : Int)) = decide ((↑x : Int) < (↑r.length :
 Int)) ∧ (↑x : Int) = (↑x : Int) ∧ (E_same_1 b r e j t n c b' r' e' j' t' n' c') = (E_same_1 b r e j t n c b' r' e' j' t' n' c') ∧ b = b ∧ r = r ∧ e = e ∧ j = j ∧ t = t ∧ n = n ∧ c = c ∧ b' = b' ∧ r' = r' ∧ e' = e' ∧ j' = j' ∧ t' = t' ∧ n'
 = n' ∧ c' = c' ∧ b' = b' ∧ r' = r' ∧ e' = e' ∧ j' = j' ∧ t' = t' ∧ n' = n' ∧ c' = c' ∧ b = b ∧ r = r ∧ e = e ∧ j = j ∧ t = t ∧ n = n ∧ c = c)) ∧ (decide ((↑x_2 : Int) < (↑c.length : Int)) = false → true = sameF (b, r, e, (j, t, n), c)
 (b', r', e', (j', t', n'), c')))))
def P_few (b : Int) (r e : List T3) (j t n : Int) (c : List T3) : Prop :=
 (decide (b ≤ (60 : Int)) = true → (↑r.length : Int) ≤ (9223372036854775807 : Int)) → ((decide (b ≤ (60 : Int)) && decide ((↑r.length : Int) ≤ (110 : Int))) = true → (↑e.length : Int) ≤ (9223372036854775807 : Int)) → ((decide (b ≤ (60 :
 Int)) && decide ((↑r.length : Int) ≤ (110 : Int)) && decide ((↑e.length : Int) ≤ (60 : Int))) = true → (↑c.length : Int) ≤ (9223372036854775807 : Int)) → (decide (b ≤ (60 : Int)) && decide ((↑r.length : Int) ≤ (110 : Int)) && decide
 ((↑e.length : Int) ≤ (60 : Int)) && decide ((↑c.length : Int) ≤ (110 : Int))) = fewF (b, r, e, (j, t, n), c)
def P_rCut (b : Int) (r e : List T3) (j t n : Int) (c : List T3) (x y z : Int) : Prop :=
 ((!validF (b, r, e, (j, t, n), c) || !cutB b (x, y, z)) = true → (0 : Int) = (cutS (b, r, e, (j, t, n), c) (x, y, z)).1.1 ∧ [] = (cutS (b, r, e, (j, t, n), c) (x, y, z)).1.2.1 ∧ [] = (cutS (b, r, e, (j, t, n), c) (x, y, z)).1.2.2.1 ∧ (0 :
 Int) = (cutS (b, r, e, (j, t, n), c) (x, y, z)).1.2.2.2.1.1 ∧ (0 : Int) = (cutS (b, r, e, (j, t, n), c) (x, y, z)).1.2.2.2.1.2.1 ∧ (0 : Int) = (cutS (b, r, e, (j, t, n), c) (x, y, z)).1.2.2.2.1.2.2 ∧ [] = (cutS (b, r, e, (j, t, n), c) (x,
 y, z)).1.2.2.2.2 ∧ (1 : Int) = (cutS (b, r, e, (j, t, n), c) (x, y, z)).2) ∧ ((!validF (b, r, e, (j, t, n), c) || !cutB b (x, y, z)) = false → (decide (gidx (isC (x, y, z)) c ≥ (0 : Int)) = true → (0 : Int) = (cutS (b, r, e, (j, t, n), c)
 (x, y, z)).1.1 ∧ [] = (cutS (b, r, e, (j, t, n), c) (x, y, z)).1.2.1 ∧ [] = (cutS (b, r, e, (j, t, n), c) (x, y, z)).1.2.2.1 ∧ (0 : Int) = (cutS (b, r, e, (j, t, n), c) (x, y, z)).1.2.2.2.1.1 ∧ (0 : Int) = (cutS (b, r, e, (j, t, n), c)
 (x, y, z)).1.2.2.2.1.2.1 ∧ (0 : Int) = (cutS (b, r, e, (j, t, n), c) (x, y, z)).1.2.2.2.1.2.2 ∧ [] = (cutS (b, r, e, (j, t, n), c) (x, y, z)).1.2.2.2.2 ∧ (5 : Int) = (cutS (b, r, e, (j, t, n), c) (x, y, z)).2) ∧ (decide (gidx (isC (x, y,
 z)) c ≥ (0 : Int)) = false → (↑c.length : Int) ≤ (9223372036854775807 : Int) → (((↑c.length : Int) == (100 : Int)) = true → (0 : Int) = (cutS (b, r, e, (j, t, n), c) (x, y, z)).1.1 ∧ [] = (cutS (b, r, e, (j, t, n), c) (x, y, z)).1.2.1 ∧
 [] = (cutS (b, r, e, (j, t, n), c) (x, y, z)).1.2.2.1 ∧ (0 : Int) = (cutS (b, r, e, (j, t, n), c) (x, y, z)).1.2.2.2.1.1 ∧ (0 : Int) = (cutS (b, r, e, (j, t, n), c) (x, y, z)).1.2.2.2.1.2.1 ∧ (0 : Int) = (cutS (b, r, e, (j, t, n), c) (x,
 y, z)).1.2.2.2.1.2.2 ∧ [] = (cutS (b, r, e, (j, t, n), c) (x, y, z)).1.2.2.2.2 ∧ (2 : Int) = (cutS (b, r, e, (j, t, n), c) (x, y, z)).2) ∧ (((↑c.length : Int) == (100 : Int)) = false → (0 : Nat) = (0 : Nat) ∧ ((0 : Nat) + c.length) * (24
 : Nat) ≤ (140737488355328 : Nat) ∧ ([] ++ c).length = (0 : Nat) + c.length ∧ ((0 : Nat) + c.length + ((0 : Nat) + (1 : Nat))) * (24 : Nat) ≤ (140737488355328 : Nat) ∧ b = (cutS (b, r, e, (j, t, n), c) (x, y, z)).1.1 ∧ r = (cutS (b, r, e,
 (j, t, n), c) (x, y, z)).1.2.1 ∧ e = (cutS (b, r, e, (j, t, n), c) (x, y, z)).1.2.2.1 ∧ j = (cutS (b, r, e, (j, t, n), c) (x, y, z)).1.2.2.2.1.1 ∧ t = (cutS (b, r, e, (j, t, n), c) (x, y, z)).1.2.2.2.1.2.1 ∧ n = (cutS (b, r, e, (j, t, n),
 c) (x, y, z)).1.2.2.2.1.2.2 ∧ [] ++ c ++ [(x, y, z)] = (cutS (b, r, e, (j, t, n), c) (x, y, z)).1.2.2.2.2 ∧ (0 : Int) = (cutS (b, r, e, (j, t, n), c) (x, y, z)).2)))
def P_rOpen (b : Int) (r e : List T3) (j t n : Int) (c : List T3) (x y z : Int) : Prop :=
 ((!validF (b, r, e, (j, t, n), c)) = true → (0 : Int) = (openS (b, r, e, (j, t, n), c) (x, y, z)).1.1 ∧ [] = (openS (b, r, e, (j, t, n), c) (x, y, z)).1.2.1 ∧ [] = (openS (b, r, e, (j, t, n), c) (x, y, z)).1.2.2.1 ∧ (0 : Int) = (openS (b,
 r, e, (j, t, n), c) (x, y, z)).1.2.2.2.1.1 ∧ (0 : Int) = (openS (b, r, e, (j, t, n), c) (x, y, z)).1.2.2.2.1.2.1 ∧ (0 : Int) = (openS (b, r, e, (j, t, n), c) (x, y, z)).1.2.2.2.1.2.2 ∧ [] = (openS (b, r, e, (j, t, n), c) (x, y,
 z)).1.2.2.2.2 ∧ (1 : Int) = (openS (b, r, e, (j, t, n), c) (x, y, z)).2) ∧ ((!validF (b, r, e, (j, t, n), c)) = false → (decide (gidx (isC (x, y, z)) c < (0 : Int)) = true → (0 : Int) = (openS (b, r, e, (j, t, n), c) (x, y, z)).1.1 ∧ [] =
 (openS (b, r, e, (j, t, n), c) (x, y, z)).1.2.1 ∧ [] = (openS (b, r, e, (j, t, n), c) (x, y, z)).1.2.2.1 ∧ (0 : Int) = (openS (b, r, e, (j, t, n), c) (x, y, z)).1.2.2.2.1.1 ∧ (0 : Int) = (openS (b, r, e, (j, t, n), c) (x, y,
 z)).1.2.2.2.1.2.1 ∧ (0 : Int) = (openS (b, r, e, (j, t, n), c) (x, y, z)).1.2.2.2.1.2.2 ∧ [] = (openS (b, r, e, (j, t, n), c) (x, y, z)).1.2.2.2.2 ∧ (4 : Int) = (openS (b, r, e, (j, t, n), c) (x, y, z)).2) ∧ (decide (gidx (isC (x, y, z))
 c < (0 : Int)) = false → (0 : Int) ≤ (0 : Int) ∧ (0 : Int) ≤ gidx (isC (x, y, z)) c ∧ gidx (isC (x, y, z)) c ≤ (↑c.length : Int) ∧ (0 : Nat) = (0 : Nat) ∧ ((0 : Nat) + (List.drop (Int.toNat (0 : Int)) (List.take (gidx (isC (x, y, z))
 c).toNat c)).length) * (24 : Nat) ≤ (140737488355328 : Nat) ∧ InI64 (gidx (isC (x, y, z)) c + (1 : Int)) ∧ (0 : Int) ≤ gidx (isC (x, y, z)) c + (1 : Int) ∧ gidx (isC (x, y, z)) c + (1 : Int) ≤ (↑c.length : Int) ∧ (↑c.length : Int) ≤
 (↑c.length : Int) ∧ ([] ++ List.drop (Int.toNat (0 : Int)) (List.take (gidx (isC (x, y, z)) c).toNat c)).length = (0 : Nat) + (List.drop (Int.toNat (0 : Int)) (List.take (gidx (isC (x, y, z)) c).toNat c)).length ∧ ((0 : Nat) + (List.drop
 (Int.toNat (0 : Int)) (List.take (gidx (isC (x, y, z)) c).toNat c)).length + (List.drop (gidx (isC (x, y, z)) c + (1 : Int)).toNat (List.take (↑c.length : Int).toNat c)).length) * (24 : Nat) ≤ (140737488355328 : Nat) ∧ b = (openS (b, r,
 e, (j, t, n), c) (x, y, z)).1.1 ∧ r = (openS (b, r, e, (j, t, n), c) (x, y, z)).1.2.1 ∧ e = (openS (b, r, e, (j, t, n), c) (x, y, z)).1.2.2.1 ∧ j = (openS (b, r, e, (j, t, n), c) (x, y, z)).1.2.2.2.1.1 ∧ t = (openS (b, r, e, (j, t, n), c)
 (x, y, z)).1.2.2.2.1.2.1 ∧ n = (openS (b, r, e, (j, t, n), c) (x, y, z)).1.2.2.2.1.2.2 ∧ [] ++ List.drop (Int.toNat (0 : Int)) (List.take (gidx (isC (x, y, z)) c).toNat c) ++ List.drop (gidx (isC (x, y, z)) c + (1 : Int)).toNat (List.take
 (↑c.length : Int).toNat c) = (openS (b, r, e, (j, t, n), c) (x, y, z)).1.2.2.2.2 ∧ (0 : Int) = (openS (b, r, e, (j, t, n), c) (x, y, z)).2))
abbrev E_rTimes_1 (r : List T3) (x : Int) (y : Int) :=
 ((([] ++ r).getD x.toNat ((Ty.ti IntKind.i64).tp ((Ty.ti IntKind.i64).tp (Ty.ti IntKind.i64))).d0).1, (([] ++ r).getD x.toNat ((Ty.ti IntKind.i64).tp ((Ty.ti IntKind.i64).tp (Ty.ti IntKind.i64))).d0).2.1, y)
def P_rTimes (b : Int) (r e : List T3) (j t n : Int) (c : List T3) (x y : Int) : Prop :=
 ((!validF (b, r, e, (j, t, n), c)) = true → (0 : Nat) = (0 : Nat) ∧ (0 : Int) = (timesS (b, r, e, (j, t, n), c) x y).1.1 ∧ [] = (timesS (b, r, e, (j, t, n), c) x y).1.2.1 ∧ [] = (timesS (b, r, e, (j, t, n), c) x y).1.2.2.1 ∧ (0 : Int) =
 (timesS (b, r, e, (j, t, n), c) x y).1.2.2.2.1.1 ∧ (0 : Int) = (timesS (b, r, e, (j, t, n), c) x y).1.2.2.2.1.2.1 ∧ (0 : Int) = (timesS (b, r, e, (j, t, n), c) x y).1.2.2.2.1.2.2 ∧ [] = (timesS (b, r, e, (j, t, n), c) x y).1.2.2.2.2 ∧ (1
 : Int) = (timesS (b, r, e, (j, t, n), c) x y).2) ∧ ((!validF (b, r, e, (j, t, n), c)) = false → (decide (x < (0 : Int)) = false → (↑r.length : Int) ≤ (9223372036854775807 : Int)) → ((decide (x < (0 : Int)) || decide (x ≥ (↑r.length :
 Int))) = true → (0 : Nat) = (0 : Nat) ∧ (0 : Int) = (timesS (b, r, e, (j, t, n), c) x y).1.1 ∧ [] = (timesS (b, r, e, (j, t, n), c) x y).1.2.1 ∧ [] = (timesS (b, r, e, (j, t, n), c) x y).1.2.2.1 ∧ (0 : Int) = (timesS (b, r, e, (j, t, n),
 c) x y).1.2.2.2.1.1 ∧ (0 : Int) = (timesS (b, r, e, (j, t, n), c) x y).1.2.2.2.1.2.1 ∧ (0 : Int) = (timesS (b, r, e, (j, t, n), c) x y).1.2.2.2.1.2.2 ∧ [] = (timesS (b, r, e, (j, t, n), c) x y).1.2.2.2.2 ∧ (4 : Int) = (timesS (b, r, e,
 (j, t, n), c) x y).2) ∧ ((decide (x < (0 : Int)) || decide (x ≥ (↑r.length : Int))) = false → ((decide (y < (1 : Int)) || decide (y > (9 : Int))) = true → (0 : Nat) = (0 : Nat) ∧ (0 : Int) = (timesS (b, r, e, (j, t, n), c) x y).1.1 ∧ [] =
 (timesS (b, r, e, (j, t, n), c) x y).1.2.1 ∧ [] = (timesS (b, r, e, (j, t, n), c) x y).1.2.2.1 ∧ (0 : Int) = (timesS (b, r, e, (j, t, n), c) x y).1.2.2.2.1.1 ∧ (0 : Int) = (timesS (b, r, e, (j, t, n), c) x y).1.2.2.2.1.2.1 ∧ (0 : Int) =
 (timesS (b, r, e, (j, t, n), c) x y).1.2.2.2.1.2.2 ∧ [] = (timesS (b, r, e, (j, t, n), c) x y).1.2.2.2.2 ∧ (1 : Int) = (timesS (b, r, e, (j, t, n), c) x y).2) ∧ ((decide (y < (1 : Int)) || decide (y > (9 : Int))) = false → (0 : Nat) = (0
 : Nat) ∧ ((0 : Nat) + r.length) * (24 : Nat) ≤ (140737488355328 : Nat) ∧ (0 : Int) ≤ x ∧ x < (↑([] ++ r).length : Int) ∧ (0 : Nat) + r.length = ([] ++ r).length ∧ ([] ++ r).length = ([] ++ r).length ∧ x.toNat < ([] ++ r).length ∧ ([] ++
 r).length = ([] ++ r).length ∧ x.toNat < ([] ++ r).length ∧ (0 : Nat) + r.length = (([] ++ r).set x.toNat (E_rTimes_1 r x y)).length ∧ okForm0 (b, ([] ++ r).set x.toNat (E_rTimes_1 r x y), e, (j, t, n), c) = true ∧ ((↑(wholeF (b, ([] ++
 r).set x.toNat (E_rTimes_1 r x y), e, (j, t, n), c)).length : Int) ≤ (9223372036854775807 : Int) → (decide ((↑(wholeF (b, ([] ++ r).set x.toNat (E_rTimes_1 r x y), e, (j, t, n), c)).length : Int) > (20000 : Int)) = true → (0 : Nat) = (0 :
 Nat) ∧ (0 : Int) = (timesS (b, r, e, (j, t, n), c) x y).1.1 ∧ [] = (timesS (b, r, e, (j, t, n), c) x y).1.2.1 ∧ [] = (timesS (b, r, e, (j, t, n), c) x y).1.2.2.1 ∧ (0 : Int) = (timesS (b, r, e, (j, t, n), c) x y).1.2.2.2.1.1 ∧ (0 : Int) =
 (timesS (b, r, e, (j, t, n), c) x y).1.2.2.2.1.2.1 ∧ (0 : Int) = (timesS (b, r, e, (j, t, n), c) x y).1.2.2.2.1.2.2 ∧ [] = (timesS (b, r, e, (j, t, n), c) x y).1.2.2.2.2 ∧ (2 : Int) = (timesS (b, r, e, (j, t, n), c) x y).2) ∧ (decide
 ((↑(wholeF (b, ([] ++ r).set x.toNat (E_rTimes_1 r x y), e, (j, t, n), c)).length : Int) > (20000 : Int)) = false → (0 : Nat) + r.length = (([] ++ r).set x.toNat (E_rTimes_1 r x y)).length ∧ b = (timesS (b, r, e, (j, t, n), c) x y).1.1 ∧
 ([] ++ r).set x.toNat (E_rTimes_1 r x y) = (timesS (b, r, e, (j, t, n), c) x y).1.2.1 ∧ e = (timesS (b, r, e, (j, t, n), c) x y).1.2.2.1 ∧ j = (timesS (b, r, e, (j, t, n), c) x y).1.2.2.2.1.1 ∧ t = (timesS (b, r, e, (j, t, n), c) x
 y).1.2.2.2.1.2.1 ∧ n = (timesS (b, r, e, (j, t, n), c) x y).1.2.2.2.1.2.2 ∧ c = (timesS (b, r, e, (j, t, n), c) x y).1.2.2.2.2 ∧ (0 : Int) = (timesS (b, r, e, (j, t, n), c) x y).2)))))
def P_clR1  : Prop :=
 (true = true → (0 : Nat) = (0 : Nat) ∧ nl (Int × Int × Int) = nl (Int × Int × Int)) ∧ (true = false → (0 : Nat) = (0 : Nat) ∧ ((0 : Nat) + (0 : Nat)) * (24 : Nat) ≤ (140737488355328 : Nat) ∧ False ∧ False)
def P_clR2 (l : List T3) : Prop :=
 (false = true → False ∧ False) ∧ (false = false → (0 : Nat) = (0 : Nat) ∧ ((0 : Nat) + l.length) * (24 : Nat) ≤ (140737488355328 : Nat) ∧ (0 : Nat) + l.length = l.length ∧ [] ++ l = l)
def P_clE1  : Prop :=
 (true = true → (0 : Nat) = (0 : Nat) ∧ nl (Int × Int × Int) = nl (Int × Int × Int)) ∧ (true = false → (0 : Nat) = (0 : Nat) ∧ ((0 : Nat) + (0 : Nat)) * (24 : Nat) ≤ (140737488355328 : Nat) ∧ False ∧ False)
def P_clE2 (l : List T3) : Prop :=
 (false = true → False ∧ False) ∧ (false = false → (0 : Nat) = (0 : Nat) ∧ ((0 : Nat) + l.length) * (24 : Nat) ≤ (140737488355328 : Nat) ∧ (0 : Nat) + l.length = l.length ∧ [] ++ l = l)
def P_clC1  : Prop :=
 (true = true → (0 : Nat) = (0 : Nat) ∧ nl (Int × Int × Int) = nl (Int × Int × Int)) ∧ (true = false → (0 : Nat) = (0 : Nat) ∧ ((0 : Nat) + (0 : Nat)) * (24 : Nat) ≤ (140737488355328 : Nat) ∧ False ∧ False)
def P_clC2 (l : List T3) : Prop :=
 (false = true → False ∧ False) ∧ (false = false → (0 : Nat) = (0 : Nat) ∧ ((0 : Nat) + l.length) * (24 : Nat) ≤ (140737488355328 : Nat) ∧ (0 : Nat) + l.length = l.length ∧ [] ++ l = l)
def P_copied (b : Int) (r e : List T3) (j t n : Int) (c : List T3) : Prop :=
 r.length ≤ (100 : Nat) ∧ e.length ≤ (100 : Nat) ∧ c.length ≤ (100 : Nat) ∧ b = b ∧ r.length = r.length ∧ e.length = e.length ∧ j = j ∧ t = t ∧ n = n ∧ c.length = c.length ∧ r = r ∧ e = e ∧ c = c
def P_cut (b : Int) (r e : List T3) (j t n : Int) (c : List T3) (x y z : Int) : Prop :=
 ((!validF (b, r, e, (j, t, n), c) || !cutB b (x, y, z)) = true → (0 : Int) = (cutS (b, r, e, (j, t, n), c) (x, y, z)).1.1 ∧ [] = (cutS (b, r, e, (j, t, n), c) (x, y, z)).1.2.1 ∧ [] = (cutS (b, r, e, (j, t, n), c) (x, y, z)).1.2.2.1 ∧ (0 :
 Int) = (cutS (b, r, e, (j, t, n), c) (x, y, z)).1.2.2.2.1.1 ∧ (0 : Int) = (cutS (b, r, e, (j, t, n), c) (x, y, z)).1.2.2.2.1.2.1 ∧ (0 : Int) = (cutS (b, r, e, (j, t, n), c) (x, y, z)).1.2.2.2.1.2.2 ∧ [] = (cutS (b, r, e, (j, t, n), c) (x,
 y, z)).1.2.2.2.2 ∧ (1 : Int) = (cutS (b, r, e, (j, t, n), c) (x, y, z)).2) ∧ ((!validF (b, r, e, (j, t, n), c) || !cutB b (x, y, z)) = false → (c.any (isC (x, y, z)) = true → (0 : Int) = (cutS (b, r, e, (j, t, n), c) (x, y, z)).1.1 ∧ [] =
 (cutS (b, r, e, (j, t, n), c) (x, y, z)).1.2.1 ∧ [] = (cutS (b, r, e, (j, t, n), c) (x, y, z)).1.2.2.1 ∧ (0 : Int) = (cutS (b, r, e, (j, t, n), c) (x, y, z)).1.2.2.2.1.1 ∧ (0 : Int) = (cutS (b, r, e, (j, t, n), c) (x, y, z)).1.2.2.2.1.2.1
 ∧ (0 : Int) = (cutS (b, r, e, (j, t, n), c) (x, y, z)).1.2.2.2.1.2.2 ∧ [] = (cutS (b, r, e, (j, t, n), c) (x, y, z)).1.2.2.2.2 ∧ (5 : Int) = (cutS (b, r, e, (j, t, n), c) (x, y, z)).2) ∧ (c.any (isC (x, y, z)) = false → (↑c.length : Int)
 ≤ (9223372036854775807 : Int) → (((↑c.length : Int) == (100 : Int)) = true → (0 : Int) = (cutS (b, r, e, (j, t, n), c) (x, y, z)).1.1 ∧ [] = (cutS (b, r, e, (j, t, n), c) (x, y, z)).1.2.1 ∧ [] = (cutS (b, r, e, (j, t, n), c) (x, y,
 z)).1.2.2.1 ∧ (0 : Int) = (cutS (b, r, e, (j, t, n), c) (x, y, z)).1.2.2.2.1.1 ∧ (0 : Int) = (cutS (b, r, e, (j, t, n), c) (x, y, z)).1.2.2.2.1.2.1 ∧ (0 : Int) = (cutS (b, r, e, (j, t, n), c) (x, y, z)).1.2.2.2.1.2.2 ∧ [] = (cutS (b, r,
 e, (j, t, n), c) (x, y, z)).1.2.2.2.2 ∧ (2 : Int) = (cutS (b, r, e, (j, t, n), c) (x, y, z)).2) ∧ (((↑c.length : Int) == (100 : Int)) = false → r.length ≤ (100 : Nat) ∧ e.length ≤ (100 : Nat) ∧ c.length ≤ (100 : Nat) ∧ c.length = c.length
 ∧ (c.length + ((0 : Nat) + (1 : Nat))) * (24 : Nat) ≤ (140737488355328 : Nat) ∧ r.length = r.length ∧ e.length = e.length ∧ c.length + ((0 : Nat) + (1 : Nat)) = (c ++ [(x, y, z)]).length ∧ b = (cutS (b, r, e, (j, t, n), c) (x, y, z)).1.1
 ∧ r = (cutS (b, r, e, (j, t, n), c) (x, y, z)).1.2.1 ∧ e = (cutS (b, r, e, (j, t, n), c) (x, y, z)).1.2.2.1 ∧ j = (cutS (b, r, e, (j, t, n), c) (x, y, z)).1.2.2.2.1.1 ∧ t = (cutS (b, r, e, (j, t, n), c) (x, y, z)).1.2.2.2.1.2.1 ∧ n =
 (cutS (b, r, e, (j, t, n), c) (x, y, z)).1.2.2.2.1.2.2 ∧ c ++ [(x, y, z)] = (cutS (b, r, e, (j, t, n), c) (x, y, z)).1.2.2.2.2 ∧ (0 : Int) = (cutS (b, r, e, (j, t, n), c) (x, y, z)).2)))
def P_times (b : Int) (r e : List T3) (j t n : Int) (c : List T3) (x y : Int) : Prop :=
 ((!validF (b, r, e, (j, t, n), c)) = true → (0 : Int) = (timesS (b, r, e, (j, t, n), c) x y).1.1 ∧ [] = (timesS (b, r, e, (j, t, n), c) x y).1.2.1 ∧ [] = (timesS (b, r, e, (j, t, n), c) x y).1.2.2.1 ∧ (0 : Int) = (timesS (b, r, e, (j, t,
 n), c) x y).1.2.2.2.1.1 ∧ (0 : Int) = (timesS (b, r, e, (j, t, n), c) x y).1.2.2.2.1.2.1 ∧ (0 : Int) = (timesS (b, r, e, (j, t, n), c) x y).1.2.2.2.1.2.2 ∧ [] = (timesS (b, r, e, (j, t, n), c) x y).1.2.2.2.2 ∧ (1 : Int) = (timesS (b, r,
 e, (j, t, n), c) x y).2) ∧ ((!validF (b, r, e, (j, t, n), c)) = false → (decide (x < (0 : Int)) = false → (↑r.length : Int) ≤ (9223372036854775807 : Int)) → ((decide (x < (0 : Int)) || decide (x ≥ (↑r.length : Int))) = true → (0 : Int) =
 (timesS (b, r, e, (j, t, n), c) x y).1.1 ∧ [] = (timesS (b, r, e, (j, t, n), c) x y).1.2.1 ∧ [] = (timesS (b, r, e, (j, t, n), c) x y).1.2.2.1 ∧ (0 : Int) = (timesS (b, r, e, (j, t, n), c) x y).1.2.2.2.1.1 ∧ (0 : Int) = (timesS (b, r, e,
 (j, t, n), c) x y).1.2.2.2.1.2.1 ∧ (0 : Int) = (timesS (b, r, e, (j, t, n), c) x y).1.2.2.2.1.2.2 ∧ [] = (timesS (b, r, e, (j, t, n), c) x y).1.2.2.2.2 ∧ (4 : Int) = (timesS (b, r, e, (j, t, n), c) x y).2) ∧ ((decide (x < (0 : Int)) ||
 decide (x ≥ (↑r.length : Int))) = false → ((decide (y < (1 : Int)) || decide (y > (9 : Int))) = true → (0 : Int) = (timesS (b, r, e, (j, t, n), c) x y).1.1 ∧ [] = (timesS (b, r, e, (j, t, n), c) x y).1.2.1 ∧ [] = (timesS (b, r, e, (j, t,
 n), c) x y).1.2.2.1 ∧ (0 : Int) = (timesS (b, r, e, (j, t, n), c) x y).1.2.2.2.1.1 ∧ (0 : Int) = (timesS (b, r, e, (j, t, n), c) x y).1.2.2.2.1.2.1 ∧ (0 : Int) = (timesS (b, r, e, (j, t, n), c) x y).1.2.2.2.1.2.2 ∧ [] = (timesS (b, r, e,
 (j, t, n), c) x y).1.2.2.2.2 ∧ (1 : Int) = (timesS (b, r, e, (j, t, n), c) x y).2) ∧ ((decide (y < (1 : Int)) || decide (y > (9 : Int))) = false → r.length ≤ (100 : Nat) ∧ e.length ≤ (100 : Nat) ∧ c.length ≤ (100 : Nat) ∧ (0 : Int) ≤ x ∧
 x < (↑r.length : Int) ∧ r.length = r.length ∧ r.length = r.length ∧ x.toNat < r.length ∧ r.length = r.length ∧ x.toNat < r.length ∧ r.length = (r.set x.toNat ((r.getD x.toNat T3T.d0).1, (r.getD x.toNat T3T.d0).2.1, y)).length ∧ e.length =
 e.length ∧ c.length = c.length ∧ okForm (b, r.set x.toNat ((r.getD x.toNat T3T.d0).1, (r.getD x.toNat T3T.d0).2.1, y), e, (j, t, n), c) = true ∧ ((!shortF (b, r.set x.toNat ((r.getD x.toNat T3T.d0).1, (r.getD x.toNat T3T.d0).2.1, y), e,
 (j, t, n), c)) = true → (0 : Int) = (timesS (b, r, e, (j, t, n), c) x y).1.1 ∧ [] = (timesS (b, r, e, (j, t, n), c) x y).1.2.1 ∧ [] = (timesS (b, r, e, (j, t, n), c) x y).1.2.2.1 ∧ (0 : Int) = (timesS (b, r, e, (j, t, n), c) x
 y).1.2.2.2.1.1 ∧ (0 : Int) = (timesS (b, r, e, (j, t, n), c) x y).1.2.2.2.1.2.1 ∧ (0 : Int) = (timesS (b, r, e, (j, t, n), c) x y).1.2.2.2.1.2.2 ∧ [] = (timesS (b, r, e, (j, t, n), c) x y).1.2.2.2.2 ∧ (2 : Int) = (timesS (b, r, e, (j, t,
 n), c) x y).2) ∧ ((!shortF (b, r.set x.toNat ((r.getD x.toNat T3T.d0).1, (r.getD x.toNat T3T.d0).2.1, y), e, (j, t, n), c)) = false → r.length = (r.set x.toNat ((r.getD x.toNat T3T.d0).1, (r.getD x.toNat T3T.d0).2.1, y)).length ∧ e.length
 = e.length ∧ c.length = c.length ∧ b = (timesS (b, r, e, (j, t, n), c) x y).1.1 ∧ r.set x.toNat ((r.getD x.toNat T3T.d0).1, (r.getD x.toNat T3T.d0).2.1, y) = (timesS (b, r, e, (j, t, n), c) x y).1.2.1 ∧ e = (timesS (b, r, e, (j, t, n), c)
 x y).1.2.2.1 ∧ j = (timesS (b, r, e, (j, t, n), c) x y).1.2.2.2.1.1 ∧ t = (timesS (b, r, e, (j, t, n), c) x y).1.2.2.2.1.2.1 ∧ n = (timesS (b, r, e, (j, t, n), c) x y).1.2.2.2.1.2.2 ∧ c = (timesS (b, r, e, (j, t, n), c) x y).1.2.2.2.2 ∧
 (0 : Int) = (timesS (b, r, e, (j, t, n), c) x y).2))))
end Go.Proofs.Ytcklbglladijlaa
