/- What is to be shown of each function, in plain terms. Written by a program (wip/tools/gen.py). -/
import Derived.Test.YtiplcokpckkopaaDoorFoldc
namespace Go.Proofs.YtiplcokpckkopaaDoor
open Go.Sy Go.RatLaw
set_option linter.unusedVariables false

def P_within (a b c : Int) : Prop :=
 (decide (b ≤ a) && decide (a ≤ c)) = (decide (b ≤ a) && decide (a ≤ c))
def P_rin (a b c : Int) : Prop :=
 (decide (b ≤ a) && decide (a ≤ c)) = (decide (b ≤ a) && decide (a ≤ c))
def P_isLength (n d : Int) : Prop :=
 ((vld n d && decide (n > (0 : Int))) = true → InI64 ((24 : Int) * d)) ∧ ((vld n d && decide (n > (0 : Int)) && decide (n ≤ (24 : Int) * d)) = true → d ≠ (0 : Int)) ∧ (vld n d && decide (n > (0 : Int)) && decide (n ≤ (24 : Int) * d) &&
 Int.tmod (1680 : Int) d == (0 : Int)) = lenB n d
def P_folds (p : Int) (ms : List Ms) : Prop :=
 (↑ms.length : Int) ≤ (9223372036854775807 : Int) → (decide ((↑ms.length : Int) > (4000 : Int)) = true → false = viewB ms) ∧ (decide ((↑ms.length : Int) > (4000 : Int)) = false → (↑ms.length : Int) ≤ (9223372036854775807 : Int) → (∃ (x :
 Nat), (x ≤ ms.length ∧ ∀ (m : Ms), m ∈ List.take x ms → okM m = true) ∧ (0 : Int) = (↑x : Int) ∧ (0 : Int) = nsW (List.take x ms)) ∧ ∀ (x : Nat), (x ≤ ms.length ∧ ∀ (m : Ms), m ∈ List.take x ms → okM m = true) → (decide ((↑x : Int) <
 (↑ms.length : Int)) = true → (0 : Int) ≤ (↑x : Int) ∧ (↑x : Int) < (↑ms.length : Int) ∧ ((↑(List.length (ms.getD (↑x : Int).toNat MT.d0).snd.snd.snd) : Int) ≤ (9223372036854775807 : Int) → ((!lenB (ms.getD (↑x : Int).toNat
 MT.d0).snd.snd.fst.fst (ms.getD (↑x : Int).toNat MT.d0).snd.snd.fst.snd || !(decide ((-7 : Int) ≤ (ms.getD (↑x : Int).toNat MT.d0).snd.fst) && decide ((ms.getD (↑x : Int).toNat MT.d0).snd.fst ≤ (7 : Int)))) = true → false = viewB ms) ∧
 ((!lenB (ms.getD (↑x : Int).toNat MT.d0).snd.snd.fst.fst (ms.getD (↑x : Int).toNat MT.d0).snd.snd.fst.snd || !(decide ((-7 : Int) ≤ (ms.getD (↑x : Int).toNat MT.d0).snd.fst) && decide ((ms.getD (↑x : Int).toNat MT.d0).snd.fst ≤ (7 :
 Int)))) = false → ∃ (x' : Nat), (x' ≤ ms.length ∧ ∀ (m : Ms), m ∈ List.take x' ms → okM m = true) ∧ ms.length - x' < ms.length - x ∧ IntKind.i64.wrap ((↑x : Int) + (1 : Int)) = (↑x' : Int) ∧ IntKind.i64.wrap (nsW (List.take x ms) +
 (↑(List.length (ms.getD (↑x : Int).toNat MT.d0).snd.snd.snd) : Int)) = nsW (List.take x' ms) ∧ (↑ms.length : Int) = (↑ms.length : Int) ∧ ms = ms ∧ decide ((↑ms.length : Int) > (4000 : Int)) = decide ((↑ms.length : Int) > (4000 : Int)) ∧ p
 = p ∧ ms = ms ∧ p = p ∧ ms = ms))) ∧ (decide ((↑x : Int) < (↑ms.length : Int)) = false → decide (nsW (List.take x ms) ≤ (20000 : Int)) = viewB ms))
def P_rView (p : Int) (ms : List Ms) : Prop :=
 (↑ms.length : Int) ≤ (9223372036854775807 : Int) → (decide ((↑ms.length : Int) > (4000 : Int)) = true → false = viewB ms) ∧ (decide ((↑ms.length : Int) > (4000 : Int)) = false → (∃ (x : Nat), (x ≤ ms.length ∧ ∀ (m : Ms), m ∈ List.take x
 ms → okM m = true) ∧ (0 : Int) = (↑x : Int) ∧ (0 : Int) = nsW (List.take x ms)) ∧ ∀ (x : Nat), (x ≤ ms.length ∧ ∀ (m : Ms), m ∈ List.take x ms → okM m = true) → (↑ms.length : Int) ≤ (9223372036854775807 : Int) → (decide ((↑x : Int) <
 (↑ms.length : Int)) = true → (0 : Int) ≤ (↑x : Int) ∧ (↑x : Int) < (↑ms.length : Int) ∧ ((↑(List.length (ms.getD (↑x : Int).toNat MT.d0).snd.snd.snd) : Int) ≤ (9223372036854775807 : Int) → ((!(decide ((1 : Int) ≤ tks (ms.getD (↑x :
 Int).toNat MT.d0).snd.snd.fst.fst (ms.getD (↑x : Int).toNat MT.d0).snd.snd.fst.snd) && decide (tks (ms.getD (↑x : Int).toNat MT.d0).snd.snd.fst.fst (ms.getD (↑x : Int).toNat MT.d0).snd.snd.fst.snd ≤ (40320 : Int))) || !(decide ((-7 : Int)
 ≤ (ms.getD (↑x : Int).toNat MT.d0).snd.fst) && decide ((ms.getD (↑x : Int).toNat MT.d0).snd.fst ≤ (7 : Int)))) = true → false = viewB ms) ∧ ((!(decide ((1 : Int) ≤ tks (ms.getD (↑x : Int).toNat MT.d0).snd.snd.fst.fst (ms.getD (↑x :
 Int).toNat MT.d0).snd.snd.fst.snd) && decide (tks (ms.getD (↑x : Int).toNat MT.d0).snd.snd.fst.fst (ms.getD (↑x : Int).toNat MT.d0).snd.snd.fst.snd ≤ (40320 : Int))) || !(decide ((-7 : Int) ≤ (ms.getD (↑x : Int).toNat MT.d0).snd.fst) &&
 decide ((ms.getD (↑x : Int).toNat MT.d0).snd.fst ≤ (7 : Int)))) = false → ∃ (x' : Nat), (x' ≤ ms.length ∧ ∀ (m : Ms), m ∈ List.take x' ms → okM m = true) ∧ ms.length - x' < ms.length - x ∧ IntKind.i64.wrap ((↑x : Int) + (1 : Int)) = (↑x'
 : Int) ∧ IntKind.i64.wrap (nsW (List.take x ms) + (↑(List.length (ms.getD (↑x : Int).toNat MT.d0).snd.snd.snd) : Int)) = nsW (List.take x' ms) ∧ decide ((↑ms.length : Int) > (4000 : Int)) = decide ((↑ms.length : Int) > (4000 : Int)) ∧ p =
 p ∧ ms = ms ∧ p = p ∧ ms = ms))) ∧ (decide ((↑x : Int) < (↑ms.length : Int)) = false → decide (nsW (List.take x ms) ≤ (20000 : Int)) = viewB ms))
def P_fewV (p : Int) (ms : List Ms) : Prop :=
 (∃ (x : Nat), (x ≤ ms.length ∧ x ≤ (100 : Nat)) ∧ (0 : Int) = (↑x : Int) ∧ (0 : Int) = nsW (List.take x ms)) ∧ ∀ (x : Nat), x ≤ ms.length ∧ x ≤ (100 : Nat) → (↑ms.length : Int) ≤ (9223372036854775807 : Int) → ((decide ((↑x : Int) <
 (↑ms.length : Int)) && decide ((↑x : Int) < (100 : Int))) = true → (0 : Int) ≤ (↑x : Int) ∧ (↑x : Int) < (↑ms.length : Int) ∧ ((↑(List.length (ms.getD (↑x : Int).toNat MT.d0).snd.snd.snd) : Int) ≤ (9223372036854775807 : Int) → ∃ (x' :
 Nat), (x' ≤ ms.length ∧ x' ≤ (100 : Nat)) ∧ ms.length - x' < ms.length - x ∧ IntKind.i64.wrap ((↑x : Int) + (1 : Int)) = (↑x' : Int) ∧ IntKind.i64.wrap (nsW (List.take x ms) + (↑(List.length (ms.getD (↑x : Int).toNat MT.d0).snd.snd.snd) :
 Int)) = nsW (List.take x' ms) ∧ false = false ∧ p = p ∧ ms = ms ∧ p = p ∧ ms = ms)) ∧ ((decide ((↑x : Int) < (↑ms.length : Int)) && decide ((↑x : Int) < (100 : Int))) = false → (↑ms.length : Int) ≤ (9223372036854775807 : Int) → (decide
 ((↑ms.length : Int) ≤ (60 : Int)) && decide (nsW (List.take x ms) ≤ (60 : Int))) = fewB ms)
def P_bend (f r : Int) : Prop :=
 InI64 (f + if r > (1 : Int) then r else (1 : Int)) ∧ (f + if r > (1 : Int) then r else (1 : Int)) = endB (f, r)
def P_rEnd (f r : Int) : Prop :=
 InI64 (f + if r > (1 : Int) then r else (1 : Int)) ∧ (f + if r > (1 : Int) then r else (1 : Int)) = endB (f, r)
def P_areBlocks (l : List Bk) : Prop :=
 (↑l.length : Int) ≤ (9223372036854775807 : Int) → (∃ (x : Nat), (x ≤ l.length ∧ blkB l = blkFrom (lastB l x) (List.drop x l) ∧ (0 : Int) ≤ lastB l x ∧ lastB l x ≤ (4000 : Int)) ∧ (0 : Int) = (↑x : Int) ∧ (0 : Int) = lastB l x) ∧ ∀ (x :
 Nat), x ≤ l.length ∧ blkB l = blkFrom (lastB l x) (List.drop x l) ∧ (0 : Int) ≤ lastB l x ∧ lastB l x ≤ (4000 : Int) → (decide ((↑x : Int) < (↑l.length : Int)) = true → (0 : Int) ≤ (↑x : Int) ∧ (↑x : Int) < (↑l.length : Int) ∧ ((!(decide
 (lastB l x ≤ (l.getD (↑x : Int).toNat KT.d0).fst) && decide ((l.getD (↑x : Int).toNat KT.d0).fst ≤ (4000 : Int))) || !(decide ((0 : Int) ≤ (l.getD (↑x : Int).toNat KT.d0).snd) && decide ((l.getD (↑x : Int).toNat KT.d0).snd ≤ (4000 :
 Int)))) = false → InI64 (endB ((l.getD (↑x : Int).toNat KT.d0).fst, (l.getD (↑x : Int).toNat KT.d0).snd))) ∧ ((!(decide (lastB l x ≤ (l.getD (↑x : Int).toNat KT.d0).fst) && decide ((l.getD (↑x : Int).toNat KT.d0).fst ≤ (4000 : Int))) ||
 !(decide ((0 : Int) ≤ (l.getD (↑x : Int).toNat KT.d0).snd) && decide ((l.getD (↑x : Int).toNat KT.d0).snd ≤ (4000 : Int))) || decide (endB ((l.getD (↑x : Int).toNat KT.d0).fst, (l.getD (↑x : Int).toNat KT.d0).snd) > (4000 : Int))) = true
 → false = blkB l) ∧ ((!(decide (lastB l x ≤ (l.getD (↑x : Int).toNat KT.d0).fst) && decide ((l.getD (↑x : Int).toNat KT.d0).fst ≤ (4000 : Int))) || !(decide ((0 : Int) ≤ (l.getD (↑x : Int).toNat KT.d0).snd) && decide ((l.getD (↑x :
 Int).toNat KT.d0).snd ≤ (4000 : Int))) || decide (endB ((l.getD (↑x : Int).toNat KT.d0).fst, (l.getD (↑x : Int).toNat KT.d0).snd) > (4000 : Int))) = false → InI64 (endB ((l.getD (↑x : Int).toNat KT.d0).fst, (l.getD (↑x : Int).toNat
 KT.d0).snd)) ∧ InI64 ((↑x : Int) + (1 : Int)) ∧ ∃ (x' : Nat), (x' ≤ l.length ∧ blkB l = blkFrom (lastB l x') (List.drop x' l) ∧ (0 : Int) ≤ lastB l x' ∧ lastB l x' ≤ (4000 : Int)) ∧ l.length - x' < l.length - x ∧ (↑x : Int) + (1 : Int) =
 (↑x' : Int) ∧ endB ((l.getD (↑x : Int).toNat KT.d0).fst, (l.getD (↑x : Int).toNat KT.d0).snd) = lastB l x' ∧ (↑l.length : Int) = (↑l.length : Int) ∧ l = l ∧ l = l)) ∧ (decide ((↑x : Int) < (↑l.length : Int)) = false → true = blkB l)
def P_rBlocks (l : List Bk) : Prop :=
 (∃ (x : Nat), (x ≤ l.length ∧ blkB l = blkFrom (lastB l x) (List.drop x l) ∧ (0 : Int) ≤ lastB l x ∧ lastB l x ≤ (4000 : Int)) ∧ (0 : Int) = (↑x : Int) ∧ (0 : Int) = lastB l x) ∧ ∀ (x : Nat), x ≤ l.length ∧ blkB l = blkFrom (lastB l x)
 (List.drop x l) ∧ (0 : Int) ≤ lastB l x ∧ lastB l x ≤ (4000 : Int) → (↑l.length : Int) ≤ (9223372036854775807 : Int) → (decide ((↑x : Int) < (↑l.length : Int)) = true → (0 : Int) ≤ (↑x : Int) ∧ (↑x : Int) < (↑l.length : Int) ∧ (decide
 ((l.getD (↑x : Int).toNat KT.d0).fst < lastB l x) = false → (0 : Int) ≤ (↑x : Int) ∧ (↑x : Int) < (↑l.length : Int)) ∧ ((decide ((l.getD (↑x : Int).toNat KT.d0).fst < lastB l x) || !(decide ((0 : Int) ≤ (l.getD (↑x : Int).toNat
 KT.d0).snd) && decide ((l.getD (↑x : Int).toNat KT.d0).snd ≤ (4000 : Int)))) = false → (0 : Int) ≤ (↑x : Int) ∧ (↑x : Int) < (↑l.length : Int)) ∧ ((decide ((l.getD (↑x : Int).toNat KT.d0).fst < lastB l x) || !(decide ((0 : Int) ≤ (l.getD
 (↑x : Int).toNat KT.d0).snd) && decide ((l.getD (↑x : Int).toNat KT.d0).snd ≤ (4000 : Int))) || decide ((l.getD (↑x : Int).toNat KT.d0).fst > (4000 : Int))) = false → (0 : Int) ≤ (↑x : Int) ∧ (↑x : Int) < (↑l.length : Int)) ∧ ((decide
 ((l.getD (↑x : Int).toNat KT.d0).fst < lastB l x) || !(decide ((0 : Int) ≤ (l.getD (↑x : Int).toNat KT.d0).snd) && decide ((l.getD (↑x : Int).toNat KT.d0).snd ≤ (4000 : Int))) || decide ((l.getD (↑x : Int).toNat KT.d0).fst > (4000 :
 Int))) = false → InI64 (endB ((l.getD (↑x : Int).toNat KT.d0).fst, (l.getD (↑x : Int).toNat KT.d0).snd))) ∧ ((decide ((l.getD (↑x : Int).toNat KT.d0).fst < lastB l x) || !(decide ((0 : Int) ≤ (l.getD (↑x : Int).toNat KT.d0).snd) && decide
 ((l.getD (↑x : Int).toNat KT.d0).snd ≤ (4000 : Int))) || decide ((l.getD (↑x : Int).toNat KT.d0).fst > (4000 : Int)) || decide (endB ((l.getD (↑x : Int).toNat KT.d0).fst, (l.getD (↑x : Int).toNat KT.d0).snd) > (4000 : Int))) = true →
 false = blkB l) ∧ ((decide ((l.getD (↑x : Int).toNat KT.d0).fst < lastB l x) || !(decide ((0 : Int) ≤ (l.getD (↑x : Int).toNat KT.d0).snd) && decide ((l.getD (↑x : Int).toNat KT.d0).snd ≤ (4000 : Int))) || decide ((l.getD (↑x : Int).toNat
 KT.d0).fst > (4000 : Int)) || decide (endB ((l.getD (↑x : Int).toNat KT.d0).fst, (l.getD (↑x : Int).toNat KT.d0).snd) > (4000 : Int))) = false → (0 : Int) ≤ (↑x : Int) ∧ (↑x : Int) < (↑l.length : Int) ∧ InI64 (endB ((l.getD (↑x :
 Int).toNat KT.d0).fst, (l.getD (↑x : Int).toNat KT.d0).snd)) ∧ InI64 ((↑x : Int) + (1 : Int)) ∧ ∃ (x' : Nat), (x' ≤ l.length ∧ blkB l = blkFrom (lastB l x') (List.drop x' l) ∧ (0 : Int) ≤ lastB l x' ∧ lastB l x' ≤ (4000 : Int)) ∧ l.length
 - x' < l.length - x ∧ (↑x : Int) + (1 : Int) = (↑x' : Int) ∧ endB ((l.getD (↑x : Int).toNat KT.d0).fst, (l.getD (↑x : Int).toNat KT.d0).snd) = lastB l x' ∧ l = l)) ∧ (decide ((↑x : Int) < (↑l.length : Int)) = false → true = blkB l)
def P_sounds (b k n d : Int) (l : List Wr) : Prop :=
 (↑l.length : Int) ≤ (9223372036854775807 : Int) → decide ((↑l.length : Int) > (0 : Int)) = soundsM (b, k, (n, d), l)
def P_idxM (l : List Ms) : Prop :=
 (↑l.length : Int) ≤ (9223372036854775807 : Int) → (∃ (x : Nat), (x ≤ l.length ∧ ∀ (k : Nat), k < x → soundsM (l.getD k ms0) = false) ∧ (0 : Int) = (↑x : Int)) ∧ ∀ (x : Nat), (x ≤ l.length ∧ ∀ (k : Nat), k < x → soundsM (l.getD k ms0) =
 false) → (decide ((↑x : Int) < (↑l.length : Int)) = true → (0 : Int) ≤ (↑x : Int) ∧ (↑x : Int) < (↑l.length : Int) ∧ (soundsM ((l.getD (↑x : Int).toNat MT.d0).fst, (l.getD (↑x : Int).toNat MT.d0).snd.fst, ((l.getD (↑x : Int).toNat
 MT.d0).snd.snd.fst.fst, (l.getD (↑x : Int).toNat MT.d0).snd.snd.fst.snd), (l.getD (↑x : Int).toNat MT.d0).snd.snd.snd) = true → (↑x : Int) = idxOf soundsM l) ∧ (soundsM ((l.getD (↑x : Int).toNat MT.d0).fst, (l.getD (↑x : Int).toNat
 MT.d0).snd.fst, ((l.getD (↑x : Int).toNat MT.d0).snd.snd.fst.fst, (l.getD (↑x : Int).toNat MT.d0).snd.snd.fst.snd), (l.getD (↑x : Int).toNat MT.d0).snd.snd.snd) = false → InI64 ((↑x : Int) + (1 : Int)) ∧ ∃ (x' : Nat), (x' ≤ l.length ∧ ∀
 (k : Nat), k < x' → soundsM (l.getD k ms0) = false) ∧ l.length - x' < l.length - x ∧ (↑x : Int) + (1 : Int) = (↑x' : Int) ∧ (↑l.length : Int) = (↑l.length : Int) ∧ l = l ∧ coL (LV.clo (48 : FuncId) [] []) (LV.clo (48 : FuncId) [] []) =
 LV.clo (48 : FuncId) [] [])) ∧ (decide ((↑x : Int) < (↑l.length : Int)) = false → (-1 : Int) = idxOf soundsM l)
def P_conM (l : List Ms) : Prop :=
 decide (idxOf soundsM l ≥ (0 : Int)) = l.any soundsM
def P_width (b k n d : Int) (l : List Wr) : Prop :=
 (↑l.length : Int) ≤ (9223372036854775807 : Int) → (∃ (x : Nat), x ≤ l.length ∧ (0 : Int) = (↑x : Int) ∧ [] = distM (startsW (List.take x l))) ∧ ∀ (x : Nat), x ≤ l.length → (decide ((↑x : Int) < (↑l.length : Int)) = true → (0 : Int) ≤ (↑x
 : Int) ∧ (↑x : Int) < (↑l.length : Int) ∧ ∃ (x' : Nat), x' ≤ l.length ∧ l.length - x' < l.length - x ∧ IntKind.i64.wrap ((↑x : Int) + (1 : Int)) = (↑x' : Int) ∧ (↑l.length : Int) = (↑l.length : Int) ∧ l = l ∧ (0 : Int) = (0 : Int) ∧ b = b
 ∧ k = k ∧ n = n ∧ d = d ∧ l = l ∧ mput ((Ty.ti IntKind.i64).tp (Ty.ti IntKind.i64)).beq ((l.getD (↑x : Int).toNat WT.d0).snd.snd.snd.fst.fst, (l.getD (↑x : Int).toNat WT.d0).snd.snd.snd.fst.snd) true (distM (startsW (List.take x l))) =
 distM (startsW (List.take x' l)) ∧ b = b ∧ k = k ∧ n = n ∧ d = d ∧ l = l) ∧ (decide ((↑x : Int) < (↑l.length : Int)) = false → (if IntKind.i64.wrap ((20 : Int) + IntKind.i64.wrap ((10 : Int) * (↑(distM (startsW (List.take x l))).length :
 Int))) < (1000 : Int) then IntKind.i64.wrap ((20 : Int) + IntKind.i64.wrap ((10 : Int) * (↑(distM (startsW (List.take x l))).length : Int))) else (1000 : Int)) = widthB l)
def P_starts (l : List Wr) : Prop :=
 (∃ (x : Nat), x ≤ l.length ∧ (0 : Int) = (↑x : Int) ∧ (0 : Int) = (↑(dist (startsW (List.take x l))).length : Int)) ∧ ∀ (x : Nat), x ≤ l.length → (↑l.length : Int) ≤ (9223372036854775807 : Int) → (decide ((↑x : Int) < (↑l.length : Int)) =
 true → (∃ (x_1 : Nat), x_1 ≤ (↑x : Int).toNat ∧ (0 : Int) = (↑x_1 : Int) ∧ true = !decide (startW (l.getD (↑x : Int).toNat wr0) ∈ startsW (List.take x_1 l))) ∧ ∀ (x_1 : Nat), x_1 ≤ (↑x : Int).toNat → (decide ((↑x_1 : Int) < (↑x : Int)) =
 true → (0 : Int) ≤ (↑x_1 : Int) ∧ (↑x_1 : Int) < (↑l.length : Int) ∧ (0 : Int) ≤ (↑x : Int) ∧ (↑x : Int) < (↑l.length : Int) ∧ (((l.getD (↑x_1 : Int).toNat WT.d0).snd.snd.snd.fst.fst == (l.getD (↑x : Int).toNat WT.d0).snd.snd.snd.fst.fst
 && (l.getD (↑x_1 : Int).toNat WT.d0).snd.snd.snd.fst.snd == (l.getD (↑x : Int).toNat WT.d0).snd.snd.snd.fst.snd) = true → InI64 ((↑x_1 : Int) + (1 : Int)) ∧ ∃ (x' : Nat), x' ≤ (↑x : Int).toNat ∧ (↑x : Int).toNat - x' < (↑x : Int).toNat -
 x_1 ∧ (↑x_1 : Int) + (1 : Int) = (↑x' : Int) ∧ false = !decide (startW (l.getD (↑x : Int).toNat wr0) ∈ startsW (List.take x' l)) ∧ decide ((↑x : Int) < (↑l.length : Int)) = decide ((↑x : Int) < (↑l.length : Int)) ∧ (↑x : Int) = (↑x : Int)
 ∧ (↑(dist (startsW (List.take x l))).length : Int) = (↑(dist (startsW (List.take x l))).length : Int) ∧ (0 : Int) = (0 : Int) ∧ l = l) ∧ (((l.getD (↑x_1 : Int).toNat WT.d0).snd.snd.snd.fst.fst == (l.getD (↑x : Int).toNat
 WT.d0).snd.snd.snd.fst.fst && (l.getD (↑x_1 : Int).toNat WT.d0).snd.snd.snd.fst.snd == (l.getD (↑x : Int).toNat WT.d0).snd.snd.snd.fst.snd) = false → InI64 ((↑x_1 : Int) + (1 : Int)) ∧ ∃ (x' : Nat), x' ≤ (↑x : Int).toNat ∧ (↑x :
 Int).toNat - x' < (↑x : Int).toNat - x_1 ∧ (↑x_1 : Int) + (1 : Int) = (↑x' : Int) ∧ (!decide (startW (l.getD (↑x : Int).toNat wr0) ∈ startsW (List.take x_1 l))) = !decide (startW (l.getD (↑x : Int).toNat wr0) ∈ startsW (List.take x' l)) ∧
 decide ((↑x : Int) < (↑l.length : Int)) = decide ((↑x : Int) < (↑l.length : Int)) ∧ (↑x : Int) = (↑x : Int) ∧ (↑(dist (startsW (List.take x l))).length : Int) = (↑(dist (startsW (List.take x l))).length : Int) ∧ (0 : Int) = (0 : Int) ∧ l
 = l)) ∧ (decide ((↑x_1 : Int) < (↑x : Int)) = false → ((!decide (startW (l.getD (↑x : Int).toNat wr0) ∈ startsW (List.take x_1 l))) = true → InI64 ((↑(dist (startsW (List.take x l))).length : Int) + (1 : Int)) ∧ InI64 ((↑x : Int) + (1 :
 Int)) ∧ ∃ (x' : Nat), x' ≤ l.length ∧ l.length - x' < l.length - x ∧ (↑x : Int) + (1 : Int) = (↑x' : Int) ∧ (↑(dist (startsW (List.take x l))).length : Int) + (1 : Int) = (↑(dist (startsW (List.take x' l))).length : Int) ∧ (0 : Int) = (0
 : Int) ∧ l = l) ∧ ((!decide (startW (l.getD (↑x : Int).toNat wr0) ∈ startsW (List.take x_1 l))) = false → InI64 ((↑x : Int) + (1 : Int)) ∧ ∃ (x' : Nat), x' ≤ l.length ∧ l.length - x' < l.length - x ∧ (↑x : Int) + (1 : Int) = (↑x' : Int) ∧
 (↑(dist (startsW (List.take x l))).length : Int) = (↑(dist (startsW (List.take x' l))).length : Int) ∧ (0 : Int) = (0 : Int) ∧ l = l))) ∧ (decide ((↑x : Int) < (↑l.length : Int)) = false → (↑(dist (startsW (List.take x l))).length : Int)
 = (↑(dist (startsW l)).length : Int))
def P_widths (p : Int) (ms : List Ms) (l : List Bk) : Prop :=
 ((!viewB ms || !blkB l) = true → [] = (widthsS ms l).fst ∧ (1 : Int) = (widthsS ms l).snd) ∧ ((!viewB ms || !blkB l) = false → (↑l.length : Int) ≤ (9223372036854775807 : Int) → (∃ (x : Nat), (x ≤ l.length ∧ (List.take x l).all (widOk ms)
 = true) ∧ (0 : Int) = (↑x : Int) ∧ [] = List.map (widB ms) (List.take x l) ∧ (0 : Nat) = (List.map (widB ms) (List.take x l)).length) ∧ ∀ (x : Nat), x ≤ l.length ∧ (List.take x l).all (widOk ms) = true → (decide ((↑x : Int) < (↑l.length :
 Int)) = true → (0 : Int) ≤ (↑x : Int) ∧ (↑x : Int) < (↑l.length : Int) ∧ InI64 (endB ((l.getD (↑x : Int).toNat KT.d0).fst, (l.getD (↑x : Int).toNat KT.d0).snd)) ∧ (decide ((l.getD (↑x : Int).toNat KT.d0).snd > (0 : Int)) = true ∧ decide
 (endB ((l.getD (↑x : Int).toNat KT.d0).fst, (l.getD (↑x : Int).toNat KT.d0).snd) > (↑ms.length : Int)) = false → InI64 (endB ((l.getD (↑x : Int).toNat KT.d0).fst, (l.getD (↑x : Int).toNat KT.d0).snd))) ∧ (decide ((l.getD (↑x : Int).toNat
 KT.d0).snd > (0 : Int)) = true ∧ decide (endB ((l.getD (↑x : Int).toNat KT.d0).fst, (l.getD (↑x : Int).toNat KT.d0).snd) > (↑ms.length : Int)) = false → (0 : Int) ≤ (l.getD (↑x : Int).toNat KT.d0).fst ∧ (l.getD (↑x : Int).toNat KT.d0).fst
 ≤ endB ((l.getD (↑x : Int).toNat KT.d0).fst, (l.getD (↑x : Int).toNat KT.d0).snd) ∧ endB ((l.getD (↑x : Int).toNat KT.d0).fst, (l.getD (↑x : Int).toNat KT.d0).snd) ≤ (↑ms.length : Int)) ∧ ((↑ms.length : Int) ≤ (9223372036854775807 : Int)
 → ((decide (endB ((l.getD (↑x : Int).toNat KT.d0).fst, (l.getD (↑x : Int).toNat KT.d0).snd) > (↑ms.length : Int)) || decide ((l.getD (↑x : Int).toNat KT.d0).snd > (0 : Int)) && (List.drop (Int.toNat (l.getD (↑x : Int).toNat KT.d0).fst)
 (List.take (endB ((l.getD (↑x : Int).toNat KT.d0).fst, (l.getD (↑x : Int).toNat KT.d0).snd)).toNat ms)).any soundsM) = true → [] = (widthsS ms l).fst ∧ (1 : Int) = (widthsS ms l).snd) ∧ ((decide (endB ((l.getD (↑x : Int).toNat KT.d0).fst,
 (l.getD (↑x : Int).toNat KT.d0).snd) > (↑ms.length : Int)) || decide ((l.getD (↑x : Int).toNat KT.d0).snd > (0 : Int)) && (List.drop (Int.toNat (l.getD (↑x : Int).toNat KT.d0).fst) (List.take (endB ((l.getD (↑x : Int).toNat KT.d0).fst,
 (l.getD (↑x : Int).toNat KT.d0).snd)).toNat ms)).any soundsM) = false → (((l.getD (↑x : Int).toNat KT.d0).snd == (0 : Int)) = true → (0 : Int) ≤ (l.getD (↑x : Int).toNat KT.d0).fst ∧ (l.getD (↑x : Int).toNat KT.d0).fst < (↑ms.length :
 Int) ∧ (List.map (widB ms) (List.take x l)).length = (List.map (widB ms) (List.take x l)).length ∧ ((List.map (widB ms) (List.take x l)).length + ((0 : Nat) + (1 : Nat))) * (8 : Nat) ≤ (140737488355328 : Nat) ∧ InI64 ((↑x : Int) + (1 :
 Int)) ∧ ∃ (x' : Nat), (x' ≤ l.length ∧ (List.take x' l).all (widOk ms) = true) ∧ l.length - x' < l.length - x ∧ (↑x : Int) + (1 : Int) = (↑x' : Int) ∧ List.map (widB ms) (List.take x l) ++ [widthB (ms.getD (Int.toNat (l.getD (↑x :
 Int).toNat KT.d0).fst) MT.d0).snd.snd.snd] = List.map (widB ms) (List.take x' l) ∧ (↑l.length : Int) = (↑l.length : Int) ∧ l = l ∧ coL (LV.clo (48 : Nat) [] []) (LV.clo (48 : Nat) [] []) = LV.clo (48 : Nat) [] [] ∧ (!viewB ms || !blkB l)
 = (!viewB ms || !blkB l) ∧ p = p ∧ ms = ms ∧ l = l ∧ (List.map (widB ms) (List.take x l)).length + ((0 : Nat) + (1 : Nat)) = (List.map (widB ms) (List.take x' l)).length ∧ (0 : Nat) = (0 : Nat) ∧ p = p ∧ ms = ms) ∧ (((l.getD (↑x :
 Int).toNat KT.d0).snd == (0 : Int)) = false → (((l.getD (↑x : Int).toNat KT.d0).snd == (1 : Int)) = true → (List.map (widB ms) (List.take x l)).length = (List.map (widB ms) (List.take x l)).length ∧ ((List.map (widB ms) (List.take x
 l)).length + ((0 : Nat) + (1 : Nat))) * (8 : Nat) ≤ (140737488355328 : Nat) ∧ InI64 ((↑x : Int) + (1 : Int)) ∧ ∃ (x' : Nat), (x' ≤ l.length ∧ (List.take x' l).all (widOk ms) = true) ∧ l.length - x' < l.length - x ∧ (↑x : Int) + (1 : Int)
 = (↑x' : Int) ∧ List.map (widB ms) (List.take x l) ++ [(20 : Int)] = List.map (widB ms) (List.take x' l) ∧ (↑l.length : Int) = (↑l.length : Int) ∧ l = l ∧ coL (LV.clo (48 : Nat) [] []) (LV.clo (48 : Nat) [] []) = LV.clo (48 : Nat) [] [] ∧
 (!viewB ms || !blkB l) = (!viewB ms || !blkB l) ∧ p = p ∧ ms = ms ∧ l = l ∧ (List.map (widB ms) (List.take x l)).length + ((0 : Nat) + (1 : Nat)) = (List.map (widB ms) (List.take x' l)).length ∧ (0 : Nat) = (0 : Nat) ∧ p = p ∧ ms = ms) ∧
 (((l.getD (↑x : Int).toNat KT.d0).snd == (1 : Int)) = false → (List.map (widB ms) (List.take x l)).length = (List.map (widB ms) (List.take x l)).length ∧ ((List.map (widB ms) (List.take x l)).length + ((0 : Nat) + (1 : Nat))) * (8 : Nat)
 ≤ (140737488355328 : Nat) ∧ InI64 ((↑x : Int) + (1 : Int)) ∧ ∃ (x' : Nat), (x' ≤ l.length ∧ (List.take x' l).all (widOk ms) = true) ∧ l.length - x' < l.length - x ∧ (↑x : Int) + (1 : Int) = (↑x' : Int) ∧ List.map (widB ms) (List.take x l)
 ++ [(30 : Int)] = List.map (widB ms) (List.take x' l) ∧ (↑l.length : Int) = (↑l.length : Int) ∧ l = l ∧ coL (LV.clo (48 : Nat) [] []) (LV.clo (48 : Nat) [] []) = LV.clo (48 : Nat) [] [] ∧ (!viewB ms || !blkB l) = (!viewB ms || !blkB l) ∧
 p = p ∧ ms = ms ∧ l = l ∧ (List.map (widB ms) (List.take x l)).length + ((0 : Nat) + (1 : Nat)) = (List.map (widB ms) (List.take x' l)).length ∧ (0 : Nat) = (0 : Nat) ∧ p = p ∧ ms = ms))))) ∧ (decide ((↑x : Int) < (↑l.length : Int)) =
 false → List.map (widB ms) (List.take x l) = (widthsS ms l).fst ∧ (0 : Int) = (widthsS ms l).snd))
def P_rWidths (p : Int) (ms : List Ms) (l : List Bk) : Prop :=
 ((!viewB ms || !blkB l) = true → [] = (widthsS ms l).fst ∧ (1 : Int) = (widthsS ms l).snd) ∧ ((!viewB ms || !blkB l) = false → (∃ (x : Nat), (x ≤ l.length ∧ (List.take x l).all (widOk ms) = true) ∧ (0 : Int) = (↑x : Int) ∧ [] = List.map
 (widB ms) (List.take x l) ∧ (0 : Nat) = (List.map (widB ms) (List.take x l)).length) ∧ ∀ (x : Nat), x ≤ l.length ∧ (List.take x l).all (widOk ms) = true → (↑l.length : Int) ≤ (9223372036854775807 : Int) → (decide ((↑x : Int) < (↑l.length
 : Int)) = true → (0 : Int) ≤ (↑x : Int) ∧ (↑x : Int) < (↑l.length : Int) ∧ InI64 (endB ((l.getD (↑x : Int).toNat KT.d0).fst, (l.getD (↑x : Int).toNat KT.d0).snd)) ∧ ((↑ms.length : Int) ≤ (9223372036854775807 : Int) → (decide (endB
 ((l.getD (↑x : Int).toNat KT.d0).fst, (l.getD (↑x : Int).toNat KT.d0).snd) > (↑ms.length : Int)) = true → [] = (widthsS ms l).fst ∧ (1 : Int) = (widthsS ms l).snd) ∧ (decide (endB ((l.getD (↑x : Int).toNat KT.d0).fst, (l.getD (↑x :
 Int).toNat KT.d0).snd) > (↑ms.length : Int)) = false → (0 : Int) ≤ (↑x : Int) ∧ (↑x : Int) < (↑l.length : Int) ∧ (∃ (x_1 : Nat), (x_1 ≤ (spanB (l.getD (↑x : Int).toNat bk0)).length ∧ ∀ (j : Nat), j < x_1 → (l.getD (↑x : Int).toNat
 bk0).snd > (0 : Int) ∧ soundsM (ms.getD ((l.getD (↑x : Int).toNat bk0).fst.toNat + j) ms0) = true → False) ∧ (l.getD (↑x : Int).toNat KT.d0).fst = (l.getD (↑x : Int).toNat bk0).fst + (↑x_1 : Int)) ∧ ∀ (x_1 : Nat), (x_1 ≤ (spanB (l.getD
 (↑x : Int).toNat bk0)).length ∧ ∀ (j : Nat), j < x_1 → (l.getD (↑x : Int).toNat bk0).snd > (0 : Int) ∧ soundsM (ms.getD ((l.getD (↑x : Int).toNat bk0).fst.toNat + j) ms0) = true → False) → (0 : Int) ≤ (↑x : Int) ∧ (↑x : Int) < (↑l.length
 : Int) ∧ InI64 (endB ((l.getD (↑x : Int).toNat KT.d0).fst, (l.getD (↑x : Int).toNat KT.d0).snd)) ∧ (decide ((l.getD (↑x : Int).toNat bk0).fst + (↑x_1 : Int) < endB ((l.getD (↑x : Int).toNat KT.d0).fst, (l.getD (↑x : Int).toNat
 KT.d0).snd)) = true → (0 : Int) ≤ (↑x : Int) ∧ (↑x : Int) < (↑l.length : Int) ∧ (decide ((l.getD (↑x : Int).toNat KT.d0).snd > (0 : Int)) = true → (0 : Int) ≤ (l.getD (↑x : Int).toNat bk0).fst + (↑x_1 : Int) ∧ (l.getD (↑x : Int).toNat
 bk0).fst + (↑x_1 : Int) < (↑ms.length : Int)) ∧ ((decide ((l.getD (↑x : Int).toNat KT.d0).snd > (0 : Int)) = true → (↑(List.length (ms.getD ((l.getD (↑x : Int).toNat bk0).fst + (↑x_1 : Int)).toNat MT.d0).snd.snd.snd) : Int) ≤
 (9223372036854775807 : Int)) → ((decide ((l.getD (↑x : Int).toNat KT.d0).snd > (0 : Int)) && decide ((↑(List.length (ms.getD ((l.getD (↑x : Int).toNat bk0).fst + (↑x_1 : Int)).toNat MT.d0).snd.snd.snd) : Int) > (0 : Int))) = true → [] =
 (widthsS ms l).fst ∧ (1 : Int) = (widthsS ms l).snd) ∧ ((decide ((l.getD (↑x : Int).toNat KT.d0).snd > (0 : Int)) && decide ((↑(List.length (ms.getD ((l.getD (↑x : Int).toNat bk0).fst + (↑x_1 : Int)).toNat MT.d0).snd.snd.snd) : Int) > (0
 : Int))) = false → ∃ (x' : Nat), (x' ≤ (spanB (l.getD (↑x : Int).toNat bk0)).length ∧ ∀ (j : Nat), j < x' → (l.getD (↑x : Int).toNat bk0).snd > (0 : Int) ∧ soundsM (ms.getD ((l.getD (↑x : Int).toNat bk0).fst.toNat + j) ms0) = true →
 False) ∧ (spanB (l.getD (↑x : Int).toNat bk0)).length - x' < (spanB (l.getD (↑x : Int).toNat bk0)).length - x_1 ∧ IntKind.i64.wrap ((l.getD (↑x : Int).toNat bk0).fst + (↑x_1 : Int) + (1 : Int)) = (l.getD (↑x : Int).toNat bk0).fst + (↑x' :
 Int) ∧ decide (endB ((l.getD (↑x : Int).toNat KT.d0).fst, (l.getD (↑x : Int).toNat KT.d0).snd) > (↑ms.length : Int)) = decide (endB ((l.getD (↑x : Int).toNat KT.d0).fst, (l.getD (↑x : Int).toNat KT.d0).snd) > (↑ms.length : Int)) ∧ decide
 ((↑x : Int) < (↑l.length : Int)) = decide ((↑x : Int) < (↑l.length : Int)) ∧ (↑x : Int) = (↑x : Int) ∧ List.map (widB ms) (List.take x l) = List.map (widB ms) (List.take x l) ∧ (!viewB ms || !blkB l) = (!viewB ms || !blkB l) ∧ blkB l =
 blkB l ∧ viewB ms = viewB ms ∧ p = p ∧ ms = ms ∧ l = l ∧ (List.map (widB ms) (List.take x l)).length = (List.map (widB ms) (List.take x l)).length ∧ (0 : Nat) = (0 : Nat) ∧ p = p ∧ ms = ms))) ∧ (decide ((l.getD (↑x : Int).toNat bk0).fst +
 (↑x_1 : Int) < endB ((l.getD (↑x : Int).toNat KT.d0).fst, (l.getD (↑x : Int).toNat KT.d0).snd)) = false → (0 : Int) ≤ (↑x : Int) ∧ (↑x : Int) < (↑l.length : Int) ∧ (decide ((l.getD (↑x : Int).toNat KT.d0).snd > (1 : Int)) = true →
 (List.map (widB ms) (List.take x l)).length = (List.map (widB ms) (List.take x l)).length ∧ ((List.map (widB ms) (List.take x l)).length + ((0 : Nat) + (1 : Nat))) * (8 : Nat) ≤ (140737488355328 : Nat) ∧ ∃ (x' : Nat), (x' ≤ l.length ∧
 (List.take x' l).all (widOk ms) = true) ∧ l.length - x' < l.length - x ∧ IntKind.i64.wrap ((↑x : Int) + (1 : Int)) = (↑x' : Int) ∧ List.map (widB ms) (List.take x l) ++ [(30 : Int)] = List.map (widB ms) (List.take x' l) ∧ (!viewB ms ||
 !blkB l) = (!viewB ms || !blkB l) ∧ blkB l = blkB l ∧ viewB ms = viewB ms ∧ p = p ∧ ms = ms ∧ l = l ∧ (List.map (widB ms) (List.take x l)).length + ((0 : Nat) + (1 : Nat)) = (List.map (widB ms) (List.take x' l)).length ∧ (0 : Nat) = (0 :
 Nat) ∧ p = p ∧ ms = ms) ∧ (decide ((l.getD (↑x : Int).toNat KT.d0).snd > (1 : Int)) = false → (0 : Int) ≤ (↑x : Int) ∧ (↑x : Int) < (↑l.length : Int) ∧ (((l.getD (↑x : Int).toNat KT.d0).snd == (1 : Int)) = true → (List.map (widB ms)
 (List.take x l)).length = (List.map (widB ms) (List.take x l)).length ∧ ((List.map (widB ms) (List.take x l)).length + ((0 : Nat) + (1 : Nat))) * (8 : Nat) ≤ (140737488355328 : Nat) ∧ ∃ (x' : Nat), (x' ≤ l.length ∧ (List.take x' l).all
 (widOk ms) = true) ∧ l.length - x' < l.length - x ∧ IntKind.i64.wrap ((↑x : Int) + (1 : Int)) = (↑x' : Int) ∧ List.map (widB ms) (List.take x l) ++ [(20 : Int)] = List.map (widB ms) (List.take x' l) ∧ (!viewB ms || !blkB l) = (!viewB ms
 || !blkB l) ∧ blkB l = blkB l ∧ viewB ms = viewB ms ∧ p = p ∧ ms = ms ∧ l = l ∧ (List.map (widB ms) (List.take x l)).length + ((0 : Nat) + (1 : Nat)) = (List.map (widB ms) (List.take x' l)).length ∧ (0 : Nat) = (0 : Nat) ∧ p = p ∧ ms =
 ms) ∧ (((l.getD (↑x : Int).toNat KT.d0).snd == (1 : Int)) = false → (0 : Int) ≤ (↑x : Int) ∧ (↑x : Int) < (↑l.length : Int) ∧ (0 : Int) ≤ (l.getD (↑x : Int).toNat KT.d0).fst ∧ (l.getD (↑x : Int).toNat KT.d0).fst < (↑ms.length : Int) ∧
 (List.map (widB ms) (List.take x l)).length = (List.map (widB ms) (List.take x l)).length ∧ ((List.map (widB ms) (List.take x l)).length + ((0 : Nat) + (1 : Nat))) * (8 : Nat) ≤ (140737488355328 : Nat) ∧ ∃ (x' : Nat), (x' ≤ l.length ∧
 (List.take x' l).all (widOk ms) = true) ∧ l.length - x' < l.length - x ∧ IntKind.i64.wrap ((↑x : Int) + (1 : Int)) = (↑x' : Int) ∧ List.map (widB ms) (List.take x l) ++ [if IntKind.i64.wrap ((20 : Int) + IntKind.i64.wrap ((10 : Int) *
 (↑(dist (startsW (ms.getD (Int.toNat (l.getD (↑x : Int).toNat KT.d0).fst) MT.d0).snd.snd.snd)).length : Int))) < (1000 : Int) then IntKind.i64.wrap ((20 : Int) + IntKind.i64.wrap ((10 : Int) * (↑(dist (startsW (ms.getD (Int.toNat (l.getD
 (↑x : Int).toNat KT.d0).fst) MT.d0).snd.snd.snd)).length : Int))) else (1000 : Int)] = List.map (widB ms) (List.take x' l) ∧ (!viewB ms || !blkB l) = (!viewB ms || !blkB l) ∧ blkB l = blkB l ∧ viewB ms = viewB ms ∧ p = p ∧ ms = ms ∧ l = l
 ∧ (List.map (widB ms) (List.take x l)).length + ((0 : Nat) + (1 : Nat)) = (List.map (widB ms) (List.take x' l)).length ∧ (0 : Nat) = (0 : Nat) ∧ p = p ∧ ms = ms)))))) ∧ (decide ((↑x : Int) < (↑l.length : Int)) = false → List.map (widB ms)
 (List.take x l) = (widthsS ms l).fst ∧ (0 : Int) = (widthsS ms l).snd))
end Go.Proofs.YtiplcokpckkopaaDoor
