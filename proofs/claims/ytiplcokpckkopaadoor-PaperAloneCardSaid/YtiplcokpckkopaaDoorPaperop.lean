/- What is to be shown of each function, in plain terms. Written by a program (wip/tools/gen.py). -/
import Derived.Test.YtiplcokpckkopaaDoorPaperoc
namespace Go.Proofs.YtiplcokpckkopaaDoor
open Go.Sy Go.RatLaw
set_option linter.unusedVariables false

abbrev E_PAlone_1 (ms : List Ms) (wh : Int) (bar : Int) :=
 (([] ++ ms).set (wh.tmod (↑ms.length : Int)).toNat (bar, (([] ++ ms).getD (wh.tmod (↑ms.length : Int)).toNat oM.d0).snd.fst, ((([] ++ ms).getD (wh.tmod (↑ms.length : Int)).toNat oM.d0).snd.snd.fst.fst, (([] ++ ms).getD (wh.tmod
 (↑ms.length : Int)).toNat oM.d0).snd.snd.fst.snd), (([] ++ ms).getD (wh.tmod (↑ms.length : Int)).toNat oM.d0).snd.snd.snd))
abbrev E_PAlone_2 (ms : List Ms) (wh : Int) (bar : Int) (more : List Wr) :=
 ((E_PAlone_1 ms wh bar).set (wh.tmod (↑ms.length : Int)).toNat (((E_PAlone_1 ms wh bar).getD (wh.tmod (↑ms.length : Int)).toNat oM.d0).fst, ((E_PAlone_1 ms wh bar).getD (wh.tmod (↑ms.length : Int)).toNat oM.d0).snd.fst, (((E_PAlone_1 ms
 wh bar).getD (wh.tmod (↑ms.length : Int)).toNat oM.d0).snd.snd.fst.fst, ((E_PAlone_1 ms wh bar).getD (wh.tmod (↑ms.length : Int)).toNat oM.d0).snd.snd.fst.snd), more))
abbrev E_PAlone_3 (ms : List Ms) (l : List Bk) (more : List Wr) :=
 (!few27 ms l [] || !blocksB ms l || (↑ms.length : Int) == (0 : Int) || decide ((↑more.length : Int) > (10 : Int)))
def P_PAlone (p : Int) (ms : List Ms) (l : List Bk) (f u wh bar : Int) (more : List Wr) : Prop :=
 ((!few27 ms l [] || !blocksB ms l) = false → (↑ms.length : Int) ≤ (9223372036854775807 : Int)) → ((!few27 ms l [] || !blocksB ms l || (↑ms.length : Int) == (0 : Int)) = false → (↑more.length : Int) ≤ (9223372036854775807 : Int)) →
 ((E_PAlone_3 ms l more) = true → true = true) ∧ ((E_PAlone_3 ms l more) = false → InI64 wh ∧ ((↑ms.length : Int) ≤ (9223372036854775807 : Int) → (↑ms.length : Int) ≠ (0 : Int) ∧ ((↑l.length : Int) ≤ (9223372036854775807 : Int) → (∃ (x :
 Nat), (x ≤ l.length ∧ ∀ (i : Nat), i < x → ¬(f ≤ (↑i : Int) ∧ (↑i : Int) < u ∧ (l.getD i bk0).fst = wh.tmod (↑ms.length : Int))) ∧ (0 : Int) = (↑x : Int)) ∧ ∀ (x : Nat), (x ≤ l.length ∧ ∀ (i : Nat), i < x → ¬(f ≤ (↑i : Int) ∧ (↑i : Int) <
 u ∧ (l.getD i bk0).fst = wh.tmod (↑ms.length : Int))) → (decide ((↑x : Int) < (↑l.length : Int)) = true → (0 : Int) ≤ (↑x : Int) ∧ (↑x : Int) < (↑l.length : Int) ∧ ((decide ((↑x : Int) ≥ f) && decide ((↑x : Int) < u) && (l.getD (↑x :
 Int).toNat KT.d0).fst == wh.tmod (↑ms.length : Int)) = true → true = true) ∧ ((decide ((↑x : Int) ≥ f) && decide ((↑x : Int) < u) && (l.getD (↑x : Int).toNat KT.d0).fst == wh.tmod (↑ms.length : Int)) = false → InI64 ((↑x : Int) + (1 :
 Int)) ∧ ∃ (x' : Nat), (x' ≤ l.length ∧ ∀ (i : Nat), i < x' → ¬(f ≤ (↑i : Int) ∧ (↑i : Int) < u ∧ (l.getD i bk0).fst = wh.tmod (↑ms.length : Int))) ∧ l.length - x' < l.length - x ∧ (↑x : Int) + (1 : Int) = (↑x' : Int) ∧ (↑l.length : Int) =
 (↑l.length : Int) ∧ l = l ∧ wh.tmod (↑ms.length : Int) = wh.tmod (↑ms.length : Int) ∧ (E_PAlone_3 ms l more) = (E_PAlone_3 ms l more) ∧ true = true ∧ p = p ∧ ms = ms ∧ l = l ∧ f = f ∧ u = u ∧ wh = wh ∧ bar = bar ∧ more = more ∧ f = f ∧ u
 = u ∧ p = p ∧ ms = ms)) ∧ (decide ((↑x : Int) < (↑l.length : Int)) = false → (0 : Nat) = (0 : Nat) ∧ ((0 : Nat) + ms.length) * (56 : Nat) ≤ (140737488355328 : Nat) ∧ (0 : Int) ≤ wh.tmod (↑ms.length : Int) ∧ wh.tmod (↑ms.length : Int) <
 (↑([] ++ ms).length : Int) ∧ (0 : Nat) + ms.length = ([] ++ ms).length ∧ ([] ++ ms).length = ([] ++ ms).length ∧ (wh.tmod (↑ms.length : Int)).toNat < ([] ++ ms).length ∧ ([] ++ ms).length = ([] ++ ms).length ∧ (wh.tmod (↑ms.length :
 Int)).toNat < ([] ++ ms).length ∧ (0 : Int) ≤ wh.tmod (↑ms.length : Int) ∧ wh.tmod (↑ms.length : Int) < (↑(E_PAlone_1 ms wh bar).length : Int) ∧ (0 : Nat) + ms.length = (E_PAlone_1 ms wh bar).length ∧ (E_PAlone_1 ms wh bar).length =
 (E_PAlone_1 ms wh bar).length ∧ (wh.tmod (↑ms.length : Int)).toNat < (E_PAlone_1 ms wh bar).length ∧ (E_PAlone_1 ms wh bar).length = (E_PAlone_1 ms wh bar).length ∧ (wh.tmod (↑ms.length : Int)).toNat < (E_PAlone_1 ms wh bar).length ∧ (0 :
 Nat) + ms.length = (E_PAlone_2 ms wh bar more).length ∧ ((!few27 (E_PAlone_2 ms wh bar more) l []) = false → (0 : Nat) + ms.length = (E_PAlone_2 ms wh bar more).length) ∧ ((!few27 (E_PAlone_2 ms wh bar more) l [] || !blocksB (E_PAlone_2
 ms wh bar more) l) = true → true = true) ∧ ((!few27 (E_PAlone_2 ms wh bar more) l [] || !blocksB (E_PAlone_2 ms wh bar more) l) = false → wfM ms ∧ InI64 p ∧ (0 : Nat) + ms.length = (E_PAlone_2 ms wh bar more).length ∧ wfM (E_PAlone_2 ms
 wh bar more) ∧ InI64 p ∧ (true && (digestS p ms l f u (3 : Int) (4 : Int)).fst == (digestS p (E_PAlone_2 ms wh bar more) l f u (3 : Int) (4 : Int)).fst && (digestS p ms l f u (3 : Int) (4 : Int)).snd == (digestS p (E_PAlone_2 ms wh bar
 more) l f u (3 : Int) (4 : Int)).snd) = true)))))
end Go.Proofs.YtiplcokpckkopaaDoor
