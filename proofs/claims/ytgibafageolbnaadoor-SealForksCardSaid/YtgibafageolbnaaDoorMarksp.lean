/- What is to be shown of each function, in plain terms. Written by a program (wip/tools/gen.py). -/
import Derived.Test.YtgibafageolbnaaDoorMarksc
namespace Go.Proofs.YtgibafageolbnaaDoor
open Go.Sy Go.RatLaw
set_option linter.unusedVariables false

def P_within (n a b : Int) : Prop :=
  (decide (a ≤ n) && decide (n ≤ b)) = rngB n a b
def P_isID (n : Int) : Prop :=
  rngB n (1 : Int) (1000000 : Int) = idB n
def P_isReader (p d s : Int) : Prop :=
  (idB p && rngB d (1 : Int) (40 : Int) && rngB s (1 : Int) (4 : Int)) = readerB p d s
def P_lay2 (p d s : Int) : Prop :=
  (s == (0 : Int) && readerB p d (1 : Int)) = byB (2 : Int) p d s
def P_lay4 (p d s : Int) : Prop :=
  (d == (0 : Int) && s == (0 : Int) && rngB p (0 : Int) (99 : Int)) = byB (3 : Int) p d s
def P_lay6 (p d s : Int) : Prop :=
  (p == (0 : Int) && (d == (0 : Int) && s == (0 : Int))) = byB (4 : Int) p d s
def P_odd (c : Int) : Prop :=
  (decide (c < (32 : Int)) || decide (c > (126 : Int))) = oddC c
def P_ixRu (l : List Int) : Prop :=
  (↑l.length : Int) ≤ (9223372036854775807 : Int) → (∃ (x : Nat), (x ≤ l.length ∧ ∀ (i : Nat), i < x → oddC (l.getD i (0 : Int)) = false) ∧ (0 : Int) = (↑x : Int)) ∧ ∀ (x : Nat), (x ≤ l.length ∧ ∀ (i : Nat), i < x → oddC (l.getD i (0 :
  Int)) = false) → (decide ((↑x : Int) < (↑l.length : Int)) = true → (0 : Int) ≤ (↑x : Int) ∧ (↑x : Int) < (↑l.length : Int) ∧ (oddC (l.getD (↑x : Int).toNat (Ty.ti IntKind.i32).d0) = true → (↑x : Int) = gidx oddC l) ∧ (oddC (l.getD (↑x :
  Int).toNat (Ty.ti IntKind.i32).d0) = false → InI64 ((↑x : Int) + (1 : Int)) ∧ ∃ (x' : Nat), (x' ≤ l.length ∧ ∀ (i : Nat), i < x' → oddC (l.getD i (0 : Int)) = false) ∧ l.length - x' < l.length - x ∧ (↑x : Int) + (1 : Int) = (↑x' : Int) ∧
  (↑l.length : Int) = (↑l.length : Int) ∧ l = l ∧ coL (LV.clo (47 : FuncId) [] []) (LV.clo (47 : FuncId) [] []) = LV.clo (47 : FuncId) [] [])) ∧ (decide ((↑x : Int) < (↑l.length : Int)) = false → (-1 : Int) = gidx oddC l)
def P_cfRu (l : List Int) : Prop :=
  decide (gidx oddC l ≥ (0 : Int)) = l.any oddC
def P_layers  : Prop :=
  (2 : Int) ≠ (1 : Int) ∧ (3 : Int) ≠ (1 : Int) ∧ (3 : Int) ≠ (2 : Int) ∧ (4 : Int) ≠ (1 : Int) ∧ (4 : Int) ≠ (2 : Int) ∧ (4 : Int) ≠ (3 : Int) ∧ (1 : Int) = (1 : Int) ∧ LV.clo (58 : Nat) [] [] = LV.clo (58 : FuncId) [] [] ∧ LV.clo (59 :
  Nat) [] [] = LV.clo (59 : FuncId) [] [] ∧ (2 : Int) = (2 : Int) ∧ LV.clo (60 : Nat) [] [] = LV.clo (60 : FuncId) [] [] ∧ LV.clo (61 : Nat) [] [] = LV.clo (61 : FuncId) [] [] ∧ (3 : Int) = (3 : Int) ∧ LV.clo (62 : Nat) [] [] = LV.clo (62 :
  FuncId) [] [] ∧ LV.clo (63 : Nat) [] [] = LV.clo (63 : FuncId) [] [] ∧ (4 : Int) = (4 : Int) ∧ LV.clo (64 : Nat) [] [] = LV.clo (64 : FuncId) [] [] ∧ LV.clo (65 : Nat) [] [] = LV.clo (65 : FuncId) [] []
def P_mkValid (id kind y p d s ver note val : Int) (q : ByteArray) : Prop :=
  (y = (1 : Int) → ((!true || !readerB p d s || !idB id || !idB ver || !idB note || !rngB kind (1 : Int) (5 : Int)) = true → false = markB id kind y p d s ver note val q) ∧ ((!true || !readerB p d s || !idB id || !idB ver || !idB note ||
  !rngB kind (1 : Int) (5 : Int)) = false → ((kind == (1 : Int)) = true → ((rngB val (0 : Int) (2 : Int) && decide ((↑q.size : Int) ≤ (200 : Int))) = true → q.size ≤ (70368744177664 : Nat)) ∧ (rngB val (0 : Int) (2 : Int) && decide
  ((↑q.size : Int) ≤ (200 : Int)) && !(strR q).any oddC) = markB id kind y p d s ver note val q) ∧ ((kind == (1 : Int)) = false → ((rngB val (0 : Int) (1000 : Int) && decide ((↑q.size : Int) ≤ (200 : Int))) = true → q.size ≤ (70368744177664
  : Nat)) ∧ (rngB val (0 : Int) (1000 : Int) && decide ((↑q.size : Int) ≤ (200 : Int)) && !(strR q).any oddC) = markB id kind y p d s ver note val q))) ∧ (y ≠ (1 : Int) → (y = (2 : Int) → ((!true || !byB (2 : Int) p d s || !idB id || !idB
  ver || !idB note || !rngB kind (1 : Int) (5 : Int)) = true → false = markB id kind y p d s ver note val q) ∧ ((!true || !byB (2 : Int) p d s || !idB id || !idB ver || !idB note || !rngB kind (1 : Int) (5 : Int)) = false → ((kind == (1 :
  Int)) = true → ((rngB val (0 : Int) (2 : Int) && decide ((↑q.size : Int) ≤ (200 : Int))) = true → q.size ≤ (70368744177664 : Nat)) ∧ (rngB val (0 : Int) (2 : Int) && decide ((↑q.size : Int) ≤ (200 : Int)) && !(strR q).any oddC) = markB id
  kind y p d s ver note val q) ∧ ((kind == (1 : Int)) = false → ((rngB val (0 : Int) (1000 : Int) && decide ((↑q.size : Int) ≤ (200 : Int))) = true → q.size ≤ (70368744177664 : Nat)) ∧ (rngB val (0 : Int) (1000 : Int) && decide ((↑q.size :
  Int) ≤ (200 : Int)) && !(strR q).any oddC) = markB id kind y p d s ver note val q))) ∧ (y ≠ (2 : Int) → (y = (3 : Int) → ((!true || !byB (3 : Int) p d s || !idB id || !idB ver || !idB note || !rngB kind (1 : Int) (5 : Int)) = true → false
  = markB id kind y p d s ver note val q) ∧ ((!true || !byB (3 : Int) p d s || !idB id || !idB ver || !idB note || !rngB kind (1 : Int) (5 : Int)) = false → ((kind == (1 : Int)) = true → ((rngB val (0 : Int) (2 : Int) && decide ((↑q.size :
  Int) ≤ (200 : Int))) = true → q.size ≤ (70368744177664 : Nat)) ∧ (rngB val (0 : Int) (2 : Int) && decide ((↑q.size : Int) ≤ (200 : Int)) && !(strR q).any oddC) = markB id kind y p d s ver note val q) ∧ ((kind == (1 : Int)) = false →
  ((rngB val (0 : Int) (1000 : Int) && decide ((↑q.size : Int) ≤ (200 : Int))) = true → q.size ≤ (70368744177664 : Nat)) ∧ (rngB val (0 : Int) (1000 : Int) && decide ((↑q.size : Int) ≤ (200 : Int)) && !(strR q).any oddC) = markB id kind y p
  d s ver note val q))) ∧ (y ≠ (3 : Int) → (y = (4 : Int) → ((!true || !byB (4 : Int) p d s || !idB id || !idB ver || !idB note || !rngB kind (1 : Int) (5 : Int)) = true → false = markB id kind y p d s ver note val q) ∧ ((!true || !byB (4 :
  Int) p d s || !idB id || !idB ver || !idB note || !rngB kind (1 : Int) (5 : Int)) = false → ((kind == (1 : Int)) = true → ((rngB val (0 : Int) (2 : Int) && decide ((↑q.size : Int) ≤ (200 : Int))) = true → q.size ≤ (70368744177664 : Nat))
  ∧ (rngB val (0 : Int) (2 : Int) && decide ((↑q.size : Int) ≤ (200 : Int)) && !(strR q).any oddC) = markB id kind y p d s ver note val q) ∧ ((kind == (1 : Int)) = false → ((rngB val (0 : Int) (1000 : Int) && decide ((↑q.size : Int) ≤ (200
  : Int))) = true → q.size ≤ (70368744177664 : Nat)) ∧ (rngB val (0 : Int) (1000 : Int) && decide ((↑q.size : Int) ≤ (200 : Int)) && !(strR q).any oddC) = markB id kind y p d s ver note val q))) ∧ (y ≠ (4 : Int) → y ≠ (1 : Int) ∧ y ≠ (2 :
  Int) ∧ y ≠ (3 : Int) ∧ y ≠ (4 : Int) ∧ ((!false) = false → False) ∧ ((!false || !false || !idB id || !idB ver || !idB note || !rngB kind (1 : Int) (5 : Int)) = true → false = markB id kind y p d s ver note val q) ∧ ((!false || !false ||
  !idB id || !idB ver || !idB note || !rngB kind (1 : Int) (5 : Int)) = false → ((kind == (1 : Int)) = true → ((rngB val (0 : Int) (2 : Int) && decide ((↑q.size : Int) ≤ (200 : Int))) = true → q.size ≤ (70368744177664 : Nat)) ∧ (rngB val (0
  : Int) (2 : Int) && decide ((↑q.size : Int) ≤ (200 : Int)) && !(strR q).any oddC) = markB id kind y p d s ver note val q) ∧ ((kind == (1 : Int)) = false → ((rngB val (0 : Int) (1000 : Int) && decide ((↑q.size : Int) ≤ (200 : Int))) = true
  → q.size ≤ (70368744177664 : Nat)) ∧ (rngB val (0 : Int) (1000 : Int) && decide ((↑q.size : Int) ≤ (200 : Int)) && !(strR q).any oddC) = markB id kind y p d s ver note val q))))))
end Go.Proofs.YtgibafageolbnaaDoor
