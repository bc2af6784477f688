/- What is to be shown of each function, in plain terms. Written by a program (wip/tools/gen.py). -/
import Derived.Test.YtfbbkknfcmofcaaDoorSealc
namespace Go.Proofs.YtfbbkknfcmofcaaDoor
open Go.Sy Go.RatLaw
set_option linter.unusedVariables false

def P_rin (n a b : Int) : Prop :=
  (decide (a ≤ n) && decide (n ≤ b)) = rngB n a b
def P_rID (n : Int) : Prop :=
  rngB n (1 : Int) (1000000 : Int) = idB n
def P_rin37 (n a b : Int) : Prop :=
  (decide (a ≤ n) && decide (n ≤ b)) = rngB n a b
def P_rEntry (t k a b c g : Int) : Prop :=
  ((!rngB t (0 : Int) (1000000000 : Int)) = true → false = entryB t k a b c g) ∧ ((!rngB t (0 : Int) (1000000000 : Int)) = false → ((k == (1 : Int)) = true → (idB a && idB b && c == (0 : Int) && g == (0 : Int)) = entryB t k a b c g) ∧ ((k
  == (1 : Int)) = false → ((k == (2 : Int)) = true → (idB a && b == (0 : Int) && c == (0 : Int)) = entryB t k a b c g) ∧ ((k == (2 : Int)) = false → ((k == (3 : Int)) = true → (rngB a (0 : Int) (1000 : Int) && b == (0 : Int) && c == (0 :
  Int) && g == (0 : Int)) = entryB t k a b c g) ∧ ((k == (3 : Int)) = false → ((k == (4 : Int)) = true → (a == (0 : Int) && b == (0 : Int) && c == (0 : Int)) = entryB t k a b c g) ∧ ((k == (4 : Int)) = false → ((k == (5 : Int)) = true →
  (idB a && rngB b (1 : Int) (20000 : Int) && idB c && g == (0 : Int)) = entryB t k a b c g) ∧ ((k == (5 : Int)) = false → false = entryB t k a b c g))))))
def P_kinds  : Prop :=
  mput (Ty.ti IntKind.i64).beq (5 : Int) ((((1 : Int), (1000000 : Int)), ((1 : Int), (20000 : Int)), (1 : Int), (1000000 : Int)), false) (mput (Ty.ti IntKind.i64).beq (4 : Int) ((((0 : Int), (0 : Int)), ((0 : Int), (0 : Int)), (0 : Int), (0
  : Int)), true) (mput (Ty.ti IntKind.i64).beq (3 : Int) ((((0 : Int), (1000 : Int)), ((0 : Int), (0 : Int)), (0 : Int), (0 : Int)), false) (mput (Ty.ti IntKind.i64).beq (2 : Int) ((((1 : Int), (1000000 : Int)), ((0 : Int), (0 : Int)), (0 :
  Int), (0 : Int)), true) (mput (Ty.ti IntKind.i64).beq (1 : Int) ((((1 : Int), (1000000 : Int)), ((1 : Int), (1000000 : Int)), (0 : Int), (0 : Int)), false) [])))) = kMap
def P_formed (t k a b c g : Int) : Prop :=
  ((!(mget (Ty.ti IntKind.i64).beq k kMap).isSome || decide (t < (0 : Int)) || decide (t > (1000000000 : Int)) || !((mget (Ty.ti IntKind.i64).beq k kMap).getD ((((Ty.ti IntKind.i64).tp (Ty.ti IntKind.i64)).tp (((Ty.ti IntKind.i64).tp (Ty.ti
  IntKind.i64)).tp ((Ty.ti IntKind.i64).tp (Ty.ti IntKind.i64)))).tp Ty.tb).d0).snd && g != (0 : Int)) = true → false = entryB t k a b c g) ∧ ((!(mget (Ty.ti IntKind.i64).beq k kMap).isSome || decide (t < (0 : Int)) || decide (t >
  (1000000000 : Int)) || !((mget (Ty.ti IntKind.i64).beq k kMap).getD ((((Ty.ti IntKind.i64).tp (Ty.ti IntKind.i64)).tp (((Ty.ti IntKind.i64).tp (Ty.ti IntKind.i64)).tp ((Ty.ti IntKind.i64).tp (Ty.ti IntKind.i64)))).tp Ty.tb).d0).snd && g
  != (0 : Int)) = false → (decide ((0 : Int) < (3 : Int)) = true → (0 : Int) ≤ (0 : Int) ∧ (0 : Int) < (↑(3 : Nat) : Int) ∧ (0 : Int) ≤ (0 : Int) ∧ (0 : Int) < (↑(3 : Nat) : Int) ∧ (0 : Int) ≤ (0 : Int) ∧ (0 : Int) < (↑(2 : Nat) : Int) ∧
  (decide (a < ((mget (Ty.ti IntKind.i64).beq k kMap).getD ((((Ty.ti IntKind.i64).tp (Ty.ti IntKind.i64)).tp (((Ty.ti IntKind.i64).tp (Ty.ti IntKind.i64)).tp ((Ty.ti IntKind.i64).tp (Ty.ti IntKind.i64)))).tp Ty.tb).d0).fst.fst.fst) = false
  → (0 : Int) ≤ (0 : Int) ∧ (0 : Int) < (↑(3 : Nat) : Int)) ∧ (decide (a < ((mget (Ty.ti IntKind.i64).beq k kMap).getD ((((Ty.ti IntKind.i64).tp (Ty.ti IntKind.i64)).tp (((Ty.ti IntKind.i64).tp (Ty.ti IntKind.i64)).tp ((Ty.ti
  IntKind.i64).tp (Ty.ti IntKind.i64)))).tp Ty.tb).d0).fst.fst.fst) = false → (0 : Int) ≤ (1 : Int) ∧ (1 : Int) < (↑(2 : Nat) : Int)) ∧ ((decide (a < ((mget (Ty.ti IntKind.i64).beq k kMap).getD ((((Ty.ti IntKind.i64).tp (Ty.ti
  IntKind.i64)).tp (((Ty.ti IntKind.i64).tp (Ty.ti IntKind.i64)).tp ((Ty.ti IntKind.i64).tp (Ty.ti IntKind.i64)))).tp Ty.tb).d0).fst.fst.fst) || decide (a > ((mget (Ty.ti IntKind.i64).beq k kMap).getD ((((Ty.ti IntKind.i64).tp (Ty.ti
  IntKind.i64)).tp (((Ty.ti IntKind.i64).tp (Ty.ti IntKind.i64)).tp ((Ty.ti IntKind.i64).tp (Ty.ti IntKind.i64)))).tp Ty.tb).d0).fst.fst.snd)) = true → false = entryB t k a b c g) ∧ ((decide (a < ((mget (Ty.ti IntKind.i64).beq k kMap).getD
  ((((Ty.ti IntKind.i64).tp (Ty.ti IntKind.i64)).tp (((Ty.ti IntKind.i64).tp (Ty.ti IntKind.i64)).tp ((Ty.ti IntKind.i64).tp (Ty.ti IntKind.i64)))).tp Ty.tb).d0).fst.fst.fst) || decide (a > ((mget (Ty.ti IntKind.i64).beq k kMap).getD
  ((((Ty.ti IntKind.i64).tp (Ty.ti IntKind.i64)).tp (((Ty.ti IntKind.i64).tp (Ty.ti IntKind.i64)).tp ((Ty.ti IntKind.i64).tp (Ty.ti IntKind.i64)))).tp Ty.tb).d0).fst.fst.snd)) = false → InI64 ((0 : Int) + (1 : Int)) ∧ (decide ((0 : Int) +
  (1 : Int) < (3 : Int)) = true → (0 : Int) ≤ (0 : Int) + (1 : Int) ∧ (0 : Int) + (1 : Int) < (↑(3 : Nat) : Int) ∧ (0 : Int) ≤ (0 : Int) + (1 : Int) ∧ (0 : Int) + (1 : Int) < (↑(3 : Nat) : Int) ∧ (0 : Int) ≤ (0 : Int) ∧ (0 : Int) < (↑(2 :
  Nat) : Int) ∧ (decide (b < ((mget (Ty.ti IntKind.i64).beq k kMap).getD ((((Ty.ti IntKind.i64).tp (Ty.ti IntKind.i64)).tp (((Ty.ti IntKind.i64).tp (Ty.ti IntKind.i64)).tp ((Ty.ti IntKind.i64).tp (Ty.ti IntKind.i64)))).tp
  Ty.tb).d0).fst.snd.fst.fst) = false → (0 : Int) ≤ (0 : Int) + (1 : Int) ∧ (0 : Int) + (1 : Int) < (↑(3 : Nat) : Int)) ∧ (decide (b < ((mget (Ty.ti IntKind.i64).beq k kMap).getD ((((Ty.ti IntKind.i64).tp (Ty.ti IntKind.i64)).tp (((Ty.ti
  IntKind.i64).tp (Ty.ti IntKind.i64)).tp ((Ty.ti IntKind.i64).tp (Ty.ti IntKind.i64)))).tp Ty.tb).d0).fst.snd.fst.fst) = false → (0 : Int) ≤ (1 : Int) ∧ (1 : Int) < (↑(2 : Nat) : Int)) ∧ ((decide (b < ((mget (Ty.ti IntKind.i64).beq k
  kMap).getD ((((Ty.ti IntKind.i64).tp (Ty.ti IntKind.i64)).tp (((Ty.ti IntKind.i64).tp (Ty.ti IntKind.i64)).tp ((Ty.ti IntKind.i64).tp (Ty.ti IntKind.i64)))).tp Ty.tb).d0).fst.snd.fst.fst) || decide (b > ((mget (Ty.ti IntKind.i64).beq k
  kMap).getD ((((Ty.ti IntKind.i64).tp (Ty.ti IntKind.i64)).tp (((Ty.ti IntKind.i64).tp (Ty.ti IntKind.i64)).tp ((Ty.ti IntKind.i64).tp (Ty.ti IntKind.i64)))).tp Ty.tb).d0).fst.snd.fst.snd)) = true → false = entryB t k a b c g) ∧ ((decide
  (b < ((mget (Ty.ti IntKind.i64).beq k kMap).getD ((((Ty.ti IntKind.i64).tp (Ty.ti IntKind.i64)).tp (((Ty.ti IntKind.i64).tp (Ty.ti IntKind.i64)).tp ((Ty.ti IntKind.i64).tp (Ty.ti IntKind.i64)))).tp Ty.tb).d0).fst.snd.fst.fst) || decide (b
  > ((mget (Ty.ti IntKind.i64).beq k kMap).getD ((((Ty.ti IntKind.i64).tp (Ty.ti IntKind.i64)).tp (((Ty.ti IntKind.i64).tp (Ty.ti IntKind.i64)).tp ((Ty.ti IntKind.i64).tp (Ty.ti IntKind.i64)))).tp Ty.tb).d0).fst.snd.fst.snd)) = false →
  InI64 ((0 : Int) + (1 : Int) + (1 : Int)) ∧ (decide ((0 : Int) + (1 : Int) + (1 : Int) < (3 : Int)) = true → (0 : Int) ≤ (0 : Int) + (1 : Int) + (1 : Int) ∧ (0 : Int) + (1 : Int) + (1 : Int) < (↑(3 : Nat) : Int) ∧ (0 : Int) ≤ (0 : Int) +
  (1 : Int) + (1 : Int) ∧ (0 : Int) + (1 : Int) + (1 : Int) < (↑(3 : Nat) : Int) ∧ (0 : Int) ≤ (0 : Int) ∧ (0 : Int) < (↑(2 : Nat) : Int) ∧ (decide (c < ((mget (Ty.ti IntKind.i64).beq k kMap).getD ((((Ty.ti IntKind.i64).tp (Ty.ti
  IntKind.i64)).tp (((Ty.ti IntKind.i64).tp (Ty.ti IntKind.i64)).tp ((Ty.ti IntKind.i64).tp (Ty.ti IntKind.i64)))).tp Ty.tb).d0).fst.snd.snd.fst) = false → (0 : Int) ≤ (0 : Int) + (1 : Int) + (1 : Int) ∧ (0 : Int) + (1 : Int) + (1 : Int) <
  (↑(3 : Nat) : Int)) ∧ (decide (c < ((mget (Ty.ti IntKind.i64).beq k kMap).getD ((((Ty.ti IntKind.i64).tp (Ty.ti IntKind.i64)).tp (((Ty.ti IntKind.i64).tp (Ty.ti IntKind.i64)).tp ((Ty.ti IntKind.i64).tp (Ty.ti IntKind.i64)))).tp
  Ty.tb).d0).fst.snd.snd.fst) = false → (0 : Int) ≤ (1 : Int) ∧ (1 : Int) < (↑(2 : Nat) : Int)) ∧ ((decide (c < ((mget (Ty.ti IntKind.i64).beq k kMap).getD ((((Ty.ti IntKind.i64).tp (Ty.ti IntKind.i64)).tp (((Ty.ti IntKind.i64).tp (Ty.ti
  IntKind.i64)).tp ((Ty.ti IntKind.i64).tp (Ty.ti IntKind.i64)))).tp Ty.tb).d0).fst.snd.snd.fst) || decide (c > ((mget (Ty.ti IntKind.i64).beq k kMap).getD ((((Ty.ti IntKind.i64).tp (Ty.ti IntKind.i64)).tp (((Ty.ti IntKind.i64).tp (Ty.ti
  IntKind.i64)).tp ((Ty.ti IntKind.i64).tp (Ty.ti IntKind.i64)))).tp Ty.tb).d0).fst.snd.snd.snd)) = true → false = entryB t k a b c g) ∧ ((decide (c < ((mget (Ty.ti IntKind.i64).beq k kMap).getD ((((Ty.ti IntKind.i64).tp (Ty.ti
  IntKind.i64)).tp (((Ty.ti IntKind.i64).tp (Ty.ti IntKind.i64)).tp ((Ty.ti IntKind.i64).tp (Ty.ti IntKind.i64)))).tp Ty.tb).d0).fst.snd.snd.fst) || decide (c > ((mget (Ty.ti IntKind.i64).beq k kMap).getD ((((Ty.ti IntKind.i64).tp (Ty.ti
  IntKind.i64)).tp (((Ty.ti IntKind.i64).tp (Ty.ti IntKind.i64)).tp ((Ty.ti IntKind.i64).tp (Ty.ti IntKind.i64)))).tp Ty.tb).d0).fst.snd.snd.snd)) = false → InI64 ((0 : Int) + (1 : Int) + (1 : Int) + (1 : Int)) ∧ (decide ((0 : Int) + (1 :
  Int) + (1 : Int) + (1 : Int) < (3 : Int)) = true → False) ∧ (decide ((0 : Int) + (1 : Int) + (1 : Int) + (1 : Int) < (3 : Int)) = false → true = entryB t k a b c g))) ∧ (decide ((0 : Int) + (1 : Int) + (1 : Int) < (3 : Int)) = false →
  true = entryB t k a b c g))) ∧ (decide ((0 : Int) + (1 : Int) < (3 : Int)) = false → true = entryB t k a b c g))) ∧ (decide ((0 : Int) < (3 : Int)) = false → true = entryB t k a b c g))
def P_bChain (s : Int) (l : List En) (h : Int) : Prop :=
  (↑l.length : Int) ≤ (9223372036854775807 : Int) → (((↑l.length : Int) == (0 : Int)) = true → (0 : Int) = chainE s l) ∧ (((↑l.length : Int) == (0 : Int)) = false → (↑l.length : Int) ≤ (9223372036854775807 : Int) → (∃ (x : Nat), x ≤
  l.length ∧ (0 : Int) = (↑x : Int) ∧ [[s]] = listsE s (List.take x l) ∧ (0 : Nat) + (1 : Nat) = (List.map intsE (List.take x l)).length + (1 : Nat)) ∧ ∀ (x : Nat), x ≤ l.length → (decide ((↑x : Int) < (↑l.length : Int)) = true → (0 : Int)
  ≤ (↑x : Int) ∧ (↑x : Int) < (↑l.length : Int) ∧ (0 : Int) ≤ (32 : Int) ∧ InI64 (shrW IntKind.u64 (l.getD (↑x : Int).toNat E6T.d0).snd.snd.snd.snd.snd (32 : Int)) ∧ InI64 (andW IntKind.u64 (l.getD (↑x : Int).toNat
  E6T.d0).snd.snd.snd.snd.snd (4294967295 : Int)) ∧ (List.map intsE (List.take x l)).length + (1 : Nat) = (List.map intsE (List.take x l)).length + (1 : Nat) ∧ ((List.map intsE (List.take x l)).length + (1 : Nat) + ((0 : Nat) + (1 : Nat)))
  * (24 : Nat) ≤ (140737488355328 : Nat) ∧ InI64 ((↑x : Int) + (1 : Int)) ∧ ∃ (x' : Nat), x' ≤ l.length ∧ l.length - x' < l.length - x ∧ (↑x : Int) + (1 : Int) = (↑x' : Int) ∧ listsE s (List.take x l) ++ [[(l.getD (↑x : Int).toNat
  E6T.d0).fst, (l.getD (↑x : Int).toNat E6T.d0).snd.fst, (l.getD (↑x : Int).toNat E6T.d0).snd.snd.fst, (l.getD (↑x : Int).toNat E6T.d0).snd.snd.snd.fst, (l.getD (↑x : Int).toNat E6T.d0).snd.snd.snd.snd.fst, shrW IntKind.u64 (l.getD (↑x :
  Int).toNat E6T.d0).snd.snd.snd.snd.snd (32 : Int), andW IntKind.u64 (l.getD (↑x : Int).toNat E6T.d0).snd.snd.snd.snd.snd (4294967295 : Int)]] = listsE s (List.take x' l) ∧ (↑l.length : Int) = (↑l.length : Int) ∧ l = l ∧ ((↑l.length : Int)
  == (0 : Int)) = ((↑l.length : Int) == (0 : Int)) ∧ (0 : Int) = (0 : Int) ∧ s = s ∧ l = l ∧ h = h ∧ (List.map intsE (List.take x l)).length + (1 : Nat) + ((0 : Nat) + (1 : Nat)) = (List.map intsE (List.take x' l)).length + (1 : Nat) ∧ (0 :
  Nat) + (1 : Nat) = (0 : Nat) + (1 : Nat) ∧ s = s ∧ l = l ∧ h = h) ∧ (decide ((↑x : Int) < (↑l.length : Int)) = false → okL (listsE s (List.take x l)) ∧ chainS (listsE s (List.take x l)) = chainE s l))
def P_right (s : Int) (l : List En) (h : Int) : Prop :=
  ((decide (s < (1 : Int)) || decide (s > (1000000 : Int))) = false → (↑l.length : Int) ≤ (9223372036854775807 : Int)) → ((decide (s < (1 : Int)) || decide (s > (1000000 : Int)) || decide ((↑l.length : Int) > (5000 : Int))) = true → false =
  logB s l h) ∧ ((decide (s < (1 : Int)) || decide (s > (1000000 : Int)) || decide ((↑l.length : Int) > (5000 : Int))) = false → (↑l.length : Int) ≤ (9223372036854775807 : Int) → (∃ (x : Nat), (x ≤ l.length ∧ entsFrom (0 : Int) l = entsFrom
  (lastE l x) (List.drop x l)) ∧ (0 : Int) = (↑x : Int)) ∧ ∀ (x : Nat), x ≤ l.length ∧ entsFrom (0 : Int) l = entsFrom (lastE l x) (List.drop x l) → (decide ((↑x : Int) < (↑l.length : Int)) = true → (0 : Int) ≤ (↑x : Int) ∧ (↑x : Int) <
  (↑l.length : Int) ∧ (decide ((↑x : Int) > (0 : Int)) = true ∧ (!entryB (l.getD (↑x : Int).toNat E6T.d0).fst (l.getD (↑x : Int).toNat E6T.d0).snd.fst (l.getD (↑x : Int).toNat E6T.d0).snd.snd.fst (l.getD (↑x : Int).toNat
  E6T.d0).snd.snd.snd.fst (l.getD (↑x : Int).toNat E6T.d0).snd.snd.snd.snd.fst (l.getD (↑x : Int).toNat E6T.d0).snd.snd.snd.snd.snd) = false → InI64 ((↑x : Int) - (1 : Int))) ∧ (decide ((↑x : Int) > (0 : Int)) = true ∧ (!entryB (l.getD (↑x
  : Int).toNat E6T.d0).fst (l.getD (↑x : Int).toNat E6T.d0).snd.fst (l.getD (↑x : Int).toNat E6T.d0).snd.snd.fst (l.getD (↑x : Int).toNat E6T.d0).snd.snd.snd.fst (l.getD (↑x : Int).toNat E6T.d0).snd.snd.snd.snd.fst (l.getD (↑x : Int).toNat
  E6T.d0).snd.snd.snd.snd.snd) = false → (0 : Int) ≤ (↑x : Int) - (1 : Int) ∧ (↑x : Int) - (1 : Int) < (↑l.length : Int)) ∧ ((!entryB (l.getD (↑x : Int).toNat E6T.d0).fst (l.getD (↑x : Int).toNat E6T.d0).snd.fst (l.getD (↑x : Int).toNat
  E6T.d0).snd.snd.fst (l.getD (↑x : Int).toNat E6T.d0).snd.snd.snd.fst (l.getD (↑x : Int).toNat E6T.d0).snd.snd.snd.snd.fst (l.getD (↑x : Int).toNat E6T.d0).snd.snd.snd.snd.snd || decide ((↑x : Int) > (0 : Int)) && decide ((l.getD (↑x :
  Int).toNat E6T.d0).fst < (l.getD ((↑x : Int) - (1 : Int)).toNat E6T.d0).fst)) = true → false = logB s l h) ∧ ((!entryB (l.getD (↑x : Int).toNat E6T.d0).fst (l.getD (↑x : Int).toNat E6T.d0).snd.fst (l.getD (↑x : Int).toNat
  E6T.d0).snd.snd.fst (l.getD (↑x : Int).toNat E6T.d0).snd.snd.snd.fst (l.getD (↑x : Int).toNat E6T.d0).snd.snd.snd.snd.fst (l.getD (↑x : Int).toNat E6T.d0).snd.snd.snd.snd.snd || decide ((↑x : Int) > (0 : Int)) && decide ((l.getD (↑x :
  Int).toNat E6T.d0).fst < (l.getD ((↑x : Int) - (1 : Int)).toNat E6T.d0).fst)) = false → InI64 ((↑x : Int) + (1 : Int)) ∧ ∃ (x' : Nat), (x' ≤ l.length ∧ entsFrom (0 : Int) l = entsFrom (lastE l x') (List.drop x' l)) ∧ l.length - x' <
  l.length - x ∧ (↑x : Int) + (1 : Int) = (↑x' : Int) ∧ (↑l.length : Int) = (↑l.length : Int) ∧ l = l ∧ (decide (s < (1 : Int)) || decide (s > (1000000 : Int)) || decide ((↑l.length : Int) > (5000 : Int))) = (decide (s < (1 : Int)) ||
  decide (s > (1000000 : Int)) || decide ((↑l.length : Int) > (5000 : Int))) ∧ s = s ∧ l = l ∧ h = h ∧ s = s ∧ l = l ∧ h = h)) ∧ (decide ((↑x : Int) < (↑l.length : Int)) = false → InI64 s ∧ inE l ∧ l.length ≤ (1000000 : Nat) ∧ (h == chainE
  s l) = logB s l h))
def P_sValid (s : Int) (l : List En) (h : Int) : Prop :=
  InI64 s ∧ inE l ∧ logB s l h = logB s l h
def P_rInts (t k a b c g : Int) : Prop :=
  (4294967296 : Int) ≠ (0 : Int) ∧ InI64 (IntKind.u64.wrap (g.tdiv (4294967296 : Int))) ∧ (4294967296 : Int) ≠ (0 : Int) ∧ InI64 (g.tmod (4294967296 : Int)) ∧ [t, k, a, b, c, IntKind.u64.wrap (g.tdiv (4294967296 : Int)), g.tmod (4294967296
  : Int)] = [t, k, a, b, c, hiD g, loD g]
def P_rChainE (s : Int) (l : List En) : Prop :=
  (↑l.length : Int) ≤ (9223372036854775807 : Int) → (((↑l.length : Int) == (0 : Int)) = true → (0 : Int) = chainE s l) ∧ (((↑l.length : Int) == (0 : Int)) = false → (0 : Nat) = (0 : Nat) ∧ ((0 : Nat) + ((0 : Nat) + (1 : Nat))) * (24 : Nat)
  ≤ (140737488355328 : Nat) ∧ (∃ (x : Nat), x ≤ l.length ∧ (0 : Int) = (↑x : Int) ∧ [] ++ [[s]] = listsE s (List.take x l) ∧ (0 : Nat) + ((0 : Nat) + (1 : Nat)) = (List.map intsE (List.take x l)).length + (1 : Nat)) ∧ ∀ (x : Nat), x ≤
  l.length → (↑l.length : Int) ≤ (9223372036854775807 : Int) → (decide ((↑x : Int) < (↑l.length : Int)) = true → (0 : Int) ≤ (↑x : Int) ∧ (↑x : Int) < (↑l.length : Int) ∧ ((0 : Int) ≤ (l.getD (↑x : Int).toNat E6T.d0).snd.snd.snd.snd.snd ∧
  (l.getD (↑x : Int).toNat E6T.d0).snd.snd.snd.snd.snd < (18446744073709551616 : Int)) ∧ (List.map intsE (List.take x l)).length + (1 : Nat) = (List.map intsE (List.take x l)).length + (1 : Nat) ∧ ((List.map intsE (List.take x l)).length +
  (1 : Nat) + ((0 : Nat) + (1 : Nat))) * (24 : Nat) ≤ (140737488355328 : Nat) ∧ InI64 ((↑x : Int) + (1 : Int)) ∧ ∃ (x' : Nat), x' ≤ l.length ∧ l.length - x' < l.length - x ∧ (↑x : Int) + (1 : Int) = (↑x' : Int) ∧ listsE s (List.take x l) ++
  [[(l.getD (↑x : Int).toNat E6T.d0).fst, (l.getD (↑x : Int).toNat E6T.d0).snd.fst, (l.getD (↑x : Int).toNat E6T.d0).snd.snd.fst, (l.getD (↑x : Int).toNat E6T.d0).snd.snd.snd.fst, (l.getD (↑x : Int).toNat E6T.d0).snd.snd.snd.snd.fst, hiD
  (l.getD (↑x : Int).toNat E6T.d0).snd.snd.snd.snd.snd, loD (l.getD (↑x : Int).toNat E6T.d0).snd.snd.snd.snd.snd]] = listsE s (List.take x' l) ∧ ((↑l.length : Int) == (0 : Int)) = ((↑l.length : Int) == (0 : Int)) ∧ (0 : Int) = (0 : Int) ∧ s
  = s ∧ l = l ∧ (List.map intsE (List.take x l)).length + (1 : Nat) + ((0 : Nat) + (1 : Nat)) = (List.map intsE (List.take x' l)).length + (1 : Nat) ∧ (0 : Nat) + (1 : Nat) = (0 : Nat) + (1 : Nat) ∧ (0 : Nat) + (1 : Nat) = (0 : Nat) + (1 :
  Nat)) ∧ (decide ((↑x : Int) < (↑l.length : Int)) = false → okL (listsE s (List.take x l)) ∧ chainS (listsE s (List.take x l)) = chainE s l))
def P_rValidL (s : Int) (l : List En) (h : Int) : Prop :=
  ((!idB s) = false → (↑l.length : Int) ≤ (9223372036854775807 : Int)) → ((!idB s || decide ((↑l.length : Int) > (5000 : Int))) = true → false = logB s l h) ∧ ((!idB s || decide ((↑l.length : Int) > (5000 : Int))) = false → (∃ (x : Nat), (x
  ≤ l.length ∧ entsFrom (0 : Int) l = entsFrom (lastE l x) (List.drop x l)) ∧ (0 : Int) = (↑x : Int)) ∧ ∀ (x : Nat), x ≤ l.length ∧ entsFrom (0 : Int) l = entsFrom (lastE l x) (List.drop x l) → (↑l.length : Int) ≤ (9223372036854775807 :
  Int) → (decide ((↑x : Int) < (↑l.length : Int)) = true → (0 : Int) ≤ (↑x : Int) ∧ (↑x : Int) < (↑l.length : Int) ∧ (decide ((↑x : Int) > (0 : Int)) = true ∧ (!entryB (l.getD (↑x : Int).toNat E6T.d0).fst (l.getD (↑x : Int).toNat
  E6T.d0).snd.fst (l.getD (↑x : Int).toNat E6T.d0).snd.snd.fst (l.getD (↑x : Int).toNat E6T.d0).snd.snd.snd.fst (l.getD (↑x : Int).toNat E6T.d0).snd.snd.snd.snd.fst (l.getD (↑x : Int).toNat E6T.d0).snd.snd.snd.snd.snd) = false → (0 : Int) ≤
  (↑x : Int) ∧ (↑x : Int) < (↑l.length : Int)) ∧ (decide ((↑x : Int) > (0 : Int)) = true ∧ (!entryB (l.getD (↑x : Int).toNat E6T.d0).fst (l.getD (↑x : Int).toNat E6T.d0).snd.fst (l.getD (↑x : Int).toNat E6T.d0).snd.snd.fst (l.getD (↑x :
  Int).toNat E6T.d0).snd.snd.snd.fst (l.getD (↑x : Int).toNat E6T.d0).snd.snd.snd.snd.fst (l.getD (↑x : Int).toNat E6T.d0).snd.snd.snd.snd.snd) = false → InI64 ((↑x : Int) - (1 : Int))) ∧ (decide ((↑x : Int) > (0 : Int)) = true ∧ (!entryB
  (l.getD (↑x : Int).toNat E6T.d0).fst (l.getD (↑x : Int).toNat E6T.d0).snd.fst (l.getD (↑x : Int).toNat E6T.d0).snd.snd.fst (l.getD (↑x : Int).toNat E6T.d0).snd.snd.snd.fst (l.getD (↑x : Int).toNat E6T.d0).snd.snd.snd.snd.fst (l.getD (↑x :
  Int).toNat E6T.d0).snd.snd.snd.snd.snd) = false → (0 : Int) ≤ (↑x : Int) - (1 : Int) ∧ (↑x : Int) - (1 : Int) < (↑l.length : Int)) ∧ ((!entryB (l.getD (↑x : Int).toNat E6T.d0).fst (l.getD (↑x : Int).toNat E6T.d0).snd.fst (l.getD (↑x :
  Int).toNat E6T.d0).snd.snd.fst (l.getD (↑x : Int).toNat E6T.d0).snd.snd.snd.fst (l.getD (↑x : Int).toNat E6T.d0).snd.snd.snd.snd.fst (l.getD (↑x : Int).toNat E6T.d0).snd.snd.snd.snd.snd || decide ((↑x : Int) > (0 : Int)) && decide
  ((l.getD (↑x : Int).toNat E6T.d0).fst < (l.getD ((↑x : Int) - (1 : Int)).toNat E6T.d0).fst)) = true → false = logB s l h) ∧ ((!entryB (l.getD (↑x : Int).toNat E6T.d0).fst (l.getD (↑x : Int).toNat E6T.d0).snd.fst (l.getD (↑x : Int).toNat
  E6T.d0).snd.snd.fst (l.getD (↑x : Int).toNat E6T.d0).snd.snd.snd.fst (l.getD (↑x : Int).toNat E6T.d0).snd.snd.snd.snd.fst (l.getD (↑x : Int).toNat E6T.d0).snd.snd.snd.snd.snd || decide ((↑x : Int) > (0 : Int)) && decide ((l.getD (↑x :
  Int).toNat E6T.d0).fst < (l.getD ((↑x : Int) - (1 : Int)).toNat E6T.d0).fst)) = false → InI64 ((↑x : Int) + (1 : Int)) ∧ ∃ (x' : Nat), (x' ≤ l.length ∧ entsFrom (0 : Int) l = entsFrom (lastE l x') (List.drop x' l)) ∧ l.length - x' <
  l.length - x ∧ (↑x : Int) + (1 : Int) = (↑x' : Int) ∧ (!idB s || decide ((↑l.length : Int) > (5000 : Int))) = (!idB s || decide ((↑l.length : Int) > (5000 : Int))) ∧ s = s ∧ l = l ∧ h = h ∧ s = s ∧ l = l ∧ h = h)) ∧ (decide ((↑x : Int) <
  (↑l.length : Int)) = false → InI64 s ∧ inE l ∧ l.length ≤ (1000000 : Nat) ∧ (h == chainE s l) = logB s l h))
def P_eqE (l m : List En) : Prop :=
  (↑l.length : Int) ≤ (9223372036854775807 : Int) → (↑m.length : Int) ≤ (9223372036854775807 : Int) → (((↑l.length : Int) != (↑m.length : Int)) = true → false = sameE l m) ∧ (((↑l.length : Int) != (↑m.length : Int)) = false → (↑l.length :
  Int) ≤ (9223372036854775807 : Int) → (∃ (x : Nat), (x ≤ l.length ∧ List.take x l = List.take x m) ∧ (0 : Int) = (↑x : Int)) ∧ ∀ (x : Nat), x ≤ l.length ∧ List.take x l = List.take x m → (decide ((↑x : Int) < (↑l.length : Int)) = true → (0
  : Int) ≤ (↑x : Int) ∧ (↑x : Int) < (↑l.length : Int) ∧ (0 : Int) ≤ (↑x : Int) ∧ (↑x : Int) < (↑m.length : Int) ∧ ((!((l.getD (↑x : Int).toNat E6T.d0).fst == (m.getD (↑x : Int).toNat E6T.d0).fst && ((l.getD (↑x : Int).toNat E6T.d0).snd.fst
  == (m.getD (↑x : Int).toNat E6T.d0).snd.fst && ((l.getD (↑x : Int).toNat E6T.d0).snd.snd.fst == (m.getD (↑x : Int).toNat E6T.d0).snd.snd.fst && ((l.getD (↑x : Int).toNat E6T.d0).snd.snd.snd.fst == (m.getD (↑x : Int).toNat
  E6T.d0).snd.snd.snd.fst && ((l.getD (↑x : Int).toNat E6T.d0).snd.snd.snd.snd.fst == (m.getD (↑x : Int).toNat E6T.d0).snd.snd.snd.snd.fst && (l.getD (↑x : Int).toNat E6T.d0).snd.snd.snd.snd.snd == (m.getD (↑x : Int).toNat
  E6T.d0).snd.snd.snd.snd.snd)))))) = true → false = sameE l m) ∧ ((!((l.getD (↑x : Int).toNat E6T.d0).fst == (m.getD (↑x : Int).toNat E6T.d0).fst && ((l.getD (↑x : Int).toNat E6T.d0).snd.fst == (m.getD (↑x : Int).toNat E6T.d0).snd.fst &&
  ((l.getD (↑x : Int).toNat E6T.d0).snd.snd.fst == (m.getD (↑x : Int).toNat E6T.d0).snd.snd.fst && ((l.getD (↑x : Int).toNat E6T.d0).snd.snd.snd.fst == (m.getD (↑x : Int).toNat E6T.d0).snd.snd.snd.fst && ((l.getD (↑x : Int).toNat
  E6T.d0).snd.snd.snd.snd.fst == (m.getD (↑x : Int).toNat E6T.d0).snd.snd.snd.snd.fst && (l.getD (↑x : Int).toNat E6T.d0).snd.snd.snd.snd.snd == (m.getD (↑x : Int).toNat E6T.d0).snd.snd.snd.snd.snd)))))) = false → InI64 ((↑x : Int) + (1 :
  Int)) ∧ ∃ (x' : Nat), (x' ≤ l.length ∧ List.take x' l = List.take x' m) ∧ l.length - x' < l.length - x ∧ (↑x : Int) + (1 : Int) = (↑x' : Int) ∧ (↑l.length : Int) = (↑l.length : Int) ∧ ((↑l.length : Int) != (↑m.length : Int)) = ((↑l.length
  : Int) != (↑m.length : Int)) ∧ l = l ∧ m = m)) ∧ (decide ((↑x : Int) < (↑l.length : Int)) = false → true = sameE l m))
def P_clN1  : Prop :=
  (true = true → (0 : Nat) = (0 : Nat) ∧ nl (Int × Int × Int × Int × Int × Int) = nl (Int × Int × Int × Int × Int × Int)) ∧ (true = false → (0 : Nat) = (0 : Nat) ∧ ((0 : Nat) + (0 : Nat)) * (48 : Nat) ≤ (140737488355328 : Nat) ∧ False ∧
  False)
def P_clN2 (l : List En) : Prop :=
  (false = true → False ∧ False) ∧ (false = false → (0 : Nat) = (0 : Nat) ∧ ((0 : Nat) + l.length) * (48 : Nat) ≤ (140737488355328 : Nat) ∧ (0 : Nat) + l.length = l.length ∧ [] ++ l = l)
def P_sAppend (s : Int) (l : List En) (h t k a b c g : Int) : Prop :=
  (↑l.length : Int) ≤ (9223372036854775807 : Int) → InI64 s ∧ inE l ∧ ((!logB s l h || !entryB t k a b c g) = true → (0 : Int) = (appS s l h (t, k, a, b, c, g)).fst.fst ∧ [] = (appS s l h (t, k, a, b, c, g)).fst.snd.fst ∧ (0 : Int) = (appS
  s l h (t, k, a, b, c, g)).fst.snd.snd ∧ (1 : Int) = (appS s l h (t, k, a, b, c, g)).snd) ∧ ((!logB s l h || !entryB t k a b c g) = false → (((↑l.length : Int) == (5000 : Int)) = true → (0 : Int) = (appS s l h (t, k, a, b, c, g)).fst.fst ∧
  [] = (appS s l h (t, k, a, b, c, g)).fst.snd.fst ∧ (0 : Int) = (appS s l h (t, k, a, b, c, g)).fst.snd.snd ∧ (2 : Int) = (appS s l h (t, k, a, b, c, g)).snd) ∧ (((↑l.length : Int) == (5000 : Int)) = false → (decide ((↑l.length : Int) > (0
  : Int)) = true → InI64 ((↑l.length : Int) - (1 : Int))) ∧ (decide ((↑l.length : Int) > (0 : Int)) = true → (0 : Int) ≤ (↑l.length : Int) - (1 : Int) ∧ (↑l.length : Int) - (1 : Int) < (↑l.length : Int)) ∧ ((decide ((↑l.length : Int) > (0 :
  Int)) && decide (t < (l.getD ((↑l.length : Int) - (1 : Int)).toNat E6T.d0).fst)) = true → (0 : Int) = (appS s l h (t, k, a, b, c, g)).fst.fst ∧ [] = (appS s l h (t, k, a, b, c, g)).fst.snd.fst ∧ (0 : Int) = (appS s l h (t, k, a, b, c,
  g)).fst.snd.snd ∧ (6 : Int) = (appS s l h (t, k, a, b, c, g)).snd) ∧ ((decide ((↑l.length : Int) > (0 : Int)) && decide (t < (l.getD ((↑l.length : Int) - (1 : Int)).toNat E6T.d0).fst)) = false → l.length ≤ (5000 : Nat) ∧ l.length =
  l.length ∧ (l.length + ((0 : Nat) + (1 : Nat))) * (48 : Nat) ≤ (140737488355328 : Nat) ∧ l.length + ((0 : Nat) + (1 : Nat)) = (l ++ [(t, k, a, b, c, g)]).length ∧ InI64 s ∧ inE (l ++ [(t, k, a, b, c, g)]) ∧ (l ++ [(t, k, a, b, c,
  g)]).length ≤ (1000000 : Nat) ∧ l.length + ((0 : Nat) + (1 : Nat)) = (l ++ [(t, k, a, b, c, g)]).length ∧ s = (appS s l h (t, k, a, b, c, g)).fst.fst ∧ l ++ [(t, k, a, b, c, g)] = (appS s l h (t, k, a, b, c, g)).fst.snd.fst ∧ chainE s (l
  ++ [(t, k, a, b, c, g)]) = (appS s l h (t, k, a, b, c, g)).fst.snd.snd ∧ (0 : Int) = (appS s l h (t, k, a, b, c, g)).snd)))
def P_sBegins (s : Int) (l : List En) (h s' : Int) (l' : List En) (h' : Int) : Prop :=
  InI64 s ∧ inE l ∧ ((!logB s l h) = false → InI64 s' ∧ inE l') ∧ ((!logB s l h || !logB s' l' h') = true → false = (begS s l h s' l' h').fst ∧ (1 : Int) = (begS s l h s' l' h').snd) ∧ ((!logB s l h || !logB s' l' h') = false → (↑l.length :
  Int) ≤ (9223372036854775807 : Int) → ((s == s' && decide ((↑l.length : Int) ≤ (↑l'.length : Int))) = true → (0 : Int) ≤ (0 : Int) ∧ (0 : Int) ≤ (↑l.length : Int) ∧ (↑l.length : Int) ≤ (↑l'.length : Int)) ∧ (((s == s') = true → (↑l'.length
  : Int) ≤ (9223372036854775807 : Int)) → (s == s' && decide ((↑l.length : Int) ≤ (↑l'.length : Int)) && sameE l (List.drop (Int.toNat (0 : Int)) (List.take (↑l.length : Int).toNat l'))) = (begS s l h s' l' h').fst ∧ (0 : Int) = (begS s l h
  s' l' h').snd))
def P_rFewE (s : Int) (l : List En) (h : Int) : Prop :=
  (↑l.length : Int) ≤ (9223372036854775807 : Int) → decide ((↑l.length : Int) ≤ (60 : Int)) = decide (l.length ≤ (60 : Nat))
end Go.Proofs.YtfbbkknfcmofcaaDoor
