/- What is to be shown of each function, in plain terms. Written by a program (wip/tools/gen.py). -/
import Derived.Test.YtcklbglladijlaaDecidec
namespace Go.Proofs.Ytcklbglladijlaa
open Go.Sy Go.RatLaw
set_option linter.unusedVariables false

def P_cmpNan (a : Int) : Prop :=
 (a != a) = false
def P_cmpLess (a b : Int) : Prop :=
 (false && !false || decide (a < b)) = decide (a < b)
def P_slNan (a : Int) : Prop :=
 (a != a) = false
def P_bsI (l : List Int) (n : Int) : Prop :=
 (↑l.length : Int) ≤ (9223372036854775807 : Int) → (∃ (x : Nat × Nat), (x.1 ≤ x.2 ∧ x.2 ≤ l.length ∧ x.1 ≤ RatLaw.below l n ∧ RatLaw.below l n ≤ x.2) ∧ (0 : Int) = (↑x.1 : Int) ∧ (↑l.length : Int) = (↑x.2 : Int)) ∧ ∀ (x : Nat × Nat), x.1 ≤
 x.2 ∧ x.2 ≤ l.length ∧ x.1 ≤ RatLaw.below l n ∧ RatLaw.below l n ≤ x.2 → (decide ((↑x.1 : Int) < (↑x.2 : Int)) = true → InI64 ((↑x.1 : Int) + (↑x.2 : Int)) ∧ (0 : Int) ≤ (1 : Int) ∧ InI64 (shrW IntKind.u64 (IntKind.u64.wrap ((↑x.1 : Int)
 + (↑x.2 : Int))) (1 : Int)) ∧ (0 : Int) ≤ shrW IntKind.u64 (IntKind.u64.wrap ((↑x.1 : Int) + (↑x.2 : Int))) (1 : Int) ∧ shrW IntKind.u64 (IntKind.u64.wrap ((↑x.1 : Int) + (↑x.2 : Int))) (1 : Int) < (↑l.length : Int) ∧ (decide (l.getD
 (shrW IntKind.u64 (IntKind.u64.wrap ((↑x.1 : Int) + (↑x.2 : Int))) (1 : Int)).toNat (Ty.ti IntKind.i64).d0 < n) = true → InI64 (shrW IntKind.u64 (IntKind.u64.wrap ((↑x.1 : Int) + (↑x.2 : Int))) (1 : Int) + (1 : Int)) ∧ ∃ (x' : Nat × Nat),
 (x'.1 ≤ x'.2 ∧ x'.2 ≤ l.length ∧ x'.1 ≤ RatLaw.below l n ∧ RatLaw.below l n ≤ x'.2) ∧ x'.2 - x'.1 < x.2 - x.1 ∧ shrW IntKind.u64 (IntKind.u64.wrap ((↑x.1 : Int) + (↑x.2 : Int))) (1 : Int) + (1 : Int) = (↑x'.1 : Int) ∧ (↑x.2 : Int) =
 (↑x'.2 : Int) ∧ (↑l.length : Int) = (↑l.length : Int) ∧ false = false ∧ (0 : Int) = (0 : Int) ∧ l = l ∧ n = n) ∧ (decide (l.getD (shrW IntKind.u64 (IntKind.u64.wrap ((↑x.1 : Int) + (↑x.2 : Int))) (1 : Int)).toNat (Ty.ti IntKind.i64).d0 <
 n) = false → ∃ (x' : Nat × Nat), (x'.1 ≤ x'.2 ∧ x'.2 ≤ l.length ∧ x'.1 ≤ RatLaw.below l n ∧ RatLaw.below l n ≤ x'.2) ∧ x'.2 - x'.1 < x.2 - x.1 ∧ (↑x.1 : Int) = (↑x'.1 : Int) ∧ shrW IntKind.u64 (IntKind.u64.wrap ((↑x.1 : Int) + (↑x.2 :
 Int))) (1 : Int) = (↑x'.2 : Int) ∧ (↑l.length : Int) = (↑l.length : Int) ∧ false = false ∧ (0 : Int) = (0 : Int) ∧ l = l ∧ n = n)) ∧ (decide ((↑x.1 : Int) < (↑x.2 : Int)) = false → (decide ((↑x.1 : Int) < (↑l.length : Int)) = true → (0 :
 Int) ≤ (↑x.1 : Int) ∧ (↑x.1 : Int) < (↑l.length : Int)) ∧ ((l.getD (↑x.1 : Int).toNat (Ty.ti IntKind.i64).d0 == n) = false ∧ decide ((↑x.1 : Int) < (↑l.length : Int)) = true → (0 : Int) ≤ (↑x.1 : Int) ∧ (↑x.1 : Int) < (↑l.length : Int)) ∧
 (↑x.1 : Int) = (↑(RatLaw.below l n) : Int) ∧ (decide ((↑x.1 : Int) < (↑l.length : Int)) && (l.getD (↑x.1 : Int).toNat (Ty.ti IntKind.i64).d0 == n || false && false)) = hasI l n)
def P_clI1  : Prop :=
 (true = true → (0 : Nat) = (0 : Nat) ∧ nl Int = nl Int) ∧ (true = false → (0 : Nat) = (0 : Nat) ∧ ((0 : Nat) + (0 : Nat)) * (8 : Nat) ≤ (140737488355328 : Nat) ∧ False ∧ False)
def P_clI2 (l : List Int) : Prop :=
 (false = true → False ∧ False) ∧ (false = false → (0 : Nat) = (0 : Nat) ∧ ((0 : Nat) + l.length) * (8 : Nat) ≤ (140737488355328 : Nat) ∧ (0 : Nat) + l.length = l.length ∧ [] ++ l = l)
def P_clD1  : Prop :=
 (true = true → (0 : Nat) = (0 : Nat) ∧ nl (Int × Int × Int × Int × Int × Int) = nl (Int × Int × Int × Int × Int × Int)) ∧ (true = false → (0 : Nat) = (0 : Nat) ∧ ((0 : Nat) + (0 : Nat)) * (48 : Nat) ≤ (140737488355328 : Nat) ∧ False ∧
 False)
def P_clD2 (l : List De) : Prop :=
 (false = true → False ∧ False) ∧ (false = false → (0 : Nat) = (0 : Nat) ∧ ((0 : Nat) + l.length) * (48 : Nat) ≤ (140737488355328 : Nat) ∧ (0 : Nat) + l.length = l.length ∧ [] ++ l = l)
def P_openR (b : Int) (r e : List T3) (j t n : Int) (c : List T3) (x y z : Int) : Prop :=
 ((!validF (b, r, e, (j, t, n), c)) = true → (0 : Int) = (openS (b, r, e, (j, t, n), c) (x, y, z)).1.1 ∧ [] = (openS (b, r, e, (j, t, n), c) (x, y, z)).1.2.1 ∧ [] = (openS (b, r, e, (j, t, n), c) (x, y, z)).1.2.2.1 ∧ (0 : Int) = (openS (b,
 r, e, (j, t, n), c) (x, y, z)).1.2.2.2.1.1 ∧ (0 : Int) = (openS (b, r, e, (j, t, n), c) (x, y, z)).1.2.2.2.1.2.1 ∧ (0 : Int) = (openS (b, r, e, (j, t, n), c) (x, y, z)).1.2.2.2.1.2.2 ∧ [] = (openS (b, r, e, (j, t, n), c) (x, y,
 z)).1.2.2.2.2 ∧ (1 : Int) = (openS (b, r, e, (j, t, n), c) (x, y, z)).2) ∧ ((!validF (b, r, e, (j, t, n), c)) = false → (decide (gidx (isC (x, y, z)) c < (0 : Int)) = true → (0 : Int) = (openS (b, r, e, (j, t, n), c) (x, y, z)).1.1 ∧ [] =
 (openS (b, r, e, (j, t, n), c) (x, y, z)).1.2.1 ∧ [] = (openS (b, r, e, (j, t, n), c) (x, y, z)).1.2.2.1 ∧ (0 : Int) = (openS (b, r, e, (j, t, n), c) (x, y, z)).1.2.2.2.1.1 ∧ (0 : Int) = (openS (b, r, e, (j, t, n), c) (x, y,
 z)).1.2.2.2.1.2.1 ∧ (0 : Int) = (openS (b, r, e, (j, t, n), c) (x, y, z)).1.2.2.2.1.2.2 ∧ [] = (openS (b, r, e, (j, t, n), c) (x, y, z)).1.2.2.2.2 ∧ (4 : Int) = (openS (b, r, e, (j, t, n), c) (x, y, z)).2) ∧ (decide (gidx (isC (x, y, z))
 c < (0 : Int)) = false → r.length ≤ (100 : Nat) ∧ e.length ≤ (100 : Nat) ∧ c.length ≤ (100 : Nat) ∧ InI64 (gidx (isC (x, y, z)) c + (1 : Int)) ∧ c.length = c.length ∧ (0 : Int) ≤ gidx (isC (x, y, z)) c ∧ gidx (isC (x, y, z)) c <
 (↑c.length : Int) ∧ gidx (isC (x, y, z)) c + (1 : Int) = gidx (isC (x, y, z)) c + (1 : Int) ∧ r.length = r.length ∧ e.length = e.length ∧ (c.eraseIdx (gidx (isC (x, y, z)) c).toNat).length = (c.eraseIdx (gidx (isC (x, y, z))
 c).toNat).length ∧ b = (openS (b, r, e, (j, t, n), c) (x, y, z)).1.1 ∧ r = (openS (b, r, e, (j, t, n), c) (x, y, z)).1.2.1 ∧ e = (openS (b, r, e, (j, t, n), c) (x, y, z)).1.2.2.1 ∧ j = (openS (b, r, e, (j, t, n), c) (x, y, z)).1.2.2.2.1.1
 ∧ t = (openS (b, r, e, (j, t, n), c) (x, y, z)).1.2.2.2.1.2.1 ∧ n = (openS (b, r, e, (j, t, n), c) (x, y, z)).1.2.2.2.1.2.2 ∧ c.eraseIdx (gidx (isC (x, y, z)) c).toNat = (openS (b, r, e, (j, t, n), c) (x, y, z)).1.2.2.2.2 ∧ (0 : Int) =
 (openS (b, r, e, (j, t, n), c) (x, y, z)).2))
abbrev E_areWorks_1 (ws : List Wk) (x : Nat) :=
 (decide ((ws.getD (↑x : Int).toNat WTT.d0).1.1 ≤ lastW ws x) || decide ((ws.getD (↑x : Int).toNat WTT.d0).1.1 > (1000000 : Int)) || (ws.getD (↑x : Int).toNat WTT.d0).2.1.1 != (↑(List.length (ws.getD (↑x : Int).toNat WTT.d0).1.2.1) : Int)
 || !validF ((ws.getD (↑x : Int).toNat WTT.d0).2.1.1, (ws.getD (↑x : Int).toNat WTT.d0).2.1.2.1, (ws.getD (↑x : Int).toNat WTT.d0).2.1.2.2.1, ((ws.getD (↑x : Int).toNat WTT.d0).2.1.2.2.2.1.1, (ws.getD (↑x : Int).toNat
 WTT.d0).2.1.2.2.2.1.2.1, (ws.getD (↑x : Int).toNat WTT.d0).2.1.2.2.2.1.2.2), (ws.getD (↑x : Int).toNat WTT.d0).2.1.2.2.2.2))
def P_areWorks (ws : List Wk) : Prop :=
 (↑ws.length : Int) ≤ (9223372036854775807 : Int) → (∃ (x : Nat), (x ≤ ws.length ∧ worksFrom (0 : Int) ws = worksFrom (lastW ws x) (List.drop x ws)) ∧ (0 : Int) = (↑x : Int) ∧ (0 : Int) = lastW ws x) ∧ ∀ (x : Nat), x ≤ ws.length ∧
 worksFrom (0 : Int) ws = worksFrom (lastW ws x) (List.drop x ws) → (decide ((↑x : Int) < (↑ws.length : Int)) = true → (0 : Int) ≤ (↑x : Int) ∧ (↑x : Int) < (↑ws.length : Int) ∧ (((decide ((ws.getD (↑x : Int).toNat WTT.d0).1.1 ≤ lastW ws
 x) || decide ((ws.getD (↑x : Int).toNat WTT.d0).1.1 > (1000000 : Int))) = false → (↑(List.length (ws.getD (↑x : Int).toNat WTT.d0).1.2.1) : Int) ≤ (9223372036854775807 : Int)) → ((E_areWorks_1 ws x) = true → false = worksB ws) ∧
 ((E_areWorks_1 ws x) = false → InI64 ((↑x : Int) + (1 : Int)) ∧ ∃ (x' : Nat), (x' ≤ ws.length ∧ worksFrom (0 : Int) ws = worksFrom (lastW ws x') (List.drop x' ws)) ∧ ws.length - x' < ws.length - x ∧ (↑x : Int) + (1 : Int) = (↑x' : Int) ∧
 (ws.getD (↑x : Int).toNat WTT.d0).1.1 = lastW ws x' ∧ (↑ws.length : Int) = (↑ws.length : Int) ∧ ws = ws ∧ ws = ws))) ∧ (decide ((↑x : Int) < (↑ws.length : Int)) = false → (↑ws.length : Int) ≤ (9223372036854775807 : Int) → (decide
 ((↑ws.length : Int) ≥ (1 : Int)) = true → (↑ws.length : Int) ≤ (9223372036854775807 : Int)) → (decide ((↑ws.length : Int) ≥ (1 : Int)) && decide ((↑ws.length : Int) ≤ (100 : Int))) = worksB ws)
def P_stTake (v : Int) (br : List Br) (pt : List PT) (nt : List NT) (b : Int) (r e : List T3) (j t n : Int) (c tm : List T3) (y0 y1 y2 y3 y4 y5 y6 y7 y8 : DV) (ws : List Wk) : Prop :=
 r.length ≤ (100 : Nat) ∧ e.length ≤ (100 : Nat) ∧ c.length ≤ (100 : Nat) ∧ r.length = r.length ∧ e.length = e.length ∧ c.length = c.length ∧ v = (takeW ((v, br, pt, nt), (b, r, e, (j, t, n), c), tm)).1 ∧ b = (takeW ((v, br, pt, nt), (b,
 r, e, (j, t, n), c), tm)).2.1.1 ∧ r = (takeW ((v, br, pt, nt), (b, r, e, (j, t, n), c), tm)).2.1.2.1 ∧ e = (takeW ((v, br, pt, nt), (b, r, e, (j, t, n), c), tm)).2.1.2.2.1 ∧ j = (takeW ((v, br, pt, nt), (b, r, e, (j, t, n), c),
 tm)).2.1.2.2.2.1.1 ∧ t = (takeW ((v, br, pt, nt), (b, r, e, (j, t, n), c), tm)).2.1.2.2.2.1.2.1 ∧ n = (takeW ((v, br, pt, nt), (b, r, e, (j, t, n), c), tm)).2.1.2.2.2.1.2.2 ∧ c = (takeW ((v, br, pt, nt), (b, r, e, (j, t, n), c),
 tm)).2.1.2.2.2.2 ∧ [] = (takeW ((v, br, pt, nt), (b, r, e, (j, t, n), c), tm)).2.2 ∧ ws = ws
abbrev E_newState_1 (ws : List Wk) :=
 (takeW (((ws.getD (Int.toNat (0 : Int)) WTT.d0).1.1, (ws.getD (Int.toNat (0 : Int)) WTT.d0).1.2.1, (ws.getD (Int.toNat (0 : Int)) WTT.d0).1.2.2.1, (ws.getD (Int.toNat (0 : Int)) WTT.d0).1.2.2.2), ((ws.getD (Int.toNat (0 : Int))
 WTT.d0).2.1.1, (ws.getD (Int.toNat (0 : Int)) WTT.d0).2.1.2.1, (ws.getD (Int.toNat (0 : Int)) WTT.d0).2.1.2.2.1, ((ws.getD (Int.toNat (0 : Int)) WTT.d0).2.1.2.2.2.1.1, (ws.getD (Int.toNat (0 : Int)) WTT.d0).2.1.2.2.2.1.2.1, (ws.getD
 (Int.toNat (0 : Int)) WTT.d0).2.1.2.2.2.1.2.2), (ws.getD (Int.toNat (0 : Int)) WTT.d0).2.1.2.2.2.2), (ws.getD (Int.toNat (0 : Int)) WTT.d0).2.2))
def P_newState (ws : List Wk) : Prop :=
 (0 : Int) ≤ (0 : Int) ∧ (0 : Int) < (↑ws.length : Int) ∧ List.length (ws.getD (Int.toNat (0 : Int)) WTT.d0).2.1.2.1 ≤ (100 : Nat) ∧ List.length (ws.getD (Int.toNat (0 : Int)) WTT.d0).2.1.2.2.1 ≤ (100 : Nat) ∧ List.length (ws.getD
 (Int.toNat (0 : Int)) WTT.d0).2.1.2.2.2.2 ≤ (100 : Nat) ∧ (E_newState_1 ws).1 = (firstR ws).1 ∧ (E_newState_1 ws).2.1.1 = (firstR ws).2.1.1 ∧ (E_newState_1 ws).2.1.2.1 = (firstR ws).2.1.2.1 ∧ (E_newState_1 ws).2.1.2.2.1 = (firstR
 ws).2.1.2.2.1 ∧ (E_newState_1 ws).2.1.2.2.2.1.1 = (firstR ws).2.1.2.2.2.1.1 ∧ (E_newState_1 ws).2.1.2.2.2.1.2.1 = (firstR ws).2.1.2.2.2.1.2.1 ∧ (E_newState_1 ws).2.1.2.2.2.1.2.2 = (firstR ws).2.1.2.2.2.1.2.2 ∧ (E_newState_1
 ws).2.1.2.2.2.2 = (firstR ws).2.1.2.2.2.2 ∧ (E_newState_1 ws).2.2 = (firstR ws).2.2 ∧ ws = ws
def P_ver1 (v : Int) (br : List Br) (pt : List PT) (nt : List NT) (b : Int) (r e : List T3) (j t n : Int) (c tm : List T3) (x1 x2 x3 x4 x5 x6 : Int) : Prop :=
 (v == x4) = isVer x4 ((v, br, pt, nt), (b, r, e, (j, t, n), c), tm) ∧ x1 = x1 ∧ x2 = x2 ∧ x3 = x3 ∧ x4 = x4 ∧ x5 = x5 ∧ x6 = x6
abbrev E_ixW_1 (ws : List Wk) (x : Nat) :=
 (((ws.getD (↑x : Int).toNat WTT.d0).1.1, (ws.getD (↑x : Int).toNat WTT.d0).1.2.1, (ws.getD (↑x : Int).toNat WTT.d0).1.2.2.1, (ws.getD (↑x : Int).toNat WTT.d0).1.2.2.2), ((ws.getD (↑x : Int).toNat WTT.d0).2.1.1, (ws.getD (↑x : Int).toNat
 WTT.d0).2.1.2.1, (ws.getD (↑x : Int).toNat WTT.d0).2.1.2.2.1, ((ws.getD (↑x : Int).toNat WTT.d0).2.1.2.2.2.1.1, (ws.getD (↑x : Int).toNat WTT.d0).2.1.2.2.2.1.2.1, (ws.getD (↑x : Int).toNat WTT.d0).2.1.2.2.2.1.2.2), (ws.getD (↑x :
 Int).toNat WTT.d0).2.1.2.2.2.2), (ws.getD (↑x : Int).toNat WTT.d0).2.2)
def P_ixW (ws : List Wk) (x1 x2 x3 x4 x5 x6 : Int) : Prop :=
 (↑ws.length : Int) ≤ (9223372036854775807 : Int) → (∃ (x : Nat), (x ≤ ws.length ∧ ∀ (i : Nat), i < x → isVer x4 (ws.getD i wk0) = false) ∧ (0 : Int) = (↑x : Int)) ∧ ∀ (x : Nat), (x ≤ ws.length ∧ ∀ (i : Nat), i < x → isVer x4 (ws.getD i
 wk0) = false) → (decide ((↑x : Int) < (↑ws.length : Int)) = true → (0 : Int) ≤ (↑x : Int) ∧ (↑x : Int) < (↑ws.length : Int) ∧ (isVer x4 (E_ixW_1 ws x) = true → (↑x : Int) = gidx (isVer x4) ws ∧ x1 = x1 ∧ x2 = x2 ∧ x3 = x3 ∧ x4 = x4 ∧ x5 =
 x5 ∧ x6 = x6) ∧ (isVer x4 (E_ixW_1 ws x) = false → InI64 ((↑x : Int) + (1 : Int)) ∧ ∃ (x' : Nat), (x' ≤ ws.length ∧ ∀ (i : Nat), i < x' → isVer x4 (ws.getD i wk0) = false) ∧ ws.length - x' < ws.length - x ∧ (↑x : Int) + (1 : Int) = (↑x' :
 Int) ∧ (↑ws.length : Int) = (↑ws.length : Int) ∧ ws = ws ∧ coL (LV.clo (69 : FuncId) [] [((2000 : Nat), (0 : Nat))]) (LV.clo (69 : FuncId) [] [((2000 : Nat), (0 : Nat))]) = LV.clo (69 : FuncId) [] [((2000 : Nat), (0 : Nat))] ∧ x1 = x1 ∧
 x2 = x2 ∧ x3 = x3 ∧ x4 = x4 ∧ x5 = x5 ∧ x6 = x6)) ∧ (decide ((↑x : Int) < (↑ws.length : Int)) = false → (-1 : Int) = gidx (isVer x4) ws ∧ x1 = x1 ∧ x2 = x2 ∧ x3 = x3 ∧ x4 = x4 ∧ x5 = x5 ∧ x6 = x6)
abbrev E_version_1 (ws : List Wk) (x4 : Int) :=
 (takeW (((ws.getD (gidx (isVer x4) ws).toNat WTT.d0).1.1, (ws.getD (gidx (isVer x4) ws).toNat WTT.d0).1.2.1, (ws.getD (gidx (isVer x4) ws).toNat WTT.d0).1.2.2.1, (ws.getD (gidx (isVer x4) ws).toNat WTT.d0).1.2.2.2), ((ws.getD (gidx (isVer
 x4) ws).toNat WTT.d0).2.1.1, (ws.getD (gidx (isVer x4) ws).toNat WTT.d0).2.1.2.1, (ws.getD (gidx (isVer x4) ws).toNat WTT.d0).2.1.2.2.1, ((ws.getD (gidx (isVer x4) ws).toNat WTT.d0).2.1.2.2.2.1.1, (ws.getD (gidx (isVer x4) ws).toNat
 WTT.d0).2.1.2.2.2.1.2.1, (ws.getD (gidx (isVer x4) ws).toNat WTT.d0).2.1.2.2.2.1.2.2), (ws.getD (gidx (isVer x4) ws).toNat WTT.d0).2.1.2.2.2.2), (ws.getD (gidx (isVer x4) ws).toNat WTT.d0).2.2))
abbrev E_version_2 (v : Int) (b : Int) (r : List T3) (e : List T3) (j : Int) (t : Int) (n : Int) (c : List T3) (o : List Int) (ws : List Wk) (x1 : Int) (x2 : Int) (x3 : Int) (x4 : Int) (x5 : Int) (x6 : Int) :=
 (versionS ws (v, (b, r, e, (j, t, n), c), o) (x1, x2, x3, x4, x5, x6))
def P_version (v b : Int) (r e : List T3) (j t n : Int) (c : List T3) (o : List Int) (ws : List Wk) (x1 x2 x3 x4 x5 x6 : Int) : Prop :=
 ((x5 != (0 : Int) || x6 != (0 : Int)) = true → (1 : Int) = (E_version_2 v b r e j t n c o ws x1 x2 x3 x4 x5 x6).2 ∧ v = (E_version_2 v b r e j t n c o ws x1 x2 x3 x4 x5 x6).1.1 ∧ b = (E_version_2 v b r e j t n c o ws x1 x2 x3 x4 x5
 x6).1.2.1.1 ∧ r = (E_version_2 v b r e j t n c o ws x1 x2 x3 x4 x5 x6).1.2.1.2.1 ∧ e = (E_version_2 v b r e j t n c o ws x1 x2 x3 x4 x5 x6).1.2.1.2.2.1 ∧ j = (E_version_2 v b r e j t n c o ws x1 x2 x3 x4 x5 x6).1.2.1.2.2.2.1.1 ∧ t =
 (E_version_2 v b r e j t n c o ws x1 x2 x3 x4 x5 x6).1.2.1.2.2.2.1.2.1 ∧ n = (E_version_2 v b r e j t n c o ws x1 x2 x3 x4 x5 x6).1.2.1.2.2.2.1.2.2 ∧ c = (E_version_2 v b r e j t n c o ws x1 x2 x3 x4 x5 x6).1.2.1.2.2.2.2 ∧ o =
 (E_version_2 v b r e j t n c o ws x1 x2 x3 x4 x5 x6).1.2.2 ∧ ws = ws) ∧ ((x5 != (0 : Int) || x6 != (0 : Int)) = false → (decide (gidx (isVer x4) ws < (0 : Int)) = true → (4 : Int) = (E_version_2 v b r e j t n c o ws x1 x2 x3 x4 x5 x6).2 ∧
 v = (E_version_2 v b r e j t n c o ws x1 x2 x3 x4 x5 x6).1.1 ∧ b = (E_version_2 v b r e j t n c o ws x1 x2 x3 x4 x5 x6).1.2.1.1 ∧ r = (E_version_2 v b r e j t n c o ws x1 x2 x3 x4 x5 x6).1.2.1.2.1 ∧ e = (E_version_2 v b r e j t n c o ws
 x1 x2 x3 x4 x5 x6).1.2.1.2.2.1 ∧ j = (E_version_2 v b r e j t n c o ws x1 x2 x3 x4 x5 x6).1.2.1.2.2.2.1.1 ∧ t = (E_version_2 v b r e j t n c o ws x1 x2 x3 x4 x5 x6).1.2.1.2.2.2.1.2.1 ∧ n = (E_version_2 v b r e j t n c o ws x1 x2 x3 x4 x5
 x6).1.2.1.2.2.2.1.2.2 ∧ c = (E_version_2 v b r e j t n c o ws x1 x2 x3 x4 x5 x6).1.2.1.2.2.2.2 ∧ o = (E_version_2 v b r e j t n c o ws x1 x2 x3 x4 x5 x6).1.2.2 ∧ ws = ws) ∧ (decide (gidx (isVer x4) ws < (0 : Int)) = false → (0 : Int) ≤
 gidx (isVer x4) ws ∧ gidx (isVer x4) ws < (↑ws.length : Int) ∧ List.length (ws.getD (gidx (isVer x4) ws).toNat WTT.d0).2.1.2.1 ≤ (100 : Nat) ∧ List.length (ws.getD (gidx (isVer x4) ws).toNat WTT.d0).2.1.2.2.1 ≤ (100 : Nat) ∧ List.length
 (ws.getD (gidx (isVer x4) ws).toNat WTT.d0).2.1.2.2.2.2 ≤ (100 : Nat) ∧ (0 : Int) = (E_version_2 v b r e j t n c o ws x1 x2 x3 x4 x5 x6).2 ∧ (E_version_1 ws x4).1 = (E_version_2 v b r e j t n c o ws x1 x2 x3 x4 x5 x6).1.1 ∧ (E_version_1
 ws x4).2.1.1 = (E_version_2 v b r e j t n c o ws x1 x2 x3 x4 x5 x6).1.2.1.1 ∧ (E_version_1 ws x4).2.1.2.1 = (E_version_2 v b r e j t n c o ws x1 x2 x3 x4 x5 x6).1.2.1.2.1 ∧ (E_version_1 ws x4).2.1.2.2.1 = (E_version_2 v b r e j t n c o ws
 x1 x2 x3 x4 x5 x6).1.2.1.2.2.1 ∧ (E_version_1 ws x4).2.1.2.2.2.1.1 = (E_version_2 v b r e j t n c o ws x1 x2 x3 x4 x5 x6).1.2.1.2.2.2.1.1 ∧ (E_version_1 ws x4).2.1.2.2.2.1.2.1 = (E_version_2 v b r e j t n c o ws x1 x2 x3 x4 x5
 x6).1.2.1.2.2.2.1.2.1 ∧ (E_version_1 ws x4).2.1.2.2.2.1.2.2 = (E_version_2 v b r e j t n c o ws x1 x2 x3 x4 x5 x6).1.2.1.2.2.2.1.2.2 ∧ (E_version_1 ws x4).2.1.2.2.2.2 = (E_version_2 v b r e j t n c o ws x1 x2 x3 x4 x5 x6).1.2.1.2.2.2.2 ∧
 (E_version_1 ws x4).2.2 = (E_version_2 v b r e j t n c o ws x1 x2 x3 x4 x5 x6).1.2.2 ∧ ws = ws))
abbrev E_reform_1 (v : Int) (b : Int) (r : List T3) (e : List T3) (j : Int) (t : Int) (n : Int) (c : List T3) (o : List Int) (b' : Int) (r' : List T3) (e' : List T3) (j' : Int) (t' : Int) (n' : Int) (c' : List T3) (q : Int) :=
 (reformS (v, (b, r, e, (j, t, n), c), o) ((b', r', e', (j', t', n'), c'), q))
def P_reform (v b : Int) (r e : List T3) (j t n : Int) (c : List T3) (o : List Int) (ws : List Wk) (b' : Int) (r' e' : List T3) (j' t' n' : Int) (c' : List T3) (q : Int) : Prop :=
 ((q == (0 : Int)) = true → q = q ∧ v = (E_reform_1 v b r e j t n c o b' r' e' j' t' n' c' q).1.1 ∧ b' = (E_reform_1 v b r e j t n c o b' r' e' j' t' n' c' q).1.2.1.1 ∧ r' = (E_reform_1 v b r e j t n c o b' r' e' j' t' n' c' q).1.2.1.2.1 ∧
 e' = (E_reform_1 v b r e j t n c o b' r' e' j' t' n' c' q).1.2.1.2.2.1 ∧ j' = (E_reform_1 v b r e j t n c o b' r' e' j' t' n' c' q).1.2.1.2.2.2.1.1 ∧ t' = (E_reform_1 v b r e j t n c o b' r' e' j' t' n' c' q).1.2.1.2.2.2.1.2.1 ∧ n' =
 (E_reform_1 v b r e j t n c o b' r' e' j' t' n' c' q).1.2.1.2.2.2.1.2.2 ∧ c' = (E_reform_1 v b r e j t n c o b' r' e' j' t' n' c' q).1.2.1.2.2.2.2 ∧ o = (E_reform_1 v b r e j t n c o b' r' e' j' t' n' c' q).1.2.2 ∧ ws = ws) ∧ ((q == (0 :
 Int)) = false → q = q ∧ v = (E_reform_1 v b r e j t n c o b' r' e' j' t' n' c' q).1.1 ∧ b = (E_reform_1 v b r e j t n c o b' r' e' j' t' n' c' q).1.2.1.1 ∧ r = (E_reform_1 v b r e j t n c o b' r' e' j' t' n' c' q).1.2.1.2.1 ∧ e =
 (E_reform_1 v b r e j t n c o b' r' e' j' t' n' c' q).1.2.1.2.2.1 ∧ j = (E_reform_1 v b r e j t n c o b' r' e' j' t' n' c' q).1.2.1.2.2.2.1.1 ∧ t = (E_reform_1 v b r e j t n c o b' r' e' j' t' n' c' q).1.2.1.2.2.2.1.2.1 ∧ n = (E_reform_1
 v b r e j t n c o b' r' e' j' t' n' c' q).1.2.1.2.2.2.1.2.2 ∧ c = (E_reform_1 v b r e j t n c o b' r' e' j' t' n' c' q).1.2.1.2.2.2.2 ∧ o = (E_reform_1 v b r e j t n c o b' r' e' j' t' n' c' q).1.2.2 ∧ ws = ws)
abbrev E_ossia_1 (v : Int) (b : Int) (r : List T3) (e : List T3) (j : Int) (t : Int) (n : Int) (c : List T3) (o : List Int) (x1 : Int) (x2 : Int) (x3 : Int) (x4 : Int) (x5 : Int) (x6 : Int) :=
 (ossiaS (v, (b, r, e, (j, t, n), c), o) (x1, x2, x3, x4, x5, x6))
def P_ossia (v b : Int) (r e : List T3) (j t n : Int) (c : List T3) (o : List Int) (ws : List Wk) (x1 x2 x3 x4 x5 x6 : Int) : Prop :=
 ((decide (x4 < (1 : Int)) || decide (x4 > (20 : Int)) || decide (x5 < (0 : Int)) || decide (x5 > (1 : Int)) || x6 != (0 : Int)) = true → (1 : Int) = (E_ossia_1 v b r e j t n c o x1 x2 x3 x4 x5 x6).2 ∧ v = (E_ossia_1 v b r e j t n c o x1
 x2 x3 x4 x5 x6).1.1 ∧ b = (E_ossia_1 v b r e j t n c o x1 x2 x3 x4 x5 x6).1.2.1.1 ∧ r = (E_ossia_1 v b r e j t n c o x1 x2 x3 x4 x5 x6).1.2.1.2.1 ∧ e = (E_ossia_1 v b r e j t n c o x1 x2 x3 x4 x5 x6).1.2.1.2.2.1 ∧ j = (E_ossia_1 v b r e j
 t n c o x1 x2 x3 x4 x5 x6).1.2.1.2.2.2.1.1 ∧ t = (E_ossia_1 v b r e j t n c o x1 x2 x3 x4 x5 x6).1.2.1.2.2.2.1.2.1 ∧ n = (E_ossia_1 v b r e j t n c o x1 x2 x3 x4 x5 x6).1.2.1.2.2.2.1.2.2 ∧ c = (E_ossia_1 v b r e j t n c o x1 x2 x3 x4 x5
 x6).1.2.1.2.2.2.2 ∧ o = (E_ossia_1 v b r e j t n c o x1 x2 x3 x4 x5 x6).1.2.2 ∧ ws = ws) ∧ ((decide (x4 < (1 : Int)) || decide (x4 > (20 : Int)) || decide (x5 < (0 : Int)) || decide (x5 > (1 : Int)) || x6 != (0 : Int)) = false → rise o ∧
 o.length ≤ (1000000 : Nat) ∧ ((hasI o x4 == (x5 == (1 : Int))) = true → (6 : Int) = (E_ossia_1 v b r e j t n c o x1 x2 x3 x4 x5 x6).2 ∧ v = (E_ossia_1 v b r e j t n c o x1 x2 x3 x4 x5 x6).1.1 ∧ b = (E_ossia_1 v b r e j t n c o x1 x2 x3 x4
 x5 x6).1.2.1.1 ∧ r = (E_ossia_1 v b r e j t n c o x1 x2 x3 x4 x5 x6).1.2.1.2.1 ∧ e = (E_ossia_1 v b r e j t n c o x1 x2 x3 x4 x5 x6).1.2.1.2.2.1 ∧ j = (E_ossia_1 v b r e j t n c o x1 x2 x3 x4 x5 x6).1.2.1.2.2.2.1.1 ∧ t = (E_ossia_1 v b r
 e j t n c o x1 x2 x3 x4 x5 x6).1.2.1.2.2.2.1.2.1 ∧ n = (E_ossia_1 v b r e j t n c o x1 x2 x3 x4 x5 x6).1.2.1.2.2.2.1.2.2 ∧ c = (E_ossia_1 v b r e j t n c o x1 x2 x3 x4 x5 x6).1.2.1.2.2.2.2 ∧ o = (E_ossia_1 v b r e j t n c o x1 x2 x3 x4 x5
 x6).1.2.2 ∧ ws = ws) ∧ ((hasI o x4 == (x5 == (1 : Int))) = false → (hasI o x4 = true → o.length ≤ (5000 : Nat) ∧ InI64 ((↑(RatLaw.below o x4) : Int) + (1 : Int)) ∧ o.length = o.length ∧ (0 : Int) ≤ (↑(RatLaw.below o x4) : Int) ∧
 (↑(RatLaw.below o x4) : Int) < (↑o.length : Int) ∧ (↑(RatLaw.below o x4) : Int) + (1 : Int) = (↑(RatLaw.below o x4) : Int) + (1 : Int) ∧ o.length ≤ (1000000 : Nat) ∧ (0 : Int) = (E_ossia_1 v b r e j t n c o x1 x2 x3 x4 x5 x6).2 ∧ v =
 (E_ossia_1 v b r e j t n c o x1 x2 x3 x4 x5 x6).1.1 ∧ b = (E_ossia_1 v b r e j t n c o x1 x2 x3 x4 x5 x6).1.2.1.1 ∧ r = (E_ossia_1 v b r e j t n c o x1 x2 x3 x4 x5 x6).1.2.1.2.1 ∧ e = (E_ossia_1 v b r e j t n c o x1 x2 x3 x4 x5
 x6).1.2.1.2.2.1 ∧ j = (E_ossia_1 v b r e j t n c o x1 x2 x3 x4 x5 x6).1.2.1.2.2.2.1.1 ∧ t = (E_ossia_1 v b r e j t n c o x1 x2 x3 x4 x5 x6).1.2.1.2.2.2.1.2.1 ∧ n = (E_ossia_1 v b r e j t n c o x1 x2 x3 x4 x5 x6).1.2.1.2.2.2.1.2.2 ∧ c =
 (E_ossia_1 v b r e j t n c o x1 x2 x3 x4 x5 x6).1.2.1.2.2.2.2 ∧ o.eraseIdx (↑(RatLaw.below o x4) : Int).toNat = (E_ossia_1 v b r e j t n c o x1 x2 x3 x4 x5 x6).1.2.2 ∧ ws = ws) ∧ (hasI o x4 = false → o.length ≤ (5000 : Nat) ∧ o.length =
 o.length ∧ (0 : Nat) + (1 : Nat) = (0 : Nat) + (1 : Nat) ∧ (0 : Nat) + (1 : Nat) = (1 : Nat) ∧ (0 : Int) ≤ (↑(RatLaw.below o x4) : Int) ∧ (↑(RatLaw.below o x4) : Int) ≤ (↑o.length : Int) ∧ o.length ≤ (1000000 : Nat) ∧ (0 : Int) =
 (E_ossia_1 v b r e j t n c o x1 x2 x3 x4 x5 x6).2 ∧ v = (E_ossia_1 v b r e j t n c o x1 x2 x3 x4 x5 x6).1.1 ∧ b = (E_ossia_1 v b r e j t n c o x1 x2 x3 x4 x5 x6).1.2.1.1 ∧ r = (E_ossia_1 v b r e j t n c o x1 x2 x3 x4 x5 x6).1.2.1.2.1 ∧ e
 = (E_ossia_1 v b r e j t n c o x1 x2 x3 x4 x5 x6).1.2.1.2.2.1 ∧ j = (E_ossia_1 v b r e j t n c o x1 x2 x3 x4 x5 x6).1.2.1.2.2.2.1.1 ∧ t = (E_ossia_1 v b r e j t n c o x1 x2 x3 x4 x5 x6).1.2.1.2.2.2.1.2.1 ∧ n = (E_ossia_1 v b r e j t n c o
 x1 x2 x3 x4 x5 x6).1.2.1.2.2.2.1.2.2 ∧ c = (E_ossia_1 v b r e j t n c o x1 x2 x3 x4 x5 x6).1.2.1.2.2.2.2 ∧ insAt o (↑(RatLaw.below o x4) : Int).toNat ([x4].getD (0 : Nat) (0 : Int)) = (E_ossia_1 v b r e j t n c o x1 x2 x3 x4 x5 x6).1.2.2
 ∧ ws = ws)))
abbrev E_do1_1 (v : Int) (b : Int) (r : List T3) (e : List T3) (j : Int) (t : Int) (n : Int) (c : List T3) (o : List Int) (ws : List Wk) (x1 : Int) (x2 : Int) (x3 : Int) (x4 : Int) (x5 : Int) (x6 : Int) :=
 (versionS ws (v, (b, r, e, (j, t, n), c), o) (x1, x2, x3, x4, x5, x6))
def P_do1 (v b : Int) (r e : List T3) (j t n : Int) (c : List T3) (o : List Int) (ws : List Wk) (x1 x2 x3 x4 x5 x6 : Int) : Prop :=
 worksB ws = true ∧ (E_do1_1 v b r e j t n c o ws x1 x2 x3 x4 x5 x6).2 = (E_do1_1 v b r e j t n c o ws x1 x2 x3 x4 x5 x6).2 ∧ x1 = x1 ∧ x2 = x2 ∧ x3 = x3 ∧ x4 = x4 ∧ x5 = x5 ∧ x6 = x6 ∧ (E_do1_1 v b r e j t n c o ws x1 x2 x3 x4 x5 x6).1.1
 = (E_do1_1 v b r e j t n c o ws x1 x2 x3 x4 x5 x6).1.1 ∧ (E_do1_1 v b r e j t n c o ws x1 x2 x3 x4 x5 x6).1.2.1.1 = (E_do1_1 v b r e j t n c o ws x1 x2 x3 x4 x5 x6).1.2.1.1 ∧ (E_do1_1 v b r e j t n c o ws x1 x2 x3 x4 x5 x6).1.2.1.2.1 =
 (E_do1_1 v b r e j t n c o ws x1 x2 x3 x4 x5 x6).1.2.1.2.1 ∧ (E_do1_1 v b r e j t n c o ws x1 x2 x3 x4 x5 x6).1.2.1.2.2.1 = (E_do1_1 v b r e j t n c o ws x1 x2 x3 x4 x5 x6).1.2.1.2.2.1 ∧ (E_do1_1 v b r e j t n c o ws x1 x2 x3 x4 x5
 x6).1.2.1.2.2.2.1.1 = (E_do1_1 v b r e j t n c o ws x1 x2 x3 x4 x5 x6).1.2.1.2.2.2.1.1 ∧ (E_do1_1 v b r e j t n c o ws x1 x2 x3 x4 x5 x6).1.2.1.2.2.2.1.2.1 = (E_do1_1 v b r e j t n c o ws x1 x2 x3 x4 x5 x6).1.2.1.2.2.2.1.2.1 ∧ (E_do1_1 v
 b r e j t n c o ws x1 x2 x3 x4 x5 x6).1.2.1.2.2.2.1.2.2 = (E_do1_1 v b r e j t n c o ws x1 x2 x3 x4 x5 x6).1.2.1.2.2.2.1.2.2 ∧ (E_do1_1 v b r e j t n c o ws x1 x2 x3 x4 x5 x6).1.2.1.2.2.2.2 = (E_do1_1 v b r e j t n c o ws x1 x2 x3 x4 x5
 x6).1.2.1.2.2.2.2 ∧ (E_do1_1 v b r e j t n c o ws x1 x2 x3 x4 x5 x6).1.2.2 = (E_do1_1 v b r e j t n c o ws x1 x2 x3 x4 x5 x6).1.2.2 ∧ ws = ws
abbrev E_do2_1 (v : Int) (b : Int) (r : List T3) (e : List T3) (j : Int) (t : Int) (n : Int) (c : List T3) (o : List Int) (x4 : Int) (x5 : Int) (x6 : Int) :=
 (reformS (v, (b, r, e, (j, t, n), c), o) (((cutS (b, r, e, (j, t, n), c) (x4, x5, x6)).1.1, (cutS (b, r, e, (j, t, n), c) (x4, x5, x6)).1.2.1, (cutS (b, r, e, (j, t, n), c) (x4, x5, x6)).1.2.2.1, ((cutS (b, r, e, (j, t, n), c) (x4, x5,
 x6)).1.2.2.2.1.1, (cutS (b, r, e, (j, t, n), c) (x4, x5, x6)).1.2.2.2.1.2.1, (cutS (b, r, e, (j, t, n), c) (x4, x5, x6)).1.2.2.2.1.2.2), (cutS (b, r, e, (j, t, n), c) (x4, x5, x6)).1.2.2.2.2), (cutS (b, r, e, (j, t, n), c) (x4, x5,
 x6)).2))
abbrev E_do2_2 (v : Int) (b : Int) (r : List T3) (e : List T3) (j : Int) (t : Int) (n : Int) (c : List T3) (o : List Int) (x4 : Int) (x5 : Int) (x6 : Int) :=
 (reformS (v, (b, r, e, (j, t, n), c), o) (cutS (b, r, e, (j, t, n), c) (x4, x5, x6)))
def P_do2 (v b : Int) (r e : List T3) (j t n : Int) (c : List T3) (o : List Int) (ws : List Wk) (x4 x5 x6 : Int) : Prop :=
 (cutS (b, r, e, (j, t, n), c) (x4, x5, x6)).2 = (cutS (b, r, e, (j, t, n), c) (x4, x5, x6)).2 ∧ x4 = x4 ∧ x5 = x5 ∧ x6 = x6 ∧ (E_do2_1 v b r e j t n c o x4 x5 x6).1.1 = (E_do2_2 v b r e j t n c o x4 x5 x6).1.1 ∧ (E_do2_1 v b r e j t n c o
 x4 x5 x6).1.2.1.1 = (E_do2_2 v b r e j t n c o x4 x5 x6).1.2.1.1 ∧ (E_do2_1 v b r e j t n c o x4 x5 x6).1.2.1.2.1 = (E_do2_2 v b r e j t n c o x4 x5 x6).1.2.1.2.1 ∧ (E_do2_1 v b r e j t n c o x4 x5 x6).1.2.1.2.2.1 = (E_do2_2 v b r e j t n
 c o x4 x5 x6).1.2.1.2.2.1 ∧ (E_do2_1 v b r e j t n c o x4 x5 x6).1.2.1.2.2.2.1.1 = (E_do2_2 v b r e j t n c o x4 x5 x6).1.2.1.2.2.2.1.1 ∧ (E_do2_1 v b r e j t n c o x4 x5 x6).1.2.1.2.2.2.1.2.1 = (E_do2_2 v b r e j t n c o x4 x5
 x6).1.2.1.2.2.2.1.2.1 ∧ (E_do2_1 v b r e j t n c o x4 x5 x6).1.2.1.2.2.2.1.2.2 = (E_do2_2 v b r e j t n c o x4 x5 x6).1.2.1.2.2.2.1.2.2 ∧ (E_do2_1 v b r e j t n c o x4 x5 x6).1.2.1.2.2.2.2 = (E_do2_2 v b r e j t n c o x4 x5
 x6).1.2.1.2.2.2.2 ∧ (E_do2_1 v b r e j t n c o x4 x5 x6).1.2.2 = (E_do2_2 v b r e j t n c o x4 x5 x6).1.2.2 ∧ ws = ws
abbrev E_do3_1 (v : Int) (b : Int) (r : List T3) (e : List T3) (j : Int) (t : Int) (n : Int) (c : List T3) (o : List Int) (x4 : Int) (x5 : Int) (x6 : Int) :=
 (reformS (v, (b, r, e, (j, t, n), c), o) (((openS (b, r, e, (j, t, n), c) (x4, x5, x6)).1.1, (openS (b, r, e, (j, t, n), c) (x4, x5, x6)).1.2.1, (openS (b, r, e, (j, t, n), c) (x4, x5, x6)).1.2.2.1, ((openS (b, r, e, (j, t, n), c) (x4,
 x5, x6)).1.2.2.2.1.1, (openS (b, r, e, (j, t, n), c) (x4, x5, x6)).1.2.2.2.1.2.1, (openS (b, r, e, (j, t, n), c) (x4, x5, x6)).1.2.2.2.1.2.2), (openS (b, r, e, (j, t, n), c) (x4, x5, x6)).1.2.2.2.2), (openS (b, r, e, (j, t, n), c) (x4,
 x5, x6)).2))
abbrev E_do3_2 (v : Int) (b : Int) (r : List T3) (e : List T3) (j : Int) (t : Int) (n : Int) (c : List T3) (o : List Int) (x4 : Int) (x5 : Int) (x6 : Int) :=
 (reformS (v, (b, r, e, (j, t, n), c), o) (openS (b, r, e, (j, t, n), c) (x4, x5, x6)))
def P_do3 (v b : Int) (r e : List T3) (j t n : Int) (c : List T3) (o : List Int) (ws : List Wk) (x4 x5 x6 : Int) : Prop :=
 (openS (b, r, e, (j, t, n), c) (x4, x5, x6)).2 = (openS (b, r, e, (j, t, n), c) (x4, x5, x6)).2 ∧ x4 = x4 ∧ x5 = x5 ∧ x6 = x6 ∧ (E_do3_1 v b r e j t n c o x4 x5 x6).1.1 = (E_do3_2 v b r e j t n c o x4 x5 x6).1.1 ∧ (E_do3_1 v b r e j t n c
 o x4 x5 x6).1.2.1.1 = (E_do3_2 v b r e j t n c o x4 x5 x6).1.2.1.1 ∧ (E_do3_1 v b r e j t n c o x4 x5 x6).1.2.1.2.1 = (E_do3_2 v b r e j t n c o x4 x5 x6).1.2.1.2.1 ∧ (E_do3_1 v b r e j t n c o x4 x5 x6).1.2.1.2.2.1 = (E_do3_2 v b r e j t
 n c o x4 x5 x6).1.2.1.2.2.1 ∧ (E_do3_1 v b r e j t n c o x4 x5 x6).1.2.1.2.2.2.1.1 = (E_do3_2 v b r e j t n c o x4 x5 x6).1.2.1.2.2.2.1.1 ∧ (E_do3_1 v b r e j t n c o x4 x5 x6).1.2.1.2.2.2.1.2.1 = (E_do3_2 v b r e j t n c o x4 x5
 x6).1.2.1.2.2.2.1.2.1 ∧ (E_do3_1 v b r e j t n c o x4 x5 x6).1.2.1.2.2.2.1.2.2 = (E_do3_2 v b r e j t n c o x4 x5 x6).1.2.1.2.2.2.1.2.2 ∧ (E_do3_1 v b r e j t n c o x4 x5 x6).1.2.1.2.2.2.2 = (E_do3_2 v b r e j t n c o x4 x5
 x6).1.2.1.2.2.2.2 ∧ (E_do3_1 v b r e j t n c o x4 x5 x6).1.2.2 = (E_do3_2 v b r e j t n c o x4 x5 x6).1.2.2 ∧ ws = ws
abbrev E_do4_1 (v : Int) (b : Int) (r : List T3) (e : List T3) (j : Int) (t : Int) (n : Int) (c : List T3) (o : List Int) (x4 : Int) (x5 : Int) :=
 (reformS (v, (b, r, e, (j, t, n), c), o) (((timesS (b, r, e, (j, t, n), c) x4 x5).1.1, (timesS (b, r, e, (j, t, n), c) x4 x5).1.2.1, (timesS (b, r, e, (j, t, n), c) x4 x5).1.2.2.1, ((timesS (b, r, e, (j, t, n), c) x4 x5).1.2.2.2.1.1,
 (timesS (b, r, e, (j, t, n), c) x4 x5).1.2.2.2.1.2.1, (timesS (b, r, e, (j, t, n), c) x4 x5).1.2.2.2.1.2.2), (timesS (b, r, e, (j, t, n), c) x4 x5).1.2.2.2.2), (timesS (b, r, e, (j, t, n), c) x4 x5).2))
abbrev E_do4_2 (v : Int) (b : Int) (r : List T3) (e : List T3) (j : Int) (t : Int) (n : Int) (c : List T3) (o : List Int) (x1 : Int) (x2 : Int) (x3 : Int) (x4 : Int) (x5 : Int) (x6 : Int) :=
 (timesD (v, (b, r, e, (j, t, n), c), o) (x1, x2, x3, x4, x5, x6))
def P_do4 (v b : Int) (r e : List T3) (j t n : Int) (c : List T3) (o : List Int) (ws : List Wk) (x1 x2 x3 x4 x5 x6 : Int) : Prop :=
 ((x6 != (0 : Int)) = true → (1 : Int) = (E_do4_2 v b r e j t n c o x1 x2 x3 x4 x5 x6).2 ∧ x1 = x1 ∧ x2 = x2 ∧ x3 = x3 ∧ x4 = x4 ∧ x5 = x5 ∧ x6 = x6 ∧ v = (E_do4_2 v b r e j t n c o x1 x2 x3 x4 x5 x6).1.1 ∧ b = (E_do4_2 v b r e j t n c o
 x1 x2 x3 x4 x5 x6).1.2.1.1 ∧ r = (E_do4_2 v b r e j t n c o x1 x2 x3 x4 x5 x6).1.2.1.2.1 ∧ e = (E_do4_2 v b r e j t n c o x1 x2 x3 x4 x5 x6).1.2.1.2.2.1 ∧ j = (E_do4_2 v b r e j t n c o x1 x2 x3 x4 x5 x6).1.2.1.2.2.2.1.1 ∧ t = (E_do4_2 v
 b r e j t n c o x1 x2 x3 x4 x5 x6).1.2.1.2.2.2.1.2.1 ∧ n = (E_do4_2 v b r e j t n c o x1 x2 x3 x4 x5 x6).1.2.1.2.2.2.1.2.2 ∧ c = (E_do4_2 v b r e j t n c o x1 x2 x3 x4 x5 x6).1.2.1.2.2.2.2 ∧ o = (E_do4_2 v b r e j t n c o x1 x2 x3 x4 x5
 x6).1.2.2 ∧ ws = ws) ∧ ((x6 != (0 : Int)) = false → (timesS (b, r, e, (j, t, n), c) x4 x5).2 = (E_do4_2 v b r e j t n c o x1 x2 x3 x4 x5 x6).2 ∧ x1 = x1 ∧ x2 = x2 ∧ x3 = x3 ∧ x4 = x4 ∧ x5 = x5 ∧ x6 = x6 ∧ (E_do4_1 v b r e j t n c o x4
 x5).1.1 = (E_do4_2 v b r e j t n c o x1 x2 x3 x4 x5 x6).1.1 ∧ (E_do4_1 v b r e j t n c o x4 x5).1.2.1.1 = (E_do4_2 v b r e j t n c o x1 x2 x3 x4 x5 x6).1.2.1.1 ∧ (E_do4_1 v b r e j t n c o x4 x5).1.2.1.2.1 = (E_do4_2 v b r e j t n c o x1
 x2 x3 x4 x5 x6).1.2.1.2.1 ∧ (E_do4_1 v b r e j t n c o x4 x5).1.2.1.2.2.1 = (E_do4_2 v b r e j t n c o x1 x2 x3 x4 x5 x6).1.2.1.2.2.1 ∧ (E_do4_1 v b r e j t n c o x4 x5).1.2.1.2.2.2.1.1 = (E_do4_2 v b r e j t n c o x1 x2 x3 x4 x5
 x6).1.2.1.2.2.2.1.1 ∧ (E_do4_1 v b r e j t n c o x4 x5).1.2.1.2.2.2.1.2.1 = (E_do4_2 v b r e j t n c o x1 x2 x3 x4 x5 x6).1.2.1.2.2.2.1.2.1 ∧ (E_do4_1 v b r e j t n c o x4 x5).1.2.1.2.2.2.1.2.2 = (E_do4_2 v b r e j t n c o x1 x2 x3 x4 x5
 x6).1.2.1.2.2.2.1.2.2 ∧ (E_do4_1 v b r e j t n c o x4 x5).1.2.1.2.2.2.2 = (E_do4_2 v b r e j t n c o x1 x2 x3 x4 x5 x6).1.2.1.2.2.2.2 ∧ (E_do4_1 v b r e j t n c o x4 x5).1.2.2 = (E_do4_2 v b r e j t n c o x1 x2 x3 x4 x5 x6).1.2.2 ∧ ws =
 ws)
abbrev E_do5_1 (v : Int) (b : Int) (r : List T3) (e : List T3) (j : Int) (t : Int) (n : Int) (c : List T3) (o : List Int) (x1 : Int) (x2 : Int) (x3 : Int) (x4 : Int) (x5 : Int) (x6 : Int) :=
 (ossiaS (v, (b, r, e, (j, t, n), c), o) (x1, x2, x3, x4, x5, x6))
def P_do5 (v b : Int) (r e : List T3) (j t n : Int) (c : List T3) (o : List Int) (ws : List Wk) (x1 x2 x3 x4 x5 x6 : Int) : Prop :=
 rise o ∧ o.length ≤ (100 : Nat) ∧ (E_do5_1 v b r e j t n c o x1 x2 x3 x4 x5 x6).2 = (E_do5_1 v b r e j t n c o x1 x2 x3 x4 x5 x6).2 ∧ x1 = x1 ∧ x2 = x2 ∧ x3 = x3 ∧ x4 = x4 ∧ x5 = x5 ∧ x6 = x6 ∧ (E_do5_1 v b r e j t n c o x1 x2 x3 x4 x5
 x6).1.1 = (E_do5_1 v b r e j t n c o x1 x2 x3 x4 x5 x6).1.1 ∧ (E_do5_1 v b r e j t n c o x1 x2 x3 x4 x5 x6).1.2.1.1 = (E_do5_1 v b r e j t n c o x1 x2 x3 x4 x5 x6).1.2.1.1 ∧ (E_do5_1 v b r e j t n c o x1 x2 x3 x4 x5 x6).1.2.1.2.1 =
 (E_do5_1 v b r e j t n c o x1 x2 x3 x4 x5 x6).1.2.1.2.1 ∧ (E_do5_1 v b r e j t n c o x1 x2 x3 x4 x5 x6).1.2.1.2.2.1 = (E_do5_1 v b r e j t n c o x1 x2 x3 x4 x5 x6).1.2.1.2.2.1 ∧ (E_do5_1 v b r e j t n c o x1 x2 x3 x4 x5
 x6).1.2.1.2.2.2.1.1 = (E_do5_1 v b r e j t n c o x1 x2 x3 x4 x5 x6).1.2.1.2.2.2.1.1 ∧ (E_do5_1 v b r e j t n c o x1 x2 x3 x4 x5 x6).1.2.1.2.2.2.1.2.1 = (E_do5_1 v b r e j t n c o x1 x2 x3 x4 x5 x6).1.2.1.2.2.2.1.2.1 ∧ (E_do5_1 v b r e j t
 n c o x1 x2 x3 x4 x5 x6).1.2.1.2.2.2.1.2.2 = (E_do5_1 v b r e j t n c o x1 x2 x3 x4 x5 x6).1.2.1.2.2.2.1.2.2 ∧ (E_do5_1 v b r e j t n c o x1 x2 x3 x4 x5 x6).1.2.1.2.2.2.2 = (E_do5_1 v b r e j t n c o x1 x2 x3 x4 x5 x6).1.2.1.2.2.2.2 ∧
 (E_do5_1 v b r e j t n c o x1 x2 x3 x4 x5 x6).1.2.2 = (E_do5_1 v b r e j t n c o x1 x2 x3 x4 x5 x6).1.2.2 ∧ ws = ws
abbrev E_do_1 (v : Int) (b : Int) (r : List T3) (e : List T3) (j : Int) (t : Int) (n : Int) (c : List T3) (o : List Int) (ws : List Wk) (x1 : Int) (x2 : Int) (x3 : Int) (x4 : Int) (x5 : Int) (x6 : Int) :=
 (doS ws (v, (b, r, e, (j, t, n), c), o) (x1, x2, x3, x4, x5, x6))
abbrev E_do_2 (v : Int) (b : Int) (r : List T3) (e : List T3) (j : Int) (t : Int) (n : Int) (c : List T3) (o : List Int) (x4 : Int) (x5 : Int) (x6 : Int) :=
 (reformS (v, (b, r, e, (j, t, n), c), o) (openS (b, r, e, (j, t, n), c) (x4, x5, x6)))
abbrev E_do_3 (v : Int) (b : Int) (r : List T3) (e : List T3) (j : Int) (t : Int) (n : Int) (c : List T3) (o : List Int) (x4 : Int) (x5 : Int) (x6 : Int) :=
 (reformS (v, (b, r, e, (j, t, n), c), o) (cutS (b, r, e, (j, t, n), c) (x4, x5, x6)))
abbrev E_do_4 (v : Int) (b : Int) (r : List T3) (e : List T3) (j : Int) (t : Int) (n : Int) (c : List T3) (o : List Int) (ws : List Wk) (x1 : Int) (x2 : Int) (x4 : Int) (x5 : Int) (x6 : Int) :=
 (versionS ws (v, (b, r, e, (j, t, n), c), o) (x1, x2, (1 : Int), x4, x5, x6))
abbrev E_do_5 (v : Int) (b : Int) (r : List T3) (e : List T3) (j : Int) (t : Int) (n : Int) (c : List T3) (o : List Int) (x1 : Int) (x2 : Int) (x4 : Int) (x5 : Int) (x6 : Int) :=
 (timesD (v, (b, r, e, (j, t, n), c), o) (x1, x2, (4 : Int), x4, x5, x6))
abbrev E_do_6 (v : Int) (b : Int) (r : List T3) (e : List T3) (j : Int) (t : Int) (n : Int) (c : List T3) (o : List Int) (x1 : Int) (x2 : Int) (x4 : Int) (x5 : Int) (x6 : Int) :=
 (ossiaS (v, (b, r, e, (j, t, n), c), o) (x1, x2, (5 : Int), x4, x5, x6))
def P_do (v b : Int) (r e : List T3) (j t n : Int) (c : List T3) (o : List Int) (ws : List Wk) (x1 x2 x3 x4 x5 x6 : Int) : Prop :=
 (2 : Int) ≠ (1 : Int) ∧ (3 : Int) ≠ (1 : Int) ∧ (3 : Int) ≠ (2 : Int) ∧ (4 : Int) ≠ (1 : Int) ∧ (4 : Int) ≠ (2 : Int) ∧ (4 : Int) ≠ (3 : Int) ∧ (5 : Int) ≠ (1 : Int) ∧ (5 : Int) ≠ (2 : Int) ∧ (5 : Int) ≠ (3 : Int) ∧ (5 : Int) ≠ (4 : Int)
 ∧ (x3 = (1 : Int) → ((!true) = true → (1 : Int) = (E_do_1 v b r e j t n c o ws x1 x2 x3 x4 x5 x6).2 ∧ v = (E_do_1 v b r e j t n c o ws x1 x2 x3 x4 x5 x6).1.1 ∧ b = (E_do_1 v b r e j t n c o ws x1 x2 x3 x4 x5 x6).1.2.1.1 ∧ r = (E_do_1 v b
 r e j t n c o ws x1 x2 x3 x4 x5 x6).1.2.1.2.1 ∧ e = (E_do_1 v b r e j t n c o ws x1 x2 x3 x4 x5 x6).1.2.1.2.2.1 ∧ j = (E_do_1 v b r e j t n c o ws x1 x2 x3 x4 x5 x6).1.2.1.2.2.2.1.1 ∧ t = (E_do_1 v b r e j t n c o ws x1 x2 x3 x4 x5
 x6).1.2.1.2.2.2.1.2.1 ∧ n = (E_do_1 v b r e j t n c o ws x1 x2 x3 x4 x5 x6).1.2.1.2.2.2.1.2.2 ∧ c = (E_do_1 v b r e j t n c o ws x1 x2 x3 x4 x5 x6).1.2.1.2.2.2.2 ∧ o = (E_do_1 v b r e j t n c o ws x1 x2 x3 x4 x5 x6).1.2.2 ∧ ws = ws) ∧
 ((!true) = false → worksB ws = true ∧ (E_do_4 v b r e j t n c o ws x1 x2 x4 x5 x6).2 = (E_do_1 v b r e j t n c o ws x1 x2 x3 x4 x5 x6).2 ∧ (E_do_4 v b r e j t n c o ws x1 x2 x4 x5 x6).1.1 = (E_do_1 v b r e j t n c o ws x1 x2 x3 x4 x5
 x6).1.1 ∧ (E_do_4 v b r e j t n c o ws x1 x2 x4 x5 x6).1.2.1.1 = (E_do_1 v b r e j t n c o ws x1 x2 x3 x4 x5 x6).1.2.1.1 ∧ (E_do_4 v b r e j t n c o ws x1 x2 x4 x5 x6).1.2.1.2.1 = (E_do_1 v b r e j t n c o ws x1 x2 x3 x4 x5 x6).1.2.1.2.1
 ∧ (E_do_4 v b r e j t n c o ws x1 x2 x4 x5 x6).1.2.1.2.2.1 = (E_do_1 v b r e j t n c o ws x1 x2 x3 x4 x5 x6).1.2.1.2.2.1 ∧ (E_do_4 v b r e j t n c o ws x1 x2 x4 x5 x6).1.2.1.2.2.2.1.1 = (E_do_1 v b r e j t n c o ws x1 x2 x3 x4 x5
 x6).1.2.1.2.2.2.1.1 ∧ (E_do_4 v b r e j t n c o ws x1 x2 x4 x5 x6).1.2.1.2.2.2.1.2.1 = (E_do_1 v b r e j t n c o ws x1 x2 x3 x4 x5 x6).1.2.1.2.2.2.1.2.1 ∧ (E_do_4 v b r e j t n c o ws x1 x2 x4 x5 x6).1.2.1.2.2.2.1.2.2 = (E_do_1 v b r e j
 t n c o ws x1 x2 x3 x4 x5 x6).1.2.1.2.2.2.1.2.2 ∧ (E_do_4 v b r e j t n c o ws x1 x2 x4 x5 x6).1.2.1.2.2.2.2 = (E_do_1 v b r e j t n c o ws x1 x2 x3 x4 x5 x6).1.2.1.2.2.2.2 ∧ (E_do_4 v b r e j t n c o ws x1 x2 x4 x5 x6).1.2.2 = (E_do_1 v
 b r e j t n c o ws x1 x2 x3 x4 x5 x6).1.2.2 ∧ ws = ws)) ∧ (x3 ≠ (1 : Int) → (x3 = (2 : Int) → ((!true) = true → (1 : Int) = (E_do_1 v b r e j t n c o ws x1 x2 x3 x4 x5 x6).2 ∧ v = (E_do_1 v b r e j t n c o ws x1 x2 x3 x4 x5 x6).1.1 ∧ b =
 (E_do_1 v b r e j t n c o ws x1 x2 x3 x4 x5 x6).1.2.1.1 ∧ r = (E_do_1 v b r e j t n c o ws x1 x2 x3 x4 x5 x6).1.2.1.2.1 ∧ e = (E_do_1 v b r e j t n c o ws x1 x2 x3 x4 x5 x6).1.2.1.2.2.1 ∧ j = (E_do_1 v b r e j t n c o ws x1 x2 x3 x4 x5
 x6).1.2.1.2.2.2.1.1 ∧ t = (E_do_1 v b r e j t n c o ws x1 x2 x3 x4 x5 x6).1.2.1.2.2.2.1.2.1 ∧ n = (E_do_1 v b r e j t n c o ws x1 x2 x3 x4 x5 x6).1.2.1.2.2.2.1.2.2 ∧ c = (E_do_1 v b r e j t n c o ws x1 x2 x3 x4 x5 x6).1.2.1.2.2.2.2 ∧ o =
 (E_do_1 v b r e j t n c o ws x1 x2 x3 x4 x5 x6).1.2.2 ∧ ws = ws) ∧ ((!true) = false → (cutS (b, r, e, (j, t, n), c) (x4, x5, x6)).2 = (E_do_1 v b r e j t n c o ws x1 x2 x3 x4 x5 x6).2 ∧ (E_do_3 v b r e j t n c o x4 x5 x6).1.1 = (E_do_1 v
 b r e j t n c o ws x1 x2 x3 x4 x5 x6).1.1 ∧ (E_do_3 v b r e j t n c o x4 x5 x6).1.2.1.1 = (E_do_1 v b r e j t n c o ws x1 x2 x3 x4 x5 x6).1.2.1.1 ∧ (E_do_3 v b r e j t n c o x4 x5 x6).1.2.1.2.1 = (E_do_1 v b r e j t n c o ws x1 x2 x3 x4
 x5 x6).1.2.1.2.1 ∧ (E_do_3 v b r e j t n c o x4 x5 x6).1.2.1.2.2.1 = (E_do_1 v b r e j t n c o ws x1 x2 x3 x4 x5 x6).1.2.1.2.2.1 ∧ (E_do_3 v b r e j t n c o x4 x5 x6).1.2.1.2.2.2.1.1 = (E_do_1 v b r e j t n c o ws x1 x2 x3 x4 x5
 x6).1.2.1.2.2.2.1.1 ∧ (E_do_3 v b r e j t n c o x4 x5 x6).1.2.1.2.2.2.1.2.1 = (E_do_1 v b r e j t n c o ws x1 x2 x3 x4 x5 x6).1.2.1.2.2.2.1.2.1 ∧ (E_do_3 v b r e j t n c o x4 x5 x6).1.2.1.2.2.2.1.2.2 = (E_do_1 v b r e j t n c o ws x1 x2
 x3 x4 x5 x6).1.2.1.2.2.2.1.2.2 ∧ (E_do_3 v b r e j t n c o x4 x5 x6).1.2.1.2.2.2.2 = (E_do_1 v b r e j t n c o ws x1 x2 x3 x4 x5 x6).1.2.1.2.2.2.2 ∧ (E_do_3 v b r e j t n c o x4 x5 x6).1.2.2 = (E_do_1 v b r e j t n c o ws x1 x2 x3 x4 x5
 x6).1.2.2 ∧ ws = ws)) ∧ (x3 ≠ (2 : Int) → (x3 = (3 : Int) → ((!true) = true → (1 : Int) = (E_do_1 v b r e j t n c o ws x1 x2 x3 x4 x5 x6).2 ∧ v = (E_do_1 v b r e j t n c o ws x1 x2 x3 x4 x5 x6).1.1 ∧ b = (E_do_1 v b r e j t n c o ws x1 x2
 x3 x4 x5 x6).1.2.1.1 ∧ r = (E_do_1 v b r e j t n c o ws x1 x2 x3 x4 x5 x6).1.2.1.2.1 ∧ e = (E_do_1 v b r e j t n c o ws x1 x2 x3 x4 x5 x6).1.2.1.2.2.1 ∧ j = (E_do_1 v b r e j t n c o ws x1 x2 x3 x4 x5 x6).1.2.1.2.2.2.1.1 ∧ t = (E_do_1 v b
 r e j t n c o ws x1 x2 x3 x4 x5 x6).1.2.1.2.2.2.1.2.1 ∧ n = (E_do_1 v b r e j t n c o ws x1 x2 x3 x4 x5 x6).1.2.1.2.2.2.1.2.2 ∧ c = (E_do_1 v b r e j t n c o ws x1 x2 x3 x4 x5 x6).1.2.1.2.2.2.2 ∧ o = (E_do_1 v b r e j t n c o ws x1 x2 x3
 x4 x5 x6).1.2.2 ∧ ws = ws) ∧ ((!true) = false → (openS (b, r, e, (j, t, n), c) (x4, x5, x6)).2 = (E_do_1 v b r e j t n c o ws x1 x2 x3 x4 x5 x6).2 ∧ (E_do_2 v b r e j t n c o x4 x5 x6).1.1 = (E_do_1 v b r e j t n c o ws x1 x2 x3 x4 x5
 x6).1.1 ∧ (E_do_2 v b r e j t n c o x4 x5 x6).1.2.1.1 = (E_do_1 v b r e j t n c o ws x1 x2 x3 x4 x5 x6).1.2.1.1 ∧ (E_do_2 v b r e j t n c o x4 x5 x6).1.2.1.2.1 = (E_do_1 v b r e j t n c o ws x1 x2 x3 x4 x5 x6).1.2.1.2.1 ∧ (E_do_2 v b r e
 j t n c o x4 x5 x6).1.2.1.2.2.1 = (E_do_1 v b r e j t n c o ws x1 x2 x3 x4 x5 x6).1.2.1.2.2.1 ∧ (E_do_2 v b r e j t n c o x4 x5 x6).1.2.1.2.2.2.1.1 = (E_do_1 v b r e j t n c o ws x1 x2 x3 x4 x5 x6).1.2.1.2.2.2.1.1 ∧ (E_do_2 v b r e j t n
 c o x4 x5 x6).1.2.1.2.2.2.1.2.1 = (E_do_1 v b r e j t n c o ws x1 x2 x3 x4 x5 x6).1.2.1.2.2.2.1.2.1 ∧ (E_do_2 v b r e j t n c o x4 x5 x6).1.2.1.2.2.2.1.2.2 = (E_do_1 v b r e j t n c o ws x1 x2 x3 x4 x5 x6).1.2.1.2.2.2.1.2.2 ∧ (E_do_2 v b
 r e j t n c o x4 x5 x6).1.2.1.2.2.2.2 = (E_do_1 v b r e j t n c o ws x1 x2 x3 x4 x5 x6).1.2.1.2.2.2.2 ∧ (E_do_2 v b r e j t n c o x4 x5 x6).1.2.2 = (E_do_1 v b r e j t n c o ws x1 x2 x3 x4 x5 x6).1.2.2 ∧ ws = ws)) ∧ (x3 ≠ (3 : Int) → (x3
 = (4 : Int) → ((!true) = true → (1 : Int) = (E_do_1 v b r e j t n c o ws x1 x2 x3 x4 x5 x6).2 ∧ v = (E_do_1 v b r e j t n c o ws x1 x2 x3 x4 x5 x6).1.1 ∧ b = (E_do_1 v b r e j t n c o ws x1 x2 x3 x4 x5 x6).1.2.1.1 ∧ r = (E_do_1 v b r e j
 t n c o ws x1 x2 x3 x4 x5 x6).1.2.1.2.1 ∧ e = (E_do_1 v b r e j t n c o ws x1 x2 x3 x4 x5 x6).1.2.1.2.2.1 ∧ j = (E_do_1 v b r e j t n c o ws x1 x2 x3 x4 x5 x6).1.2.1.2.2.2.1.1 ∧ t = (E_do_1 v b r e j t n c o ws x1 x2 x3 x4 x5
 x6).1.2.1.2.2.2.1.2.1 ∧ n = (E_do_1 v b r e j t n c o ws x1 x2 x3 x4 x5 x6).1.2.1.2.2.2.1.2.2 ∧ c = (E_do_1 v b r e j t n c o ws x1 x2 x3 x4 x5 x6).1.2.1.2.2.2.2 ∧ o = (E_do_1 v b r e j t n c o ws x1 x2 x3 x4 x5 x6).1.2.2 ∧ ws = ws) ∧
 ((!true) = false → (E_do_5 v b r e j t n c o x1 x2 x4 x5 x6).2 = (E_do_1 v b r e j t n c o ws x1 x2 x3 x4 x5 x6).2 ∧ (E_do_5 v b r e j t n c o x1 x2 x4 x5 x6).1.1 = (E_do_1 v b r e j t n c o ws x1 x2 x3 x4 x5 x6).1.1 ∧ (E_do_5 v b r e j t
 n c o x1 x2 x4 x5 x6).1.2.1.1 = (E_do_1 v b r e j t n c o ws x1 x2 x3 x4 x5 x6).1.2.1.1 ∧ (E_do_5 v b r e j t n c o x1 x2 x4 x5 x6).1.2.1.2.1 = (E_do_1 v b r e j t n c o ws x1 x2 x3 x4 x5 x6).1.2.1.2.1 ∧ (E_do_5 v b r e j t n c o x1 x2 x4
 x5 x6).1.2.1.2.2.1 = (E_do_1 v b r e j t n c o ws x1 x2 x3 x4 x5 x6).1.2.1.2.2.1 ∧ (E_do_5 v b r e j t n c o x1 x2 x4 x5 x6).1.2.1.2.2.2.1.1 = (E_do_1 v b r e j t n c o ws x1 x2 x3 x4 x5 x6).1.2.1.2.2.2.1.1 ∧ (E_do_5 v b r e j t n c o x1
 x2 x4 x5 x6).1.2.1.2.2.2.1.2.1 = (E_do_1 v b r e j t n c o ws x1 x2 x3 x4 x5 x6).1.2.1.2.2.2.1.2.1 ∧ (E_do_5 v b r e j t n c o x1 x2 x4 x5 x6).1.2.1.2.2.2.1.2.2 = (E_do_1 v b r e j t n c o ws x1 x2 x3 x4 x5 x6).1.2.1.2.2.2.1.2.2 ∧ (E_do_5
 v b r e j t n c o x1 x2 x4 x5 x6).1.2.1.2.2.2.2 = (E_do_1 v b r e j t n c o ws x1 x2 x3 x4 x5 x6).1.2.1.2.2.2.2 ∧ (E_do_5 v b r e j t n c o x1 x2 x4 x5 x6).1.2.2 = (E_do_1 v b r e j t n c o ws x1 x2 x3 x4 x5 x6).1.2.2 ∧ ws = ws)) ∧ (x3 ≠
 (4 : Int) → (x3 = (5 : Int) → ((!true) = true → (1 : Int) = (E_do_1 v b r e j t n c o ws x1 x2 x3 x4 x5 x6).2 ∧ v = (E_do_1 v b r e j t n c o ws x1 x2 x3 x4 x5 x6).1.1 ∧ b = (E_do_1 v b r e j t n c o ws x1 x2 x3 x4 x5 x6).1.2.1.1 ∧ r =
 (E_do_1 v b r e j t n c o ws x1 x2 x3 x4 x5 x6).1.2.1.2.1 ∧ e = (E_do_1 v b r e j t n c o ws x1 x2 x3 x4 x5 x6).1.2.1.2.2.1 ∧ j = (E_do_1 v b r e j t n c o ws x1 x2 x3 x4 x5 x6).1.2.1.2.2.2.1.1 ∧ t = (E_do_1 v b r e j t n c o ws x1 x2 x3
 x4 x5 x6).1.2.1.2.2.2.1.2.1 ∧ n = (E_do_1 v b r e j t n c o ws x1 x2 x3 x4 x5 x6).1.2.1.2.2.2.1.2.2 ∧ c = (E_do_1 v b r e j t n c o ws x1 x2 x3 x4 x5 x6).1.2.1.2.2.2.2 ∧ o = (E_do_1 v b r e j t n c o ws x1 x2 x3 x4 x5 x6).1.2.2 ∧ ws = ws)
 ∧ ((!true) = false → rise o ∧ o.length ≤ (100 : Nat) ∧ (E_do_6 v b r e j t n c o x1 x2 x4 x5 x6).2 = (E_do_1 v b r e j t n c o ws x1 x2 x3 x4 x5 x6).2 ∧ (E_do_6 v b r e j t n c o x1 x2 x4 x5 x6).1.1 = (E_do_1 v b r e j t n c o ws x1 x2 x3
 x4 x5 x6).1.1 ∧ (E_do_6 v b r e j t n c o x1 x2 x4 x5 x6).1.2.1.1 = (E_do_1 v b r e j t n c o ws x1 x2 x3 x4 x5 x6).1.2.1.1 ∧ (E_do_6 v b r e j t n c o x1 x2 x4 x5 x6).1.2.1.2.1 = (E_do_1 v b r e j t n c o ws x1 x2 x3 x4 x5 x6).1.2.1.2.1
 ∧ (E_do_6 v b r e j t n c o x1 x2 x4 x5 x6).1.2.1.2.2.1 = (E_do_1 v b r e j t n c o ws x1 x2 x3 x4 x5 x6).1.2.1.2.2.1 ∧ (E_do_6 v b r e j t n c o x1 x2 x4 x5 x6).1.2.1.2.2.2.1.1 = (E_do_1 v b r e j t n c o ws x1 x2 x3 x4 x5
 x6).1.2.1.2.2.2.1.1 ∧ (E_do_6 v b r e j t n c o x1 x2 x4 x5 x6).1.2.1.2.2.2.1.2.1 = (E_do_1 v b r e j t n c o ws x1 x2 x3 x4 x5 x6).1.2.1.2.2.2.1.2.1 ∧ (E_do_6 v b r e j t n c o x1 x2 x4 x5 x6).1.2.1.2.2.2.1.2.2 = (E_do_1 v b r e j t n c
 o ws x1 x2 x3 x4 x5 x6).1.2.1.2.2.2.1.2.2 ∧ (E_do_6 v b r e j t n c o x1 x2 x4 x5 x6).1.2.1.2.2.2.2 = (E_do_1 v b r e j t n c o ws x1 x2 x3 x4 x5 x6).1.2.1.2.2.2.2 ∧ (E_do_6 v b r e j t n c o x1 x2 x4 x5 x6).1.2.2 = (E_do_1 v b r e j t n
 c o ws x1 x2 x3 x4 x5 x6).1.2.2 ∧ ws = ws)) ∧ (x3 ≠ (5 : Int) → x3 ≠ (1 : Int) ∧ x3 ≠ (2 : Int) ∧ x3 ≠ (3 : Int) ∧ x3 ≠ (4 : Int) ∧ x3 ≠ (5 : Int) ∧ ((!false) = true → (1 : Int) = (E_do_1 v b r e j t n c o ws x1 x2 x3 x4 x5 x6).2 ∧ v =
 (E_do_1 v b r e j t n c o ws x1 x2 x3 x4 x5 x6).1.1 ∧ b = (E_do_1 v b r e j t n c o ws x1 x2 x3 x4 x5 x6).1.2.1.1 ∧ r = (E_do_1 v b r e j t n c o ws x1 x2 x3 x4 x5 x6).1.2.1.2.1 ∧ e = (E_do_1 v b r e j t n c o ws x1 x2 x3 x4 x5
 x6).1.2.1.2.2.1 ∧ j = (E_do_1 v b r e j t n c o ws x1 x2 x3 x4 x5 x6).1.2.1.2.2.2.1.1 ∧ t = (E_do_1 v b r e j t n c o ws x1 x2 x3 x4 x5 x6).1.2.1.2.2.2.1.2.1 ∧ n = (E_do_1 v b r e j t n c o ws x1 x2 x3 x4 x5 x6).1.2.1.2.2.2.1.2.2 ∧ c =
 (E_do_1 v b r e j t n c o ws x1 x2 x3 x4 x5 x6).1.2.1.2.2.2.2 ∧ o = (E_do_1 v b r e j t n c o ws x1 x2 x3 x4 x5 x6).1.2.2 ∧ ws = ws) ∧ ((!false) = false → False ∧ (0 : Int) = (E_do_1 v b r e j t n c o ws x1 x2 x3 x4 x5 x6).2 ∧ v = (E_do_1
 v b r e j t n c o ws x1 x2 x3 x4 x5 x6).1.1 ∧ b = (E_do_1 v b r e j t n c o ws x1 x2 x3 x4 x5 x6).1.2.1.1 ∧ r = (E_do_1 v b r e j t n c o ws x1 x2 x3 x4 x5 x6).1.2.1.2.1 ∧ e = (E_do_1 v b r e j t n c o ws x1 x2 x3 x4 x5 x6).1.2.1.2.2.1 ∧
 j = (E_do_1 v b r e j t n c o ws x1 x2 x3 x4 x5 x6).1.2.1.2.2.2.1.1 ∧ t = (E_do_1 v b r e j t n c o ws x1 x2 x3 x4 x5 x6).1.2.1.2.2.2.1.2.1 ∧ n = (E_do_1 v b r e j t n c o ws x1 x2 x3 x4 x5 x6).1.2.1.2.2.2.1.2.2 ∧ c = (E_do_1 v b r e j t
 n c o ws x1 x2 x3 x4 x5 x6).1.2.1.2.2.2.2 ∧ o = (E_do_1 v b r e j t n c o ws x1 x2 x3 x4 x5 x6).1.2.2 ∧ ws = ws))))))
def P_isTime (n : Int) : Prop :=
 (decide ((0 : Int) ≤ n) && decide (n ≤ (1000000000 : Int))) = isTimeB n
abbrev E_until1_1 (ds : List De) (kn : Int) (tm : Int) (x : Nat) :=
 (bif (decide ((ds.getD (↑x : Int).toNat DTT.d0).1 > kn) || decide ((ds.getD (↑x : Int).toNat DTT.d0).2.1 > tm)) == false then List.take x (h1 ds) ++ [(((ds.getD (↑x : Int).toNat DTT.d0).1, (ds.getD (↑x : Int).toNat DTT.d0).2.1, (ds.getD
 (↑x : Int).toNat DTT.d0).2.2.1, (ds.getD (↑x : Int).toNat DTT.d0).2.2.2.1, (ds.getD (↑x : Int).toNat DTT.d0).2.2.2.2.1, (ds.getD (↑x : Int).toNat DTT.d0).2.2.2.2.2), ())] else List.take x (h1 ds))
abbrev E_until1_2 (ds : List De) (kn : Int) (tm : Int) (go : Lp (De × Unit)) (x : Nat) :=
 (decide ((ds.getD (↑x : Int).toNat DTT.d0).1 > kn) || decide ((ds.getD (↑x : Int).toNat DTT.d0).2.1 > tm) || !go.1 (List.take x (h1 ds) ++ [(((ds.getD (↑x : Int).toNat DTT.d0).1, (ds.getD (↑x : Int).toNat DTT.d0).2.1, (ds.getD (↑x :
 Int).toNat DTT.d0).2.2.1, (ds.getD (↑x : Int).toNat DTT.d0).2.2.2.1, (ds.getD (↑x : Int).toNat DTT.d0).2.2.2.2.1, (ds.getD (↑x : Int).toNat DTT.d0).2.2.2.2.2), ())]))
def P_until1 (ds : List De) (kn tm : Int) (go : Lp (De × Unit)) : Prop :=
 (↑ds.length : Int) ≤ (9223372036854775807 : Int) → (∃ (x : Nat), (x ≤ ds.length ∧ (∀ (i : Nat), i < x → inTime kn tm (ds.getD i de0) = true) ∧ ∀ (i : Nat), (0 : Nat) < i → i ≤ x → go.1 (List.take i (h1 ds)) = true) ∧ (0 : Int) = (↑x :
 Int) ∧ [] = List.take x (h1 ds) ∧ go = go) ∧ ∀ (x : Nat), (x ≤ ds.length ∧ (∀ (i : Nat), i < x → inTime kn tm (ds.getD i de0) = true) ∧ ∀ (i : Nat), (0 : Nat) < i → i ≤ x → go.1 (List.take i (h1 ds)) = true) → (decide ((↑x : Int) <
 (↑ds.length : Int)) = true → (0 : Int) ≤ (↑x : Int) ∧ (↑x : Int) < (↑ds.length : Int) ∧ ((decide ((ds.getD (↑x : Int).toNat DTT.d0).1 > kn) || decide ((ds.getD (↑x : Int).toNat DTT.d0).2.1 > tm)) = false → liveX go (List.take x (h1 ds))
 (((ds.getD (↑x : Int).toNat DTT.d0).1, (ds.getD (↑x : Int).toNat DTT.d0).2.1, (ds.getD (↑x : Int).toNat DTT.d0).2.2.1, (ds.getD (↑x : Int).toNat DTT.d0).2.2.2.1, (ds.getD (↑x : Int).toNat DTT.d0).2.2.2.2.1, (ds.getD (↑x : Int).toNat
 DTT.d0).2.2.2.2.2), ()) ∧ go = go) ∧ ((E_until1_2 ds kn tm go x) = true → (E_until1_1 ds kn tm x) = gfed go.1 [] (h1 (untilL ds kn tm)) ∧ go = go ∧ ds = ds ∧ kn = kn ∧ tm = tm) ∧ ((E_until1_2 ds kn tm go x) = false → InI64 ((↑x : Int) +
 (1 : Int)) ∧ ∃ (x' : Nat), (x' ≤ ds.length ∧ (∀ (i : Nat), i < x' → inTime kn tm (ds.getD i de0) = true) ∧ ∀ (i : Nat), (0 : Nat) < i → i ≤ x' → go.1 (List.take i (h1 ds)) = true) ∧ ds.length - x' < ds.length - x ∧ (↑x : Int) + (1 : Int)
 = (↑x' : Int) ∧ (↑ds.length : Int) = (↑ds.length : Int) ∧ ds = ds ∧ (E_until1_1 ds kn tm x) = List.take x' (h1 ds) ∧ go = go ∧ ds = ds ∧ kn = kn ∧ tm = tm)) ∧ (decide ((↑x : Int) < (↑ds.length : Int)) = false → List.take x (h1 ds) = gfed
 go.1 [] (h1 (untilL ds kn tm)) ∧ go = go ∧ ds = ds ∧ kn = kn ∧ tm = tm)
def P_until (ds : List De) (kn tm : Int) : Prop :=
 coL (LV.clo (82 : FuncId) [] [((3 : Nat), (0 : Nat)), ((4 : Nat), (0 : Nat)), ((5 : Nat), (0 : Nat))]) (LV.clo (82 : Nat) [] [((3 : Nat), (0 : Nat)), ((4 : Nat), (0 : Nat)), ((5 : Nat), (0 : Nat))]) = LV.clo (82 : FuncId) [] [((3 : Nat),
 (0 : Nat)), ((4 : Nat), (0 : Nat)), ((5 : Nat), (0 : Nat))] ∧ ds = ds ∧ kn = kn ∧ tm = tm
abbrev E_run_1 (ws : List Wk) (hist : List ((Int × Int × Int × Int × Int × Int) × PUnit)) (x : (Int × Int × Int × Int × Int × Int) × PUnit) :=
 (doS ws ((runS ws (firstR ws) (unD hist)).1.1, ((runS ws (firstR ws) (unD hist)).1.2.1.1, (runS ws (firstR ws) (unD hist)).1.2.1.2.1, (runS ws (firstR ws) (unD hist)).1.2.1.2.2.1, ((runS ws (firstR ws) (unD hist)).1.2.1.2.2.2.1.1, (runS
 ws (firstR ws) (unD hist)).1.2.1.2.2.2.1.2.1, (runS ws (firstR ws) (unD hist)).1.2.1.2.2.2.1.2.2), (runS ws (firstR ws) (unD hist)).1.2.1.2.2.2.2), (runS ws (firstR ws) (unD hist)).1.2.2) (x.1.1, x.1.2.1, x.1.2.2.1, x.1.2.2.2.1,
 x.1.2.2.2.2.1, x.1.2.2.2.2.2))
def P_run (ws : List Wk) (ds : List De) (kn tm : Int) : Prop :=
 worksB ws = true ∧ (∀ (m : Nat), (unD (List.take m (h1 (untilL ds kn tm)))).length ≤ (1000000 : Nat)) ∧ goRun ws = goRun ws ∧ True ∧ ((firstR ws).1 = (runS ws (firstR ws) (unD [])).1.1 ∧ (firstR ws).2.1.1 = (runS ws (firstR ws) (unD
 [])).1.2.1.1 ∧ (firstR ws).2.1.2.1 = (runS ws (firstR ws) (unD [])).1.2.1.2.1 ∧ (firstR ws).2.1.2.2.1 = (runS ws (firstR ws) (unD [])).1.2.1.2.2.1 ∧ (firstR ws).2.1.2.2.2.1.1 = (runS ws (firstR ws) (unD [])).1.2.1.2.2.2.1.1 ∧ (firstR
 ws).2.1.2.2.2.1.2.1 = (runS ws (firstR ws) (unD [])).1.2.1.2.2.2.1.2.1 ∧ (firstR ws).2.1.2.2.2.1.2.2 = (runS ws (firstR ws) (unD [])).1.2.1.2.2.2.1.2.2 ∧ (firstR ws).2.1.2.2.2.2 = (runS ws (firstR ws) (unD [])).1.2.1.2.2.2.2 ∧ (firstR
 ws).2.2 = (runS ws (firstR ws) (unD [])).1.2.2 ∧ ws = ws) ∧ (∀ (hist : List ((Int × Int × Int × Int × Int × Int) × PUnit)), True → ∀ (x : (Int × Int × Int × Int × Int × Int) × PUnit), liveX (goRun ws) hist x → worksB ws = true ∧ rise
 (runS ws (firstR ws) (unD hist)).1.2.2 ∧ (runS ws (firstR ws) (unD hist)).1.2.2.length ≤ (100 : Nat) ∧ (((E_run_1 ws hist x).2 != (0 : Int)) = true → (runS ws (firstR ws) (unD (hist ++ [x]))).2 = false ∧ True ∧ (runS ws (firstR ws) (unD
 (hist ++ [x]))).2 = false ∧ (E_run_1 ws hist x).1.1 = (runS ws (firstR ws) (unD (hist ++ [x]))).1.1 ∧ (E_run_1 ws hist x).1.2.1.1 = (runS ws (firstR ws) (unD (hist ++ [x]))).1.2.1.1 ∧ (E_run_1 ws hist x).1.2.1.2.1 = (runS ws (firstR ws)
 (unD (hist ++ [x]))).1.2.1.2.1 ∧ (E_run_1 ws hist x).1.2.1.2.2.1 = (runS ws (firstR ws) (unD (hist ++ [x]))).1.2.1.2.2.1 ∧ (E_run_1 ws hist x).1.2.1.2.2.2.1.1 = (runS ws (firstR ws) (unD (hist ++ [x]))).1.2.1.2.2.2.1.1 ∧ (E_run_1 ws hist
 x).1.2.1.2.2.2.1.2.1 = (runS ws (firstR ws) (unD (hist ++ [x]))).1.2.1.2.2.2.1.2.1 ∧ (E_run_1 ws hist x).1.2.1.2.2.2.1.2.2 = (runS ws (firstR ws) (unD (hist ++ [x]))).1.2.1.2.2.2.1.2.2 ∧ (E_run_1 ws hist x).1.2.1.2.2.2.2 = (runS ws
 (firstR ws) (unD (hist ++ [x]))).1.2.1.2.2.2.2 ∧ (E_run_1 ws hist x).1.2.2 = (runS ws (firstR ws) (unD (hist ++ [x]))).1.2.2 ∧ ws = ws ∧ false = false) ∧ (((E_run_1 ws hist x).2 != (0 : Int)) = false → (runS ws (firstR ws) (unD (hist ++
 [x]))).2 = true ∧ True ∧ (E_run_1 ws hist x).1.1 = (runS ws (firstR ws) (unD (hist ++ [x]))).1.1 ∧ (E_run_1 ws hist x).1.2.1.1 = (runS ws (firstR ws) (unD (hist ++ [x]))).1.2.1.1 ∧ (E_run_1 ws hist x).1.2.1.2.1 = (runS ws (firstR ws) (unD
 (hist ++ [x]))).1.2.1.2.1 ∧ (E_run_1 ws hist x).1.2.1.2.2.1 = (runS ws (firstR ws) (unD (hist ++ [x]))).1.2.1.2.2.1 ∧ (E_run_1 ws hist x).1.2.1.2.2.2.1.1 = (runS ws (firstR ws) (unD (hist ++ [x]))).1.2.1.2.2.2.1.1 ∧ (E_run_1 ws hist
 x).1.2.1.2.2.2.1.2.1 = (runS ws (firstR ws) (unD (hist ++ [x]))).1.2.1.2.2.2.1.2.1 ∧ (E_run_1 ws hist x).1.2.1.2.2.2.1.2.2 = (runS ws (firstR ws) (unD (hist ++ [x]))).1.2.1.2.2.2.1.2.2 ∧ (E_run_1 ws hist x).1.2.1.2.2.2.2 = (runS ws
 (firstR ws) (unD (hist ++ [x]))).1.2.1.2.2.2.2 ∧ (E_run_1 ws hist x).1.2.2 = (runS ws (firstR ws) (unD (hist ++ [x]))).1.2.2 ∧ ws = ws ∧ false = false ∧ DV.lit (Value.pointer none) = DV.lit (Value.pointer none))) ∧ (True → (live (goRun
 ws) (gfed (fun (hist : List (De × Unit)) => (runS ws (firstR ws) (unD hist)).2) [] (h1 (untilL ds kn tm))) → true = (runS ws (firstR ws) (untilL ds kn tm)).2 ∧ (runS ws (firstR ws) (unD (gfed (fun (hist : List (De × Unit)) => (runS ws
 (firstR ws) (unD hist)).2) [] (h1 (untilL ds kn tm))))).1.1 = (runS ws (firstR ws) (untilL ds kn tm)).1.1 ∧ (runS ws (firstR ws) (unD (gfed (fun (hist : List (De × Unit)) => (runS ws (firstR ws) (unD hist)).2) [] (h1 (untilL ds kn
 tm))))).1.2.1.1 = (runS ws (firstR ws) (untilL ds kn tm)).1.2.1.1 ∧ (runS ws (firstR ws) (unD (gfed (fun (hist : List (De × Unit)) => (runS ws (firstR ws) (unD hist)).2) [] (h1 (untilL ds kn tm))))).1.2.1.2.1 = (runS ws (firstR ws)
 (untilL ds kn tm)).1.2.1.2.1 ∧ (runS ws (firstR ws) (unD (gfed (fun (hist : List (De × Unit)) => (runS ws (firstR ws) (unD hist)).2) [] (h1 (untilL ds kn tm))))).1.2.1.2.2.1 = (runS ws (firstR ws) (untilL ds kn tm)).1.2.1.2.2.1 ∧ (runS ws
 (firstR ws) (unD (gfed (fun (hist : List (De × Unit)) => (runS ws (firstR ws) (unD hist)).2) [] (h1 (untilL ds kn tm))))).1.2.1.2.2.2.1.1 = (runS ws (firstR ws) (untilL ds kn tm)).1.2.1.2.2.2.1.1 ∧ (runS ws (firstR ws) (unD (gfed (fun
 (hist : List (De × Unit)) => (runS ws (firstR ws) (unD hist)).2) [] (h1 (untilL ds kn tm))))).1.2.1.2.2.2.1.2.1 = (runS ws (firstR ws) (untilL ds kn tm)).1.2.1.2.2.2.1.2.1 ∧ (runS ws (firstR ws) (unD (gfed (fun (hist : List (De × Unit))
 => (runS ws (firstR ws) (unD hist)).2) [] (h1 (untilL ds kn tm))))).1.2.1.2.2.2.1.2.2 = (runS ws (firstR ws) (untilL ds kn tm)).1.2.1.2.2.2.1.2.2 ∧ (runS ws (firstR ws) (unD (gfed (fun (hist : List (De × Unit)) => (runS ws (firstR ws)
 (unD hist)).2) [] (h1 (untilL ds kn tm))))).1.2.1.2.2.2.2 = (runS ws (firstR ws) (untilL ds kn tm)).1.2.1.2.2.2.2 ∧ (runS ws (firstR ws) (unD (gfed (fun (hist : List (De × Unit)) => (runS ws (firstR ws) (unD hist)).2) [] (h1 (untilL ds kn
 tm))))).1.2.2 = (runS ws (firstR ws) (untilL ds kn tm)).1.2.2 ∧ ws = ws) ∧ (¬live (goRun ws) (gfed (fun (hist : List (De × Unit)) => (runS ws (firstR ws) (unD hist)).2) [] (h1 (untilL ds kn tm))) → (runS ws (firstR ws) (unD (gfed (fun
 (hist : List (De × Unit)) => (runS ws (firstR ws) (unD hist)).2) [] (h1 (untilL ds kn tm))))).2 = false → false = (runS ws (firstR ws) (untilL ds kn tm)).2 ∧ (runS ws (firstR ws) (unD (gfed (fun (hist : List (De × Unit)) => (runS ws
 (firstR ws) (unD hist)).2) [] (h1 (untilL ds kn tm))))).1.1 = (runS ws (firstR ws) (untilL ds kn tm)).1.1 ∧ (runS ws (firstR ws) (unD (gfed (fun (hist : List (De × Unit)) => (runS ws (firstR ws) (unD hist)).2) [] (h1 (untilL ds kn
 tm))))).1.2.1.1 = (runS ws (firstR ws) (untilL ds kn tm)).1.2.1.1 ∧ (runS ws (firstR ws) (unD (gfed (fun (hist : List (De × Unit)) => (runS ws (firstR ws) (unD hist)).2) [] (h1 (untilL ds kn tm))))).1.2.1.2.1 = (runS ws (firstR ws)
 (untilL ds kn tm)).1.2.1.2.1 ∧ (runS ws (firstR ws) (unD (gfed (fun (hist : List (De × Unit)) => (runS ws (firstR ws) (unD hist)).2) [] (h1 (untilL ds kn tm))))).1.2.1.2.2.1 = (runS ws (firstR ws) (untilL ds kn tm)).1.2.1.2.2.1 ∧ (runS ws
 (firstR ws) (unD (gfed (fun (hist : List (De × Unit)) => (runS ws (firstR ws) (unD hist)).2) [] (h1 (untilL ds kn tm))))).1.2.1.2.2.2.1.1 = (runS ws (firstR ws) (untilL ds kn tm)).1.2.1.2.2.2.1.1 ∧ (runS ws (firstR ws) (unD (gfed (fun
 (hist : List (De × Unit)) => (runS ws (firstR ws) (unD hist)).2) [] (h1 (untilL ds kn tm))))).1.2.1.2.2.2.1.2.1 = (runS ws (firstR ws) (untilL ds kn tm)).1.2.1.2.2.2.1.2.1 ∧ (runS ws (firstR ws) (unD (gfed (fun (hist : List (De × Unit))
 => (runS ws (firstR ws) (unD hist)).2) [] (h1 (untilL ds kn tm))))).1.2.1.2.2.2.1.2.2 = (runS ws (firstR ws) (untilL ds kn tm)).1.2.1.2.2.2.1.2.2 ∧ (runS ws (firstR ws) (unD (gfed (fun (hist : List (De × Unit)) => (runS ws (firstR ws)
 (unD hist)).2) [] (h1 (untilL ds kn tm))))).1.2.1.2.2.2.2 = (runS ws (firstR ws) (untilL ds kn tm)).1.2.1.2.2.2.2 ∧ (runS ws (firstR ws) (unD (gfed (fun (hist : List (De × Unit)) => (runS ws (firstR ws) (unD hist)).2) [] (h1 (untilL ds kn
 tm))))).1.2.2 = (runS ws (firstR ws) (untilL ds kn tm)).1.2.2 ∧ ws = ws) ∧ True)
def P_allA (ws : List Wk) (ds : List De) : Prop :=
 ((!worksB ws) = false → (↑ds.length : Int) ≤ (9223372036854775807 : Int)) → ((!worksB ws || decide ((↑ds.length : Int) > (1000 : Int))) = true → DV.lit (Value.pointer none) = DV.lit (Value.pointer none) ∧ false = false) ∧ ((!worksB ws ||
 decide ((↑ds.length : Int) > (1000 : Int))) = false → (↑ds.length : Int) ≤ (9223372036854775807 : Int) → (∃ (x : Nat), (x ≤ ds.length ∧ ordFrom (0 : Nat) (0 : Int) ds = ordFrom x (lastD ds x) (List.drop x ds)) ∧ (0 : Int) = (↑x : Int) ∧
 (0 : Int) = lastD ds x) ∧ ∀ (x : Nat), x ≤ ds.length ∧ ordFrom (0 : Nat) (0 : Int) ds = ordFrom x (lastD ds x) (List.drop x ds) → (decide ((↑x : Int) < (↑ds.length : Int)) = true → (0 : Int) ≤ (↑x : Int) ∧ (↑x : Int) < (↑ds.length : Int)
 ∧ InI64 ((↑x : Int) + (1 : Int)) ∧ (((ds.getD (↑x : Int).toNat DTT.d0).1 != (↑x : Int) + (1 : Int) || decide ((ds.getD (↑x : Int).toNat DTT.d0).2.1 < lastD ds x) || !isTimeB (ds.getD (↑x : Int).toNat DTT.d0).2.1) = true → DV.lit
 (Value.pointer none) = DV.lit (Value.pointer none) ∧ false = false) ∧ (((ds.getD (↑x : Int).toNat DTT.d0).1 != (↑x : Int) + (1 : Int) || decide ((ds.getD (↑x : Int).toNat DTT.d0).2.1 < lastD ds x) || !isTimeB (ds.getD (↑x : Int).toNat
 DTT.d0).2.1) = false → InI64 ((↑x : Int) + (1 : Int)) ∧ ∃ (x' : Nat), (x' ≤ ds.length ∧ ordFrom (0 : Nat) (0 : Int) ds = ordFrom x' (lastD ds x') (List.drop x' ds)) ∧ ds.length - x' < ds.length - x ∧ (↑x : Int) + (1 : Int) = (↑x' : Int) ∧
 (ds.getD (↑x : Int).toNat DTT.d0).2.1 = lastD ds x' ∧ (↑ds.length : Int) = (↑ds.length : Int) ∧ ds = ds ∧ (!worksB ws || decide ((↑ds.length : Int) > (1000 : Int))) = (!worksB ws || decide ((↑ds.length : Int) > (1000 : Int))) ∧ ws = ws ∧
 ds = ds)) ∧ (decide ((↑x : Int) < (↑ds.length : Int)) = false → (↑ds.length : Int) ≤ (9223372036854775807 : Int) → worksB ws = true ∧ ds.length ≤ (1000000 : Nat) ∧ LV.ptr ((100000 : Nat) + (100 : Nat) * (48 : Nat)) (0 : Nat) = nilP ∧
 (runS ws (firstR ws) (untilL ds (↑ds.length : Int) (1000000000 : Int))).2 = false))
def P_allB (ws : List Wk) (ds : List De) : Prop :=
 ((!worksB ws) = false → (↑ds.length : Int) ≤ (9223372036854775807 : Int)) → ((!worksB ws || decide ((↑ds.length : Int) > (1000 : Int))) = true → LV.d (DV.lit (Value.pointer none)) = LV.ptr (104800 : Nat) (0 : Nat) ∧ false = (runS ws
 (firstR ws) ds).2 ∧ False) ∧ ((!worksB ws || decide ((↑ds.length : Int) > (1000 : Int))) = false → (↑ds.length : Int) ≤ (9223372036854775807 : Int) → (∃ (x : Nat), (x ≤ ds.length ∧ ordFrom (0 : Nat) (0 : Int) ds = ordFrom x (lastD ds x)
 (List.drop x ds)) ∧ (0 : Int) = (↑x : Int) ∧ (0 : Int) = lastD ds x) ∧ ∀ (x : Nat), x ≤ ds.length ∧ ordFrom (0 : Nat) (0 : Int) ds = ordFrom x (lastD ds x) (List.drop x ds) → (decide ((↑x : Int) < (↑ds.length : Int)) = true → (0 : Int) ≤
 (↑x : Int) ∧ (↑x : Int) < (↑ds.length : Int) ∧ InI64 ((↑x : Int) + (1 : Int)) ∧ (((ds.getD (↑x : Int).toNat DTT.d0).1 != (↑x : Int) + (1 : Int) || decide ((ds.getD (↑x : Int).toNat DTT.d0).2.1 < lastD ds x) || !isTimeB (ds.getD (↑x :
 Int).toNat DTT.d0).2.1) = true → LV.d (DV.lit (Value.pointer none)) = LV.ptr (104800 : Nat) (0 : Nat) ∧ false = (runS ws (firstR ws) ds).2 ∧ False) ∧ (((ds.getD (↑x : Int).toNat DTT.d0).1 != (↑x : Int) + (1 : Int) || decide ((ds.getD (↑x
 : Int).toNat DTT.d0).2.1 < lastD ds x) || !isTimeB (ds.getD (↑x : Int).toNat DTT.d0).2.1) = false → InI64 ((↑x : Int) + (1 : Int)) ∧ ∃ (x' : Nat), (x' ≤ ds.length ∧ ordFrom (0 : Nat) (0 : Int) ds = ordFrom x' (lastD ds x') (List.drop x'
 ds)) ∧ ds.length - x' < ds.length - x ∧ (↑x : Int) + (1 : Int) = (↑x' : Int) ∧ (ds.getD (↑x : Int).toNat DTT.d0).2.1 = lastD ds x' ∧ (↑ds.length : Int) = (↑ds.length : Int) ∧ ds = ds ∧ (!worksB ws || decide ((↑ds.length : Int) > (1000 :
 Int))) = (!worksB ws || decide ((↑ds.length : Int) > (1000 : Int))) ∧ ws = ws ∧ ds = ds)) ∧ (decide ((↑x : Int) < (↑ds.length : Int)) = false → (↑ds.length : Int) ≤ (9223372036854775807 : Int) → worksB ws = true ∧ ds.length ≤ (1000000 :
 Nat) ∧ (runS ws (firstR ws) (untilL ds (↑ds.length : Int) (1000000000 : Int))).2 = (runS ws (firstR ws) ds).2 ∧ (runS ws (firstR ws) (untilL ds (↑ds.length : Int) (1000000000 : Int))).1.1 = (runS ws (firstR ws) ds).1.1 ∧ (runS ws (firstR
 ws) (untilL ds (↑ds.length : Int) (1000000000 : Int))).1.2.1.1 = (runS ws (firstR ws) ds).1.2.1.1 ∧ (runS ws (firstR ws) (untilL ds (↑ds.length : Int) (1000000000 : Int))).1.2.1.2.1 = (runS ws (firstR ws) ds).1.2.1.2.1 ∧ (runS ws (firstR
 ws) (untilL ds (↑ds.length : Int) (1000000000 : Int))).1.2.1.2.2.1 = (runS ws (firstR ws) ds).1.2.1.2.2.1 ∧ (runS ws (firstR ws) (untilL ds (↑ds.length : Int) (1000000000 : Int))).1.2.1.2.2.2.1.1 = (runS ws (firstR ws) ds).1.2.1.2.2.2.1.1
 ∧ (runS ws (firstR ws) (untilL ds (↑ds.length : Int) (1000000000 : Int))).1.2.1.2.2.2.1.2.1 = (runS ws (firstR ws) ds).1.2.1.2.2.2.1.2.1 ∧ (runS ws (firstR ws) (untilL ds (↑ds.length : Int) (1000000000 : Int))).1.2.1.2.2.2.1.2.2 = (runS
 ws (firstR ws) ds).1.2.1.2.2.2.1.2.2 ∧ (runS ws (firstR ws) (untilL ds (↑ds.length : Int) (1000000000 : Int))).1.2.1.2.2.2.2 = (runS ws (firstR ws) ds).1.2.1.2.2.2.2 ∧ (runS ws (firstR ws) (untilL ds (↑ds.length : Int) (1000000000 :
 Int))).1.2.2 = (runS ws (firstR ws) ds).1.2.2 ∧ ws = ws))
def P_valA (ws : List Wk) (ds : List De) : Prop :=
 ordB ws ds = false ∧ false = validD ws ds
def P_valB (ws : List Wk) (ds : List De) : Prop :=
 ordB ws ds = true ∧ (runS ws (firstR ws) ds).2 = validD ws ds
def P_pushA (ws : List Wk) (ds : List De) (x1 x2 x3 x4 x5 x6 : Int) : Prop :=
 ordB ws ds = false ∧ ((↑ds.length : Int) ≤ (9223372036854775807 : Int) → ((!false || decide (x3 < (1 : Int)) || decide (x3 > (5 : Int))) = false → InI64 ((↑ds.length : Int) + (1 : Int))) ∧ ((!false || decide (x3 < (1 : Int)) || decide (x3
 > (5 : Int)) || x1 != (↑ds.length : Int) + (1 : Int) || !isTimeB x2) = true → [] = (pushS ws ds (x1, x2, x3, x4, x5, x6)).1 ∧ (1 : Int) = (pushS ws ds (x1, x2, x3, x4, x5, x6)).2) ∧ ((!false || decide (x3 < (1 : Int)) || decide (x3 > (5 :
 Int)) || x1 != (↑ds.length : Int) + (1 : Int) || !isTimeB x2) = false → (decide ((↑ds.length : Int) > (0 : Int)) = true → InI64 ((↑ds.length : Int) - (1 : Int))) ∧ (decide ((↑ds.length : Int) > (0 : Int)) = true → (0 : Int) ≤ (↑ds.length
 : Int) - (1 : Int) ∧ (↑ds.length : Int) - (1 : Int) < (↑ds.length : Int)) ∧ ((decide ((↑ds.length : Int) > (0 : Int)) && decide (x2 < (ds.getD ((↑ds.length : Int) - (1 : Int)).toNat DTT.d0).2.1)) = true → [] = (pushS ws ds (x1, x2, x3,
 x4, x5, x6)).1 ∧ (6 : Int) = (pushS ws ds (x1, x2, x3, x4, x5, x6)).2) ∧ ((decide ((↑ds.length : Int) > (0 : Int)) && decide (x2 < (ds.getD ((↑ds.length : Int) - (1 : Int)).toNat DTT.d0).2.1)) = false → (((↑ds.length : Int) == (1000 :
 Int)) = true → [] = (pushS ws ds (x1, x2, x3, x4, x5, x6)).1 ∧ (2 : Int) = (pushS ws ds (x1, x2, x3, x4, x5, x6)).2) ∧ (((↑ds.length : Int) == (1000 : Int)) = false → False))))
abbrev E_pushB_1 (ws : List Wk) (ds : List De) (x1 : Int) (x2 : Int) (x3 : Int) (x4 : Int) (x5 : Int) (x6 : Int) :=
 (doS ws ((runS ws (firstR ws) ds).1.1, ((runS ws (firstR ws) ds).1.2.1.1, (runS ws (firstR ws) ds).1.2.1.2.1, (runS ws (firstR ws) ds).1.2.1.2.2.1, ((runS ws (firstR ws) ds).1.2.1.2.2.2.1.1, (runS ws (firstR ws) ds).1.2.1.2.2.2.1.2.1,
 (runS ws (firstR ws) ds).1.2.1.2.2.2.1.2.2), (runS ws (firstR ws) ds).1.2.1.2.2.2.2), (runS ws (firstR ws) ds).1.2.2) (x1, x2, x3, x4, x5, x6))
def P_pushB (ws : List Wk) (ds : List De) (x1 x2 x3 x4 x5 x6 : Int) : Prop :=
 ordB ws ds = true ∧ ((↑ds.length : Int) ≤ (9223372036854775807 : Int) → ((!(runS ws (firstR ws) ds).2 || decide (x3 < (1 : Int)) || decide (x3 > (5 : Int))) = false → InI64 ((↑ds.length : Int) + (1 : Int))) ∧ ((!(runS ws (firstR ws) ds).2
 || decide (x3 < (1 : Int)) || decide (x3 > (5 : Int)) || x1 != (↑ds.length : Int) + (1 : Int) || !isTimeB x2) = true → [] = (pushS ws ds (x1, x2, x3, x4, x5, x6)).1 ∧ (1 : Int) = (pushS ws ds (x1, x2, x3, x4, x5, x6)).2) ∧ ((!(runS ws
 (firstR ws) ds).2 || decide (x3 < (1 : Int)) || decide (x3 > (5 : Int)) || x1 != (↑ds.length : Int) + (1 : Int) || !isTimeB x2) = false → (decide ((↑ds.length : Int) > (0 : Int)) = true → InI64 ((↑ds.length : Int) - (1 : Int))) ∧ (decide
 ((↑ds.length : Int) > (0 : Int)) = true → (0 : Int) ≤ (↑ds.length : Int) - (1 : Int) ∧ (↑ds.length : Int) - (1 : Int) < (↑ds.length : Int)) ∧ ((decide ((↑ds.length : Int) > (0 : Int)) && decide (x2 < (ds.getD ((↑ds.length : Int) - (1 :
 Int)).toNat DTT.d0).2.1)) = true → [] = (pushS ws ds (x1, x2, x3, x4, x5, x6)).1 ∧ (6 : Int) = (pushS ws ds (x1, x2, x3, x4, x5, x6)).2) ∧ ((decide ((↑ds.length : Int) > (0 : Int)) && decide (x2 < (ds.getD ((↑ds.length : Int) - (1 :
 Int)).toNat DTT.d0).2.1)) = false → (((↑ds.length : Int) == (1000 : Int)) = true → [] = (pushS ws ds (x1, x2, x3, x4, x5, x6)).1 ∧ (2 : Int) = (pushS ws ds (x1, x2, x3, x4, x5, x6)).2) ∧ (((↑ds.length : Int) == (1000 : Int)) = false →
 worksB ws = true ∧ rise (runS ws (firstR ws) ds).1.2.2 ∧ (runS ws (firstR ws) ds).1.2.2.length ≤ (100 : Nat) ∧ (((E_pushB_1 ws ds x1 x2 x3 x4 x5 x6).2 != (0 : Int)) = true → [] = (pushS ws ds (x1, x2, x3, x4, x5, x6)).1 ∧ (E_pushB_1 ws ds
 x1 x2 x3 x4 x5 x6).2 = (pushS ws ds (x1, x2, x3, x4, x5, x6)).2) ∧ (((E_pushB_1 ws ds x1 x2 x3 x4 x5 x6).2 != (0 : Int)) = false → ds.length ≤ (5000 : Nat) ∧ ds.length = ds.length ∧ (ds.length + ((0 : Nat) + (1 : Nat))) * (48 : Nat) ≤
 (140737488355328 : Nat) ∧ ds.length + ((0 : Nat) + (1 : Nat)) = (ds ++ [(x1, x2, x3, x4, x5, x6)]).length ∧ ds ++ [(x1, x2, x3, x4, x5, x6)] = (pushS ws ds (x1, x2, x3, x4, x5, x6)).1 ∧ (0 : Int) = (pushS ws ds (x1, x2, x3, x4, x5,
 x6)).2)))))
def P_atA (ws : List Wk) (ds : List De) (kn tm : Int) : Prop :=
 ordB ws ds = false ∧ (((!false || decide (kn < (0 : Int))) = false → (↑ds.length : Int) ≤ (9223372036854775807 : Int)) → ((!false || decide (kn < (0 : Int)) || decide (kn > (↑ds.length : Int)) || !isTimeB tm) = true → (0 : Int) = (atD ws
 ds kn tm).1.1 ∧ (0 : Int) = (atD ws ds kn tm).1.2.1.1 ∧ [] = (atD ws ds kn tm).1.2.1.2.1 ∧ [] = (atD ws ds kn tm).1.2.1.2.2.1 ∧ (0 : Int) = (atD ws ds kn tm).1.2.1.2.2.2.1.1 ∧ (0 : Int) = (atD ws ds kn tm).1.2.1.2.2.2.1.2.1 ∧ (0 : Int) =
 (atD ws ds kn tm).1.2.1.2.2.2.1.2.2 ∧ [] = (atD ws ds kn tm).1.2.1.2.2.2.2 ∧ [] = (atD ws ds kn tm).1.2.2 ∧ (1 : Int) = (atD ws ds kn tm).2) ∧ ((!false || decide (kn < (0 : Int)) || decide (kn > (↑ds.length : Int)) || !isTimeB tm) = false
 → worksB ws = true ∧ ds.length ≤ (1000000 : Nat) ∧ (runS ws (firstR ws) (untilL ds kn tm)).1.1 = (atD ws ds kn tm).1.1 ∧ (runS ws (firstR ws) (untilL ds kn tm)).1.2.1.1 = (atD ws ds kn tm).1.2.1.1 ∧ (runS ws (firstR ws) (untilL ds kn
 tm)).1.2.1.2.1 = (atD ws ds kn tm).1.2.1.2.1 ∧ (runS ws (firstR ws) (untilL ds kn tm)).1.2.1.2.2.1 = (atD ws ds kn tm).1.2.1.2.2.1 ∧ (runS ws (firstR ws) (untilL ds kn tm)).1.2.1.2.2.2.1.1 = (atD ws ds kn tm).1.2.1.2.2.2.1.1 ∧ (runS ws
 (firstR ws) (untilL ds kn tm)).1.2.1.2.2.2.1.2.1 = (atD ws ds kn tm).1.2.1.2.2.2.1.2.1 ∧ (runS ws (firstR ws) (untilL ds kn tm)).1.2.1.2.2.2.1.2.2 = (atD ws ds kn tm).1.2.1.2.2.2.1.2.2 ∧ (runS ws (firstR ws) (untilL ds kn
 tm)).1.2.1.2.2.2.2 = (atD ws ds kn tm).1.2.1.2.2.2.2 ∧ (runS ws (firstR ws) (untilL ds kn tm)).1.2.2 = (atD ws ds kn tm).1.2.2 ∧ (0 : Int) = (atD ws ds kn tm).2))
def P_atB (ws : List Wk) (ds : List De) (kn tm : Int) : Prop :=
 ordB ws ds = true ∧ (((!(runS ws (firstR ws) ds).2 || decide (kn < (0 : Int))) = false → (↑ds.length : Int) ≤ (9223372036854775807 : Int)) → ((!(runS ws (firstR ws) ds).2 || decide (kn < (0 : Int)) || decide (kn > (↑ds.length : Int)) ||
 !isTimeB tm) = true → (0 : Int) = (atD ws ds kn tm).1.1 ∧ (0 : Int) = (atD ws ds kn tm).1.2.1.1 ∧ [] = (atD ws ds kn tm).1.2.1.2.1 ∧ [] = (atD ws ds kn tm).1.2.1.2.2.1 ∧ (0 : Int) = (atD ws ds kn tm).1.2.1.2.2.2.1.1 ∧ (0 : Int) = (atD ws
 ds kn tm).1.2.1.2.2.2.1.2.1 ∧ (0 : Int) = (atD ws ds kn tm).1.2.1.2.2.2.1.2.2 ∧ [] = (atD ws ds kn tm).1.2.1.2.2.2.2 ∧ [] = (atD ws ds kn tm).1.2.2 ∧ (1 : Int) = (atD ws ds kn tm).2) ∧ ((!(runS ws (firstR ws) ds).2 || decide (kn < (0 :
 Int)) || decide (kn > (↑ds.length : Int)) || !isTimeB tm) = false → worksB ws = true ∧ ds.length ≤ (1000000 : Nat) ∧ (runS ws (firstR ws) (untilL ds kn tm)).1.1 = (atD ws ds kn tm).1.1 ∧ (runS ws (firstR ws) (untilL ds kn tm)).1.2.1.1 =
 (atD ws ds kn tm).1.2.1.1 ∧ (runS ws (firstR ws) (untilL ds kn tm)).1.2.1.2.1 = (atD ws ds kn tm).1.2.1.2.1 ∧ (runS ws (firstR ws) (untilL ds kn tm)).1.2.1.2.2.1 = (atD ws ds kn tm).1.2.1.2.2.1 ∧ (runS ws (firstR ws) (untilL ds kn
 tm)).1.2.1.2.2.2.1.1 = (atD ws ds kn tm).1.2.1.2.2.2.1.1 ∧ (runS ws (firstR ws) (untilL ds kn tm)).1.2.1.2.2.2.1.2.1 = (atD ws ds kn tm).1.2.1.2.2.2.1.2.1 ∧ (runS ws (firstR ws) (untilL ds kn tm)).1.2.1.2.2.2.1.2.2 = (atD ws ds kn
 tm).1.2.1.2.2.2.1.2.2 ∧ (runS ws (firstR ws) (untilL ds kn tm)).1.2.1.2.2.2.2 = (atD ws ds kn tm).1.2.1.2.2.2.2 ∧ (runS ws (firstR ws) (untilL ds kn tm)).1.2.2 = (atD ws ds kn tm).1.2.2 ∧ (0 : Int) = (atD ws ds kn tm).2))
def P_rFind (ws : List Wk) (x : Int) : Prop :=
 (∃ (x_1 : Nat), (x_1 ≤ ws.length ∧ ∀ (i : Nat), i < x_1 → isVer x (ws.getD i wk0) = false) ∧ (0 : Int) = (↑x_1 : Int)) ∧ ∀ (x_1 : Nat), (x_1 ≤ ws.length ∧ ∀ (i : Nat), i < x_1 → isVer x (ws.getD i wk0) = false) → (↑ws.length : Int) ≤
 (9223372036854775807 : Int) → (decide ((↑x_1 : Int) < (↑ws.length : Int)) = true → (0 : Int) ≤ (↑x_1 : Int) ∧ (↑x_1 : Int) < (↑ws.length : Int) ∧ (((ws.getD (↑x_1 : Int).toNat WTT.d0).1.1 == x) = true → (↑x_1 : Int) = gidx (isVer x) ws) ∧
 (((ws.getD (↑x_1 : Int).toNat WTT.d0).1.1 == x) = false → InI64 ((↑x_1 : Int) + (1 : Int)) ∧ ∃ (x' : Nat), (x' ≤ ws.length ∧ ∀ (i : Nat), i < x' → isVer x (ws.getD i wk0) = false) ∧ ws.length - x' < ws.length - x_1 ∧ (↑x_1 : Int) + (1 :
 Int) = (↑x' : Int) ∧ ws = ws ∧ x = x)) ∧ (decide ((↑x_1 : Int) < (↑ws.length : Int)) = false → (-1 : Int) = gidx (isVer x) ws)
def P_rFirst (ws : List Wk) : Prop :=
 (0 : Int) ≤ (0 : Int) ∧ (0 : Int) < (↑ws.length : Int) ∧ (0 : Int) ≤ (0 : Int) ∧ (0 : Int) < (↑ws.length : Int) ∧ (ws.getD (Int.toNat (0 : Int)) WTT.d0).1.1 = (firstR ws).1 ∧ (ws.getD (Int.toNat (0 : Int)) WTT.d0).2.1.1 = (firstR
 ws).2.1.1 ∧ (ws.getD (Int.toNat (0 : Int)) WTT.d0).2.1.2.1 = (firstR ws).2.1.2.1 ∧ (ws.getD (Int.toNat (0 : Int)) WTT.d0).2.1.2.2.1 = (firstR ws).2.1.2.2.1 ∧ (ws.getD (Int.toNat (0 : Int)) WTT.d0).2.1.2.2.2.1.1 = (firstR ws).2.1.2.2.2.1.1
 ∧ (ws.getD (Int.toNat (0 : Int)) WTT.d0).2.1.2.2.2.1.2.1 = (firstR ws).2.1.2.2.2.1.2.1 ∧ (ws.getD (Int.toNat (0 : Int)) WTT.d0).2.1.2.2.2.1.2.2 = (firstR ws).2.1.2.2.2.1.2.2 ∧ (ws.getD (Int.toNat (0 : Int)) WTT.d0).2.1.2.2.2.2 = (firstR
 ws).2.1.2.2.2.2 ∧ [] = (firstR ws).2.2
abbrev E_rWorks_1 (ws : List Wk) (x : Nat) :=
 (decide ((ws.getD (↑x : Int).toNat WTT.d0).1.1 ≤ lastW ws x) || decide ((ws.getD (↑x : Int).toNat WTT.d0).1.1 > (1000000 : Int)) || !validF ((ws.getD (↑x : Int).toNat WTT.d0).2.1.1, (ws.getD (↑x : Int).toNat WTT.d0).2.1.2.1, (ws.getD (↑x
 : Int).toNat WTT.d0).2.1.2.2.1, ((ws.getD (↑x : Int).toNat WTT.d0).2.1.2.2.2.1.1, (ws.getD (↑x : Int).toNat WTT.d0).2.1.2.2.2.1.2.1, (ws.getD (↑x : Int).toNat WTT.d0).2.1.2.2.2.1.2.2), (ws.getD (↑x : Int).toNat WTT.d0).2.1.2.2.2.2))
abbrev E_rWorks_2 (ws : List Wk) (x : Nat) :=
 (decide ((ws.getD (↑x : Int).toNat WTT.d0).1.1 ≤ lastW ws x) || decide ((ws.getD (↑x : Int).toNat WTT.d0).1.1 > (1000000 : Int)) || !validF ((ws.getD (↑x : Int).toNat WTT.d0).2.1.1, (ws.getD (↑x : Int).toNat WTT.d0).2.1.2.1, (ws.getD (↑x
 : Int).toNat WTT.d0).2.1.2.2.1, ((ws.getD (↑x : Int).toNat WTT.d0).2.1.2.2.2.1.1, (ws.getD (↑x : Int).toNat WTT.d0).2.1.2.2.2.1.2.1, (ws.getD (↑x : Int).toNat WTT.d0).2.1.2.2.2.1.2.2), (ws.getD (↑x : Int).toNat WTT.d0).2.1.2.2.2.2) ||
 (ws.getD (↑x : Int).toNat WTT.d0).2.1.1 != (↑(List.length (ws.getD (↑x : Int).toNat WTT.d0).1.2.1) : Int))
def P_rWorks (ws : List Wk) : Prop :=
 (↑ws.length : Int) ≤ (9223372036854775807 : Int) → (decide ((↑ws.length : Int) < (1 : Int)) = false → (↑ws.length : Int) ≤ (9223372036854775807 : Int)) → ((decide ((↑ws.length : Int) < (1 : Int)) || decide ((↑ws.length : Int) > (100 :
 Int))) = true → false = worksB ws) ∧ ((decide ((↑ws.length : Int) < (1 : Int)) || decide ((↑ws.length : Int) > (100 : Int))) = false → (∃ (x : Nat), (x ≤ ws.length ∧ worksFrom (0 : Int) ws = worksFrom (lastW ws x) (List.drop x ws)) ∧ (0 :
 Int) = (↑x : Int) ∧ (0 : Int) = lastW ws x) ∧ ∀ (x : Nat), x ≤ ws.length ∧ worksFrom (0 : Int) ws = worksFrom (lastW ws x) (List.drop x ws) → (↑ws.length : Int) ≤ (9223372036854775807 : Int) → (decide ((↑x : Int) < (↑ws.length : Int)) =
 true → (0 : Int) ≤ (↑x : Int) ∧ (↑x : Int) < (↑ws.length : Int) ∧ ((decide ((ws.getD (↑x : Int).toNat WTT.d0).1.1 ≤ lastW ws x) || decide ((ws.getD (↑x : Int).toNat WTT.d0).1.1 > (1000000 : Int))) = false → (0 : Int) ≤ (↑x : Int) ∧ (↑x :
 Int) < (↑ws.length : Int)) ∧ ((E_rWorks_1 ws x) = false → (0 : Int) ≤ (↑x : Int) ∧ (↑x : Int) < (↑ws.length : Int)) ∧ ((E_rWorks_1 ws x) = false → (0 : Int) ≤ (↑x : Int) ∧ (↑x : Int) < (↑ws.length : Int)) ∧ (((E_rWorks_1 ws x) = false →
 (↑(List.length (ws.getD (↑x : Int).toNat WTT.d0).1.2.1) : Int) ≤ (9223372036854775807 : Int)) → ((E_rWorks_2 ws x) = true → false = worksB ws) ∧ ((E_rWorks_2 ws x) = false → InI64 ((↑x : Int) + (1 : Int)) ∧ ∃ (x' : Nat), (x' ≤ ws.length ∧
 worksFrom (0 : Int) ws = worksFrom (lastW ws x') (List.drop x' ws)) ∧ ws.length - x' < ws.length - x ∧ (↑x : Int) + (1 : Int) = (↑x' : Int) ∧ (ws.getD (↑x : Int).toNat WTT.d0).1.1 = lastW ws x' ∧ (decide ((↑ws.length : Int) < (1 : Int))
 || decide ((↑ws.length : Int) > (100 : Int))) = (decide ((↑ws.length : Int) < (1 : Int)) || decide ((↑ws.length : Int) > (100 : Int))) ∧ ws = ws))) ∧ (decide ((↑x : Int) < (↑ws.length : Int)) = false → true = worksB ws))
abbrev E_rOssia_1 (x4 : Int) (x5 : Int) (x6 : Int) :=
 (decide (x4 < (1 : Int)) || decide (x4 > (20 : Int)) || decide (x5 < (0 : Int)) || decide (x5 > (1 : Int)) || x6 != (0 : Int))
abbrev E_rOssia_2 (v : Int) (b : Int) (r : List T3) (e : List T3) (j : Int) (t : Int) (n : Int) (c : List T3) (o : List Int) (x1 : Int) (x2 : Int) (x3 : Int) (x4 : Int) (x5 : Int) (x6 : Int) :=
 (ossiaS (v, (b, r, e, (j, t, n), c), o) (x1, x2, x3, x4, x5, x6))
abbrev E_rOssia_3 (b : Int) (r : List T3) (e : List T3) (j : Int) (t : Int) (n : Int) (c : List T3) (o : List Int) (x4 : Int) (x5 : Int) (x : Nat) :=
 (decide (((b, r, e, (j, t, n), c), o).2.getD (↑x : Int).toNat (Ty.ti IntKind.i64).d0 > x4) && x5 == (1 : Int) && ((↑x : Int) == (0 : Int) || decide (((b, r, e, (j, t, n), c), o).2.getD ((↑x : Int) - (1 : Int)).toNat (Ty.ti IntKind.i64).d0
 < x4)))
def P_rOssia (v b : Int) (r e : List T3) (j t n : Int) (c : List T3) (o : List Int) (x1 x2 x3 x4 x5 x6 : Int) : Prop :=
 ((E_rOssia_1 x4 x5 x6) = true → v = (E_rOssia_2 v b r e j t n c o x1 x2 x3 x4 x5 x6).1.1 ∧ ((b, r, e, (j, t, n), c), o).1.1 = (E_rOssia_2 v b r e j t n c o x1 x2 x3 x4 x5 x6).1.2.1.1 ∧ ((b, r, e, (j, t, n), c), o).1.2.1 = (E_rOssia_2 v b
 r e j t n c o x1 x2 x3 x4 x5 x6).1.2.1.2.1 ∧ ((b, r, e, (j, t, n), c), o).1.2.2.1 = (E_rOssia_2 v b r e j t n c o x1 x2 x3 x4 x5 x6).1.2.1.2.2.1 ∧ ((b, r, e, (j, t, n), c), o).1.2.2.2.1.1 = (E_rOssia_2 v b r e j t n c o x1 x2 x3 x4 x5
 x6).1.2.1.2.2.2.1.1 ∧ ((b, r, e, (j, t, n), c), o).1.2.2.2.1.2.1 = (E_rOssia_2 v b r e j t n c o x1 x2 x3 x4 x5 x6).1.2.1.2.2.2.1.2.1 ∧ ((b, r, e, (j, t, n), c), o).1.2.2.2.1.2.2 = (E_rOssia_2 v b r e j t n c o x1 x2 x3 x4 x5
 x6).1.2.1.2.2.2.1.2.2 ∧ ((b, r, e, (j, t, n), c), o).1.2.2.2.2 = (E_rOssia_2 v b r e j t n c o x1 x2 x3 x4 x5 x6).1.2.1.2.2.2.2 ∧ ((b, r, e, (j, t, n), c), o).2 = (E_rOssia_2 v b r e j t n c o x1 x2 x3 x4 x5 x6).1.2.2 ∧ (1 : Int) =
 (E_rOssia_2 v b r e j t n c o x1 x2 x3 x4 x5 x6).2) ∧ ((E_rOssia_1 x4 x5 x6) = false → (∃ (x : Nat), x ≤ o.length ∧ (0 : Int) = (↑x : Int) ∧ (0 : Int) = (ossO x4 x5 o x).2 ∧ [] = (ossO x4 x5 o x).1 ∧ (0 : Nat) = (ossO x4 x5 o x).1.length)
 ∧ ∀ (x : Nat), x ≤ o.length → (↑((b, r, e, (j, t, n), c), o).2.length : Int) ≤ (9223372036854775807 : Int) → (decide ((↑x : Int) < (↑((b, r, e, (j, t, n), c), o).2.length : Int)) = true → (0 : Int) ≤ (↑x : Int) ∧ (↑x : Int) < (↑((b, r, e,
 (j, t, n), c), o).2.length : Int) ∧ ((((b, r, e, (j, t, n), c), o).2.getD (↑x : Int).toNat (Ty.ti IntKind.i64).d0 == x4) = true → InI64 ((↑x : Int) + (1 : Int)) ∧ ∃ (x' : Nat), x' ≤ o.length ∧ o.length - x' < o.length - x ∧ (↑x : Int) +
 (1 : Int) = (↑x' : Int) ∧ (1 : Int) = (ossO x4 x5 o x').2 ∧ (ossO x4 x5 o x).1 = (ossO x4 x5 o x').1 ∧ (E_rOssia_1 x4 x5 x6) = (E_rOssia_1 x4 x5 x6) ∧ (0 : Int) = (0 : Int) ∧ v = v ∧ ((b, r, e, (j, t, n), c), o).1.1 = ((b, r, e, (j, t,
 n), c), o).1.1 ∧ ((b, r, e, (j, t, n), c), o).1.2.1 = ((b, r, e, (j, t, n), c), o).1.2.1 ∧ ((b, r, e, (j, t, n), c), o).1.2.2.1 = ((b, r, e, (j, t, n), c), o).1.2.2.1 ∧ ((b, r, e, (j, t, n), c), o).1.2.2.2.1.1 = ((b, r, e, (j, t, n), c),
 o).1.2.2.2.1.1 ∧ ((b, r, e, (j, t, n), c), o).1.2.2.2.1.2.1 = ((b, r, e, (j, t, n), c), o).1.2.2.2.1.2.1 ∧ ((b, r, e, (j, t, n), c), o).1.2.2.2.1.2.2 = ((b, r, e, (j, t, n), c), o).1.2.2.2.1.2.2 ∧ ((b, r, e, (j, t, n), c), o).1.2.2.2.2 =
 ((b, r, e, (j, t, n), c), o).1.2.2.2.2 ∧ ((b, r, e, (j, t, n), c), o).2 = ((b, r, e, (j, t, n), c), o).2 ∧ x1 = x1 ∧ x2 = x2 ∧ x3 = x3 ∧ x4 = x4 ∧ x5 = x5 ∧ x6 = x6 ∧ (ossO x4 x5 o x).1.length = (ossO x4 x5 o x').1.length ∧ (0 : Int) = (0
 : Int) ∧ (0 : Int) = (0 : Int) ∧ nl PUnit = nl PUnit ∧ nl PUnit = nl PUnit ∧ (0 : Int) = (0 : Int) ∧ (0 : Int) = (0 : Int) ∧ (0 : Int) = (0 : Int) ∧ nl PUnit = nl PUnit ∧ nl PUnit = nl PUnit ∧ x1 = x1 ∧ x2 = x2 ∧ x3 = x3 ∧ x4 = x4 ∧ x5 =
 x5 ∧ x6 = x6 ∧ v = v ∧ ((b, r, e, (j, t, n), c), o).1.1 = ((b, r, e, (j, t, n), c), o).1.1 ∧ ((b, r, e, (j, t, n), c), o).1.2.1 = ((b, r, e, (j, t, n), c), o).1.2.1 ∧ ((b, r, e, (j, t, n), c), o).1.2.2.1 = ((b, r, e, (j, t, n), c),
 o).1.2.2.1 ∧ ((b, r, e, (j, t, n), c), o).1.2.2.2.1.1 = ((b, r, e, (j, t, n), c), o).1.2.2.2.1.1 ∧ ((b, r, e, (j, t, n), c), o).1.2.2.2.1.2.1 = ((b, r, e, (j, t, n), c), o).1.2.2.2.1.2.1 ∧ ((b, r, e, (j, t, n), c), o).1.2.2.2.1.2.2 = ((b,
 r, e, (j, t, n), c), o).1.2.2.2.1.2.2 ∧ ((b, r, e, (j, t, n), c), o).1.2.2.2.2 = ((b, r, e, (j, t, n), c), o).1.2.2.2.2 ∧ ((b, r, e, (j, t, n), c), o).2 = ((b, r, e, (j, t, n), c), o).2) ∧ ((((b, r, e, (j, t, n), c), o).2.getD (↑x :
 Int).toNat (Ty.ti IntKind.i64).d0 == x4) = false → (0 : Int) ≤ (↑x : Int) ∧ (↑x : Int) < (↑((b, r, e, (j, t, n), c), o).2.length : Int) ∧ (((↑x : Int) == (0 : Int)) = false ∧ (decide (((b, r, e, (j, t, n), c), o).2.getD (↑x : Int).toNat
 (Ty.ti IntKind.i64).d0 > x4) && x5 == (1 : Int)) = true → InI64 ((↑x : Int) - (1 : Int))) ∧ (((↑x : Int) == (0 : Int)) = false ∧ (decide (((b, r, e, (j, t, n), c), o).2.getD (↑x : Int).toNat (Ty.ti IntKind.i64).d0 > x4) && x5 == (1 :
 Int)) = true → (0 : Int) ≤ (↑x : Int) - (1 : Int) ∧ (↑x : Int) - (1 : Int) < (↑((b, r, e, (j, t, n), c), o).2.length : Int)) ∧ ((E_rOssia_3 b r e j t n c o x4 x5 x) = true → (ossO x4 x5 o x).1.length = (ossO x4 x5 o x).1.length ∧ ((ossO
 x4 x5 o x).1.length + ((0 : Nat) + (1 : Nat))) * (8 : Nat) ≤ (140737488355328 : Nat) ∧ (0 : Int) ≤ (↑x : Int) ∧ (↑x : Int) < (↑((b, r, e, (j, t, n), c), o).2.length : Int) ∧ ((ossO x4 x5 o x).1 ++ [x4]).length = (ossO x4 x5 o x).1.length
 + ((0 : Nat) + (1 : Nat)) ∧ ((ossO x4 x5 o x).1.length + ((0 : Nat) + (1 : Nat)) + ((0 : Nat) + (1 : Nat))) * (8 : Nat) ≤ (140737488355328 : Nat) ∧ InI64 ((↑x : Int) + (1 : Int)) ∧ ∃ (x' : Nat), x' ≤ o.length ∧ o.length - x' < o.length -
 x ∧ (↑x : Int) + (1 : Int) = (↑x' : Int) ∧ (ossO x4 x5 o x).2 = (ossO x4 x5 o x').2 ∧ (ossO x4 x5 o x).1 ++ [x4] ++ [((b, r, e, (j, t, n), c), o).2.getD (↑x : Int).toNat (Ty.ti IntKind.i64).d0] = (ossO x4 x5 o x').1 ∧ (E_rOssia_1 x4 x5
 x6) = (E_rOssia_1 x4 x5 x6) ∧ (0 : Int) = (0 : Int) ∧ v = v ∧ ((b, r, e, (j, t, n), c), o).1.1 = ((b, r, e, (j, t, n), c), o).1.1 ∧ ((b, r, e, (j, t, n), c), o).1.2.1 = ((b, r, e, (j, t, n), c), o).1.2.1 ∧ ((b, r, e, (j, t, n), c),
 o).1.2.2.1 = ((b, r, e, (j, t, n), c), o).1.2.2.1 ∧ ((b, r, e, (j, t, n), c), o).1.2.2.2.1.1 = ((b, r, e, (j, t, n), c), o).1.2.2.2.1.1 ∧ ((b, r, e, (j, t, n), c), o).1.2.2.2.1.2.1 = ((b, r, e, (j, t, n), c), o).1.2.2.2.1.2.1 ∧ ((b, r, e,
 (j, t, n), c), o).1.2.2.2.1.2.2 = ((b, r, e, (j, t, n), c), o).1.2.2.2.1.2.2 ∧ ((b, r, e, (j, t, n), c), o).1.2.2.2.2 = ((b, r, e, (j, t, n), c), o).1.2.2.2.2 ∧ ((b, r, e, (j, t, n), c), o).2 = ((b, r, e, (j, t, n), c), o).2 ∧ x1 = x1 ∧
 x2 = x2 ∧ x3 = x3 ∧ x4 = x4 ∧ x5 = x5 ∧ x6 = x6 ∧ (ossO x4 x5 o x).1.length + ((0 : Nat) + (1 : Nat)) + ((0 : Nat) + (1 : Nat)) = (ossO x4 x5 o x').1.length ∧ (0 : Int) = (0 : Int) ∧ (0 : Int) = (0 : Int) ∧ nl PUnit = nl PUnit ∧ nl PUnit
 = nl PUnit ∧ (0 : Int) = (0 : Int) ∧ (0 : Int) = (0 : Int) ∧ (0 : Int) = (0 : Int) ∧ nl PUnit = nl PUnit ∧ nl PUnit = nl PUnit ∧ x1 = x1 ∧ x2 = x2 ∧ x3 = x3 ∧ x4 = x4 ∧ x5 = x5 ∧ x6 = x6 ∧ v = v ∧ ((b, r, e, (j, t, n), c), o).1.1 = ((b,
 r, e, (j, t, n), c), o).1.1 ∧ ((b, r, e, (j, t, n), c), o).1.2.1 = ((b, r, e, (j, t, n), c), o).1.2.1 ∧ ((b, r, e, (j, t, n), c), o).1.2.2.1 = ((b, r, e, (j, t, n), c), o).1.2.2.1 ∧ ((b, r, e, (j, t, n), c), o).1.2.2.2.1.1 = ((b, r, e,
 (j, t, n), c), o).1.2.2.2.1.1 ∧ ((b, r, e, (j, t, n), c), o).1.2.2.2.1.2.1 = ((b, r, e, (j, t, n), c), o).1.2.2.2.1.2.1 ∧ ((b, r, e, (j, t, n), c), o).1.2.2.2.1.2.2 = ((b, r, e, (j, t, n), c), o).1.2.2.2.1.2.2 ∧ ((b, r, e, (j, t, n), c),
 o).1.2.2.2.2 = ((b, r, e, (j, t, n), c), o).1.2.2.2.2 ∧ ((b, r, e, (j, t, n), c), o).2 = ((b, r, e, (j, t, n), c), o).2) ∧ ((E_rOssia_3 b r e j t n c o x4 x5 x) = false → (0 : Int) ≤ (↑x : Int) ∧ (↑x : Int) < (↑((b, r, e, (j, t, n), c),
 o).2.length : Int) ∧ (ossO x4 x5 o x).1.length = (ossO x4 x5 o x).1.length ∧ ((ossO x4 x5 o x).1.length + ((0 : Nat) + (1 : Nat))) * (8 : Nat) ≤ (140737488355328 : Nat) ∧ InI64 ((↑x : Int) + (1 : Int)) ∧ ∃ (x' : Nat), x' ≤ o.length ∧
 o.length - x' < o.length - x ∧ (↑x : Int) + (1 : Int) = (↑x' : Int) ∧ (ossO x4 x5 o x).2 = (ossO x4 x5 o x').2 ∧ (ossO x4 x5 o x).1 ++ [((b, r, e, (j, t, n), c), o).2.getD (↑x : Int).toNat (Ty.ti IntKind.i64).d0] = (ossO x4 x5 o x').1 ∧
 (E_rOssia_1 x4 x5 x6) = (E_rOssia_1 x4 x5 x6) ∧ (0 : Int) = (0 : Int) ∧ v = v ∧ ((b, r, e, (j, t, n), c), o).1.1 = ((b, r, e, (j, t, n), c), o).1.1 ∧ ((b, r, e, (j, t, n), c), o).1.2.1 = ((b, r, e, (j, t, n), c), o).1.2.1 ∧ ((b, r, e, (j,
 t, n), c), o).1.2.2.1 = ((b, r, e, (j, t, n), c), o).1.2.2.1 ∧ ((b, r, e, (j, t, n), c), o).1.2.2.2.1.1 = ((b, r, e, (j, t, n), c), o).1.2.2.2.1.1 ∧ ((b, r, e, (j, t, n), c), o).1.2.2.2.1.2.1 = ((b, r, e, (j, t, n), c), o).1.2.2.2.1.2.1 ∧
 ((b, r, e, (j, t, n), c), o).1.2.2.2.1.2.2 = ((b, r, e, (j, t, n), c), o).1.2.2.2.1.2.2 ∧ ((b, r, e, (j, t, n), c), o).1.2.2.2.2 = ((b, r, e, (j, t, n), c), o).1.2.2.2.2 ∧ ((b, r, e, (j, t, n), c), o).2 = ((b, r, e, (j, t, n), c), o).2 ∧
 x1 = x1 ∧ x2 = x2 ∧ x3 = x3 ∧ x4 = x4 ∧ x5 = x5 ∧ x6 = x6 ∧ (ossO x4 x5 o x).1.length + ((0 : Nat) + (1 : Nat)) = (ossO x4 x5 o x').1.length ∧ (0 : Int) = (0 : Int) ∧ (0 : Int) = (0 : Int) ∧ nl PUnit = nl PUnit ∧ nl PUnit = nl PUnit ∧ (0
 : Int) = (0 : Int) ∧ (0 : Int) = (0 : Int) ∧ (0 : Int) = (0 : Int) ∧ nl PUnit = nl PUnit ∧ nl PUnit = nl PUnit ∧ x1 = x1 ∧ x2 = x2 ∧ x3 = x3 ∧ x4 = x4 ∧ x5 = x5 ∧ x6 = x6 ∧ v = v ∧ ((b, r, e, (j, t, n), c), o).1.1 = ((b, r, e, (j, t, n),
 c), o).1.1 ∧ ((b, r, e, (j, t, n), c), o).1.2.1 = ((b, r, e, (j, t, n), c), o).1.2.1 ∧ ((b, r, e, (j, t, n), c), o).1.2.2.1 = ((b, r, e, (j, t, n), c), o).1.2.2.1 ∧ ((b, r, e, (j, t, n), c), o).1.2.2.2.1.1 = ((b, r, e, (j, t, n), c),
 o).1.2.2.2.1.1 ∧ ((b, r, e, (j, t, n), c), o).1.2.2.2.1.2.1 = ((b, r, e, (j, t, n), c), o).1.2.2.2.1.2.1 ∧ ((b, r, e, (j, t, n), c), o).1.2.2.2.1.2.2 = ((b, r, e, (j, t, n), c), o).1.2.2.2.1.2.2 ∧ ((b, r, e, (j, t, n), c), o).1.2.2.2.2 =
 ((b, r, e, (j, t, n), c), o).1.2.2.2.2 ∧ ((b, r, e, (j, t, n), c), o).2 = ((b, r, e, (j, t, n), c), o).2))) ∧ (decide ((↑x : Int) < (↑((b, r, e, (j, t, n), c), o).2.length : Int)) = false → (((ossO x4 x5 o x).2 == x5) = true → v =
 (E_rOssia_2 v b r e j t n c o x1 x2 x3 x4 x5 x6).1.1 ∧ ((b, r, e, (j, t, n), c), o).1.1 = (E_rOssia_2 v b r e j t n c o x1 x2 x3 x4 x5 x6).1.2.1.1 ∧ ((b, r, e, (j, t, n), c), o).1.2.1 = (E_rOssia_2 v b r e j t n c o x1 x2 x3 x4 x5
 x6).1.2.1.2.1 ∧ ((b, r, e, (j, t, n), c), o).1.2.2.1 = (E_rOssia_2 v b r e j t n c o x1 x2 x3 x4 x5 x6).1.2.1.2.2.1 ∧ ((b, r, e, (j, t, n), c), o).1.2.2.2.1.1 = (E_rOssia_2 v b r e j t n c o x1 x2 x3 x4 x5 x6).1.2.1.2.2.2.1.1 ∧ ((b, r, e,
 (j, t, n), c), o).1.2.2.2.1.2.1 = (E_rOssia_2 v b r e j t n c o x1 x2 x3 x4 x5 x6).1.2.1.2.2.2.1.2.1 ∧ ((b, r, e, (j, t, n), c), o).1.2.2.2.1.2.2 = (E_rOssia_2 v b r e j t n c o x1 x2 x3 x4 x5 x6).1.2.1.2.2.2.1.2.2 ∧ ((b, r, e, (j, t, n),
 c), o).1.2.2.2.2 = (E_rOssia_2 v b r e j t n c o x1 x2 x3 x4 x5 x6).1.2.1.2.2.2.2 ∧ ((b, r, e, (j, t, n), c), o).2 = (E_rOssia_2 v b r e j t n c o x1 x2 x3 x4 x5 x6).1.2.2 ∧ (6 : Int) = (E_rOssia_2 v b r e j t n c o x1 x2 x3 x4 x5 x6).2)
 ∧ (((ossO x4 x5 o x).2 == x5) = false → (((↑(ossO x4 x5 o x).1.length : Int) == (0 : Int)) = false ∧ (x5 == (1 : Int)) = true → InI64 ((↑(ossO x4 x5 o x).1.length : Int) - (1 : Int))) ∧ (((↑(ossO x4 x5 o x).1.length : Int) == (0 : Int)) =
 false ∧ (x5 == (1 : Int)) = true → (0 : Int) ≤ (↑(ossO x4 x5 o x).1.length : Int) - (1 : Int) ∧ (↑(ossO x4 x5 o x).1.length : Int) - (1 : Int) < (↑(ossO x4 x5 o x).1.length : Int)) ∧ (((x5 == (1 : Int)) = true → (↑(ossO x4 x5 o
 x).1.length : Int) ≤ (9223372036854775807 : Int)) → (((↑(ossO x4 x5 o x).1.length : Int) == (0 : Int)) = false ∧ (x5 == (1 : Int)) = true → (↑(ossO x4 x5 o x).1.length : Int) ≤ (9223372036854775807 : Int)) → ((x5 == (1 : Int) && ((↑(ossO
 x4 x5 o x).1.length : Int) == (0 : Int) || decide ((ossO x4 x5 o x).1.getD ((↑(ossO x4 x5 o x).1.length : Int) - (1 : Int)).toNat (Ty.ti IntKind.i64).d0 < x4))) = true → (ossO x4 x5 o x).1.length = (ossO x4 x5 o x).1.length ∧ ((ossO x4 x5
 o x).1.length + ((0 : Nat) + (1 : Nat))) * (8 : Nat) ≤ (140737488355328 : Nat) ∧ v = (E_rOssia_2 v b r e j t n c o x1 x2 x3 x4 x5 x6).1.1 ∧ ((b, r, e, (j, t, n), c), o).1.1 = (E_rOssia_2 v b r e j t n c o x1 x2 x3 x4 x5 x6).1.2.1.1 ∧ ((b,
 r, e, (j, t, n), c), o).1.2.1 = (E_rOssia_2 v b r e j t n c o x1 x2 x3 x4 x5 x6).1.2.1.2.1 ∧ ((b, r, e, (j, t, n), c), o).1.2.2.1 = (E_rOssia_2 v b r e j t n c o x1 x2 x3 x4 x5 x6).1.2.1.2.2.1 ∧ ((b, r, e, (j, t, n), c), o).1.2.2.2.1.1 =
 (E_rOssia_2 v b r e j t n c o x1 x2 x3 x4 x5 x6).1.2.1.2.2.2.1.1 ∧ ((b, r, e, (j, t, n), c), o).1.2.2.2.1.2.1 = (E_rOssia_2 v b r e j t n c o x1 x2 x3 x4 x5 x6).1.2.1.2.2.2.1.2.1 ∧ ((b, r, e, (j, t, n), c), o).1.2.2.2.1.2.2 = (E_rOssia_2
 v b r e j t n c o x1 x2 x3 x4 x5 x6).1.2.1.2.2.2.1.2.2 ∧ ((b, r, e, (j, t, n), c), o).1.2.2.2.2 = (E_rOssia_2 v b r e j t n c o x1 x2 x3 x4 x5 x6).1.2.1.2.2.2.2 ∧ (ossO x4 x5 o x).1 ++ [x4] = (E_rOssia_2 v b r e j t n c o x1 x2 x3 x4 x5
 x6).1.2.2 ∧ (0 : Int) = (E_rOssia_2 v b r e j t n c o x1 x2 x3 x4 x5 x6).2) ∧ ((x5 == (1 : Int) && ((↑(ossO x4 x5 o x).1.length : Int) == (0 : Int) || decide ((ossO x4 x5 o x).1.getD ((↑(ossO x4 x5 o x).1.length : Int) - (1 : Int)).toNat
 (Ty.ti IntKind.i64).d0 < x4))) = false → v = (E_rOssia_2 v b r e j t n c o x1 x2 x3 x4 x5 x6).1.1 ∧ ((b, r, e, (j, t, n), c), o).1.1 = (E_rOssia_2 v b r e j t n c o x1 x2 x3 x4 x5 x6).1.2.1.1 ∧ ((b, r, e, (j, t, n), c), o).1.2.1 =
 (E_rOssia_2 v b r e j t n c o x1 x2 x3 x4 x5 x6).1.2.1.2.1 ∧ ((b, r, e, (j, t, n), c), o).1.2.2.1 = (E_rOssia_2 v b r e j t n c o x1 x2 x3 x4 x5 x6).1.2.1.2.2.1 ∧ ((b, r, e, (j, t, n), c), o).1.2.2.2.1.1 = (E_rOssia_2 v b r e j t n c o x1
 x2 x3 x4 x5 x6).1.2.1.2.2.2.1.1 ∧ ((b, r, e, (j, t, n), c), o).1.2.2.2.1.2.1 = (E_rOssia_2 v b r e j t n c o x1 x2 x3 x4 x5 x6).1.2.1.2.2.2.1.2.1 ∧ ((b, r, e, (j, t, n), c), o).1.2.2.2.1.2.2 = (E_rOssia_2 v b r e j t n c o x1 x2 x3 x4 x5
 x6).1.2.1.2.2.2.1.2.2 ∧ ((b, r, e, (j, t, n), c), o).1.2.2.2.2 = (E_rOssia_2 v b r e j t n c o x1 x2 x3 x4 x5 x6).1.2.1.2.2.2.2 ∧ (ossO x4 x5 o x).1 = (E_rOssia_2 v b r e j t n c o x1 x2 x3 x4 x5 x6).1.2.2 ∧ (0 : Int) = (E_rOssia_2 v b r
 e j t n c o x1 x2 x3 x4 x5 x6).2)))))
abbrev E_rDo_1 (b : Int) (r : List T3) (e : List T3) (j : Int) (t : Int) (n : Int) (c : List T3) (o : List Int) :=
 (((b, r, e, (j, t, n), c), o).1.1, ((b, r, e, (j, t, n), c), o).1.2.1, ((b, r, e, (j, t, n), c), o).1.2.2.1, (((b, r, e, (j, t, n), c), o).1.2.2.2.1.1, ((b, r, e, (j, t, n), c), o).1.2.2.2.1.2.1, ((b, r, e, (j, t, n), c),
 o).1.2.2.2.1.2.2), ((b, r, e, (j, t, n), c), o).1.2.2.2.2)
abbrev E_rDo_2 (ws : List Wk) (v : Int) (b : Int) (r : List T3) (e : List T3) (j : Int) (t : Int) (n : Int) (c : List T3) (o : List Int) (x1 : Int) (x2 : Int) (x3 : Int) (x4 : Int) (x5 : Int) (x6 : Int) :=
 (doS ws (v, (b, r, e, (j, t, n), c), o) (x1, x2, x3, x4, x5, x6))
abbrev E_rDo_3 (v : Int) (b : Int) (r : List T3) (e : List T3) (j : Int) (t : Int) (n : Int) (c : List T3) (o : List Int) (x1 : Int) (x2 : Int) (x3 : Int) (x4 : Int) (x5 : Int) (x6 : Int) :=
 (ossiaS (v, (E_rDo_1 b r e j t n c o), ((b, r, e, (j, t, n), c), o).2) (x1, x2, x3, x4, x5, x6))
def P_rDo (ws : List Wk) (v b : Int) (r e : List T3) (j t n : Int) (c : List T3) (o : List Int) (x1 x2 x3 x4 x5 x6 : Int) : Prop :=
 ((x3 == (1 : Int)) = true → ((x5 != (0 : Int) || x6 != (0 : Int)) = true → v = (E_rDo_2 ws v b r e j t n c o x1 x2 x3 x4 x5 x6).1.1 ∧ ((b, r, e, (j, t, n), c), o).1.1 = (E_rDo_2 ws v b r e j t n c o x1 x2 x3 x4 x5 x6).1.2.1.1 ∧ ((b, r, e,
 (j, t, n), c), o).1.2.1 = (E_rDo_2 ws v b r e j t n c o x1 x2 x3 x4 x5 x6).1.2.1.2.1 ∧ ((b, r, e, (j, t, n), c), o).1.2.2.1 = (E_rDo_2 ws v b r e j t n c o x1 x2 x3 x4 x5 x6).1.2.1.2.2.1 ∧ ((b, r, e, (j, t, n), c), o).1.2.2.2.1.1 =
 (E_rDo_2 ws v b r e j t n c o x1 x2 x3 x4 x5 x6).1.2.1.2.2.2.1.1 ∧ ((b, r, e, (j, t, n), c), o).1.2.2.2.1.2.1 = (E_rDo_2 ws v b r e j t n c o x1 x2 x3 x4 x5 x6).1.2.1.2.2.2.1.2.1 ∧ ((b, r, e, (j, t, n), c), o).1.2.2.2.1.2.2 = (E_rDo_2 ws
 v b r e j t n c o x1 x2 x3 x4 x5 x6).1.2.1.2.2.2.1.2.2 ∧ ((b, r, e, (j, t, n), c), o).1.2.2.2.2 = (E_rDo_2 ws v b r e j t n c o x1 x2 x3 x4 x5 x6).1.2.1.2.2.2.2 ∧ ((b, r, e, (j, t, n), c), o).2 = (E_rDo_2 ws v b r e j t n c o x1 x2 x3 x4
 x5 x6).1.2.2 ∧ (1 : Int) = (E_rDo_2 ws v b r e j t n c o x1 x2 x3 x4 x5 x6).2) ∧ ((x5 != (0 : Int) || x6 != (0 : Int)) = false → (decide (gidx (isVer x4) ws < (0 : Int)) = true → v = (E_rDo_2 ws v b r e j t n c o x1 x2 x3 x4 x5 x6).1.1 ∧
 ((b, r, e, (j, t, n), c), o).1.1 = (E_rDo_2 ws v b r e j t n c o x1 x2 x3 x4 x5 x6).1.2.1.1 ∧ ((b, r, e, (j, t, n), c), o).1.2.1 = (E_rDo_2 ws v b r e j t n c o x1 x2 x3 x4 x5 x6).1.2.1.2.1 ∧ ((b, r, e, (j, t, n), c), o).1.2.2.1 =
 (E_rDo_2 ws v b r e j t n c o x1 x2 x3 x4 x5 x6).1.2.1.2.2.1 ∧ ((b, r, e, (j, t, n), c), o).1.2.2.2.1.1 = (E_rDo_2 ws v b r e j t n c o x1 x2 x3 x4 x5 x6).1.2.1.2.2.2.1.1 ∧ ((b, r, e, (j, t, n), c), o).1.2.2.2.1.2.1 = (E_rDo_2 ws v b r e
 j t n c o x1 x2 x3 x4 x5 x6).1.2.1.2.2.2.1.2.1 ∧ ((b, r, e, (j, t, n), c), o).1.2.2.2.1.2.2 = (E_rDo_2 ws v b r e j t n c o x1 x2 x3 x4 x5 x6).1.2.1.2.2.2.1.2.2 ∧ ((b, r, e, (j, t, n), c), o).1.2.2.2.2 = (E_rDo_2 ws v b r e j t n c o x1
 x2 x3 x4 x5 x6).1.2.1.2.2.2.2 ∧ ((b, r, e, (j, t, n), c), o).2 = (E_rDo_2 ws v b r e j t n c o x1 x2 x3 x4 x5 x6).1.2.2 ∧ (4 : Int) = (E_rDo_2 ws v b r e j t n c o x1 x2 x3 x4 x5 x6).2) ∧ (decide (gidx (isVer x4) ws < (0 : Int)) = false →
 (0 : Int) ≤ gidx (isVer x4) ws ∧ gidx (isVer x4) ws < (↑ws.length : Int) ∧ x4 = (E_rDo_2 ws v b r e j t n c o x1 x2 x3 x4 x5 x6).1.1 ∧ (ws.getD (gidx (isVer x4) ws).toNat WTT.d0).2.1.1 = (E_rDo_2 ws v b r e j t n c o x1 x2 x3 x4 x5
 x6).1.2.1.1 ∧ (ws.getD (gidx (isVer x4) ws).toNat WTT.d0).2.1.2.1 = (E_rDo_2 ws v b r e j t n c o x1 x2 x3 x4 x5 x6).1.2.1.2.1 ∧ (ws.getD (gidx (isVer x4) ws).toNat WTT.d0).2.1.2.2.1 = (E_rDo_2 ws v b r e j t n c o x1 x2 x3 x4 x5
 x6).1.2.1.2.2.1 ∧ (ws.getD (gidx (isVer x4) ws).toNat WTT.d0).2.1.2.2.2.1.1 = (E_rDo_2 ws v b r e j t n c o x1 x2 x3 x4 x5 x6).1.2.1.2.2.2.1.1 ∧ (ws.getD (gidx (isVer x4) ws).toNat WTT.d0).2.1.2.2.2.1.2.1 = (E_rDo_2 ws v b r e j t n c o
 x1 x2 x3 x4 x5 x6).1.2.1.2.2.2.1.2.1 ∧ (ws.getD (gidx (isVer x4) ws).toNat WTT.d0).2.1.2.2.2.1.2.2 = (E_rDo_2 ws v b r e j t n c o x1 x2 x3 x4 x5 x6).1.2.1.2.2.2.1.2.2 ∧ (ws.getD (gidx (isVer x4) ws).toNat WTT.d0).2.1.2.2.2.2 = (E_rDo_2
 ws v b r e j t n c o x1 x2 x3 x4 x5 x6).1.2.1.2.2.2.2 ∧ [] = (E_rDo_2 ws v b r e j t n c o x1 x2 x3 x4 x5 x6).1.2.2 ∧ (0 : Int) = (E_rDo_2 ws v b r e j t n c o x1 x2 x3 x4 x5 x6).2))) ∧ ((x3 == (1 : Int)) = false → ((x3 == (2 : Int)) =
 true → (((cutS (E_rDo_1 b r e j t n c o) (x4, x5, x6)).2 != (0 : Int)) = true → v = (E_rDo_2 ws v b r e j t n c o x1 x2 x3 x4 x5 x6).1.1 ∧ ((b, r, e, (j, t, n), c), o).1.1 = (E_rDo_2 ws v b r e j t n c o x1 x2 x3 x4 x5 x6).1.2.1.1 ∧ ((b,
 r, e, (j, t, n), c), o).1.2.1 = (E_rDo_2 ws v b r e j t n c o x1 x2 x3 x4 x5 x6).1.2.1.2.1 ∧ ((b, r, e, (j, t, n), c), o).1.2.2.1 = (E_rDo_2 ws v b r e j t n c o x1 x2 x3 x4 x5 x6).1.2.1.2.2.1 ∧ ((b, r, e, (j, t, n), c), o).1.2.2.2.1.1 =
 (E_rDo_2 ws v b r e j t n c o x1 x2 x3 x4 x5 x6).1.2.1.2.2.2.1.1 ∧ ((b, r, e, (j, t, n), c), o).1.2.2.2.1.2.1 = (E_rDo_2 ws v b r e j t n c o x1 x2 x3 x4 x5 x6).1.2.1.2.2.2.1.2.1 ∧ ((b, r, e, (j, t, n), c), o).1.2.2.2.1.2.2 = (E_rDo_2 ws
 v b r e j t n c o x1 x2 x3 x4 x5 x6).1.2.1.2.2.2.1.2.2 ∧ ((b, r, e, (j, t, n), c), o).1.2.2.2.2 = (E_rDo_2 ws v b r e j t n c o x1 x2 x3 x4 x5 x6).1.2.1.2.2.2.2 ∧ ((b, r, e, (j, t, n), c), o).2 = (E_rDo_2 ws v b r e j t n c o x1 x2 x3 x4
 x5 x6).1.2.2 ∧ (cutS (E_rDo_1 b r e j t n c o) (x4, x5, x6)).2 = (E_rDo_2 ws v b r e j t n c o x1 x2 x3 x4 x5 x6).2) ∧ (((cutS (E_rDo_1 b r e j t n c o) (x4, x5, x6)).2 != (0 : Int)) = false → v = (E_rDo_2 ws v b r e j t n c o x1 x2 x3 x4
 x5 x6).1.1 ∧ (cutS (E_rDo_1 b r e j t n c o) (x4, x5, x6)).1.1 = (E_rDo_2 ws v b r e j t n c o x1 x2 x3 x4 x5 x6).1.2.1.1 ∧ (cutS (E_rDo_1 b r e j t n c o) (x4, x5, x6)).1.2.1 = (E_rDo_2 ws v b r e j t n c o x1 x2 x3 x4 x5 x6).1.2.1.2.1 ∧
 (cutS (E_rDo_1 b r e j t n c o) (x4, x5, x6)).1.2.2.1 = (E_rDo_2 ws v b r e j t n c o x1 x2 x3 x4 x5 x6).1.2.1.2.2.1 ∧ (cutS (E_rDo_1 b r e j t n c o) (x4, x5, x6)).1.2.2.2.1.1 = (E_rDo_2 ws v b r e j t n c o x1 x2 x3 x4 x5
 x6).1.2.1.2.2.2.1.1 ∧ (cutS (E_rDo_1 b r e j t n c o) (x4, x5, x6)).1.2.2.2.1.2.1 = (E_rDo_2 ws v b r e j t n c o x1 x2 x3 x4 x5 x6).1.2.1.2.2.2.1.2.1 ∧ (cutS (E_rDo_1 b r e j t n c o) (x4, x5, x6)).1.2.2.2.1.2.2 = (E_rDo_2 ws v b r e j t
 n c o x1 x2 x3 x4 x5 x6).1.2.1.2.2.2.1.2.2 ∧ (cutS (E_rDo_1 b r e j t n c o) (x4, x5, x6)).1.2.2.2.2 = (E_rDo_2 ws v b r e j t n c o x1 x2 x3 x4 x5 x6).1.2.1.2.2.2.2 ∧ ((b, r, e, (j, t, n), c), o).2 = (E_rDo_2 ws v b r e j t n c o x1 x2
 x3 x4 x5 x6).1.2.2 ∧ (0 : Int) = (E_rDo_2 ws v b r e j t n c o x1 x2 x3 x4 x5 x6).2)) ∧ ((x3 == (2 : Int)) = false → ((x3 == (3 : Int)) = true → (((openS (E_rDo_1 b r e j t n c o) (x4, x5, x6)).2 != (0 : Int)) = true → v = (E_rDo_2 ws v b
 r e j t n c o x1 x2 x3 x4 x5 x6).1.1 ∧ ((b, r, e, (j, t, n), c), o).1.1 = (E_rDo_2 ws v b r e j t n c o x1 x2 x3 x4 x5 x6).1.2.1.1 ∧ ((b, r, e, (j, t, n), c), o).1.2.1 = (E_rDo_2 ws v b r e j t n c o x1 x2 x3 x4 x5 x6).1.2.1.2.1 ∧ ((b, r,
 e, (j, t, n), c), o).1.2.2.1 = (E_rDo_2 ws v b r e j t n c o x1 x2 x3 x4 x5 x6).1.2.1.2.2.1 ∧ ((b, r, e, (j, t, n), c), o).1.2.2.2.1.1 = (E_rDo_2 ws v b r e j t n c o x1 x2 x3 x4 x5 x6).1.2.1.2.2.2.1.1 ∧ ((b, r, e, (j, t, n), c),
 o).1.2.2.2.1.2.1 = (E_rDo_2 ws v b r e j t n c o x1 x2 x3 x4 x5 x6).1.2.1.2.2.2.1.2.1 ∧ ((b, r, e, (j, t, n), c), o).1.2.2.2.1.2.2 = (E_rDo_2 ws v b r e j t n c o x1 x2 x3 x4 x5 x6).1.2.1.2.2.2.1.2.2 ∧ ((b, r, e, (j, t, n), c),
 o).1.2.2.2.2 = (E_rDo_2 ws v b r e j t n c o x1 x2 x3 x4 x5 x6).1.2.1.2.2.2.2 ∧ ((b, r, e, (j, t, n), c), o).2 = (E_rDo_2 ws v b r e j t n c o x1 x2 x3 x4 x5 x6).1.2.2 ∧ (openS (E_rDo_1 b r e j t n c o) (x4, x5, x6)).2 = (E_rDo_2 ws v b r
 e j t n c o x1 x2 x3 x4 x5 x6).2) ∧ (((openS (E_rDo_1 b r e j t n c o) (x4, x5, x6)).2 != (0 : Int)) = false → v = (E_rDo_2 ws v b r e j t n c o x1 x2 x3 x4 x5 x6).1.1 ∧ (openS (E_rDo_1 b r e j t n c o) (x4, x5, x6)).1.1 = (E_rDo_2 ws v b
 r e j t n c o x1 x2 x3 x4 x5 x6).1.2.1.1 ∧ (openS (E_rDo_1 b r e j t n c o) (x4, x5, x6)).1.2.1 = (E_rDo_2 ws v b r e j t n c o x1 x2 x3 x4 x5 x6).1.2.1.2.1 ∧ (openS (E_rDo_1 b r e j t n c o) (x4, x5, x6)).1.2.2.1 = (E_rDo_2 ws v b r e j
 t n c o x1 x2 x3 x4 x5 x6).1.2.1.2.2.1 ∧ (openS (E_rDo_1 b r e j t n c o) (x4, x5, x6)).1.2.2.2.1.1 = (E_rDo_2 ws v b r e j t n c o x1 x2 x3 x4 x5 x6).1.2.1.2.2.2.1.1 ∧ (openS (E_rDo_1 b r e j t n c o) (x4, x5, x6)).1.2.2.2.1.2.1 =
 (E_rDo_2 ws v b r e j t n c o x1 x2 x3 x4 x5 x6).1.2.1.2.2.2.1.2.1 ∧ (openS (E_rDo_1 b r e j t n c o) (x4, x5, x6)).1.2.2.2.1.2.2 = (E_rDo_2 ws v b r e j t n c o x1 x2 x3 x4 x5 x6).1.2.1.2.2.2.1.2.2 ∧ (openS (E_rDo_1 b r e j t n c o) (x4,
 x5, x6)).1.2.2.2.2 = (E_rDo_2 ws v b r e j t n c o x1 x2 x3 x4 x5 x6).1.2.1.2.2.2.2 ∧ ((b, r, e, (j, t, n), c), o).2 = (E_rDo_2 ws v b r e j t n c o x1 x2 x3 x4 x5 x6).1.2.2 ∧ (0 : Int) = (E_rDo_2 ws v b r e j t n c o x1 x2 x3 x4 x5
 x6).2)) ∧ ((x3 == (3 : Int)) = false → ((x3 == (4 : Int)) = true → ((x6 != (0 : Int)) = true → v = (E_rDo_2 ws v b r e j t n c o x1 x2 x3 x4 x5 x6).1.1 ∧ ((b, r, e, (j, t, n), c), o).1.1 = (E_rDo_2 ws v b r e j t n c o x1 x2 x3 x4 x5
 x6).1.2.1.1 ∧ ((b, r, e, (j, t, n), c), o).1.2.1 = (E_rDo_2 ws v b r e j t n c o x1 x2 x3 x4 x5 x6).1.2.1.2.1 ∧ ((b, r, e, (j, t, n), c), o).1.2.2.1 = (E_rDo_2 ws v b r e j t n c o x1 x2 x3 x4 x5 x6).1.2.1.2.2.1 ∧ ((b, r, e, (j, t, n),
 c), o).1.2.2.2.1.1 = (E_rDo_2 ws v b r e j t n c o x1 x2 x3 x4 x5 x6).1.2.1.2.2.2.1.1 ∧ ((b, r, e, (j, t, n), c), o).1.2.2.2.1.2.1 = (E_rDo_2 ws v b r e j t n c o x1 x2 x3 x4 x5 x6).1.2.1.2.2.2.1.2.1 ∧ ((b, r, e, (j, t, n), c),
 o).1.2.2.2.1.2.2 = (E_rDo_2 ws v b r e j t n c o x1 x2 x3 x4 x5 x6).1.2.1.2.2.2.1.2.2 ∧ ((b, r, e, (j, t, n), c), o).1.2.2.2.2 = (E_rDo_2 ws v b r e j t n c o x1 x2 x3 x4 x5 x6).1.2.1.2.2.2.2 ∧ ((b, r, e, (j, t, n), c), o).2 = (E_rDo_2 ws
 v b r e j t n c o x1 x2 x3 x4 x5 x6).1.2.2 ∧ (1 : Int) = (E_rDo_2 ws v b r e j t n c o x1 x2 x3 x4 x5 x6).2) ∧ ((x6 != (0 : Int)) = false → (((timesS (E_rDo_1 b r e j t n c o) x4 x5).2 != (0 : Int)) = true → v = (E_rDo_2 ws v b r e j t n
 c o x1 x2 x3 x4 x5 x6).1.1 ∧ ((b, r, e, (j, t, n), c), o).1.1 = (E_rDo_2 ws v b r e j t n c o x1 x2 x3 x4 x5 x6).1.2.1.1 ∧ ((b, r, e, (j, t, n), c), o).1.2.1 = (E_rDo_2 ws v b r e j t n c o x1 x2 x3 x4 x5 x6).1.2.1.2.1 ∧ ((b, r, e, (j, t,
 n), c), o).1.2.2.1 = (E_rDo_2 ws v b r e j t n c o x1 x2 x3 x4 x5 x6).1.2.1.2.2.1 ∧ ((b, r, e, (j, t, n), c), o).1.2.2.2.1.1 = (E_rDo_2 ws v b r e j t n c o x1 x2 x3 x4 x5 x6).1.2.1.2.2.2.1.1 ∧ ((b, r, e, (j, t, n), c), o).1.2.2.2.1.2.1 =
 (E_rDo_2 ws v b r e j t n c o x1 x2 x3 x4 x5 x6).1.2.1.2.2.2.1.2.1 ∧ ((b, r, e, (j, t, n), c), o).1.2.2.2.1.2.2 = (E_rDo_2 ws v b r e j t n c o x1 x2 x3 x4 x5 x6).1.2.1.2.2.2.1.2.2 ∧ ((b, r, e, (j, t, n), c), o).1.2.2.2.2 = (E_rDo_2 ws v
 b r e j t n c o x1 x2 x3 x4 x5 x6).1.2.1.2.2.2.2 ∧ ((b, r, e, (j, t, n), c), o).2 = (E_rDo_2 ws v b r e j t n c o x1 x2 x3 x4 x5 x6).1.2.2 ∧ (timesS (E_rDo_1 b r e j t n c o) x4 x5).2 = (E_rDo_2 ws v b r e j t n c o x1 x2 x3 x4 x5 x6).2)
 ∧ (((timesS (E_rDo_1 b r e j t n c o) x4 x5).2 != (0 : Int)) = false → v = (E_rDo_2 ws v b r e j t n c o x1 x2 x3 x4 x5 x6).1.1 ∧ (timesS (E_rDo_1 b r e j t n c o) x4 x5).1.1 = (E_rDo_2 ws v b r e j t n c o x1 x2 x3 x4 x5 x6).1.2.1.1 ∧
 (timesS (E_rDo_1 b r e j t n c o) x4 x5).1.2.1 = (E_rDo_2 ws v b r e j t n c o x1 x2 x3 x4 x5 x6).1.2.1.2.1 ∧ (timesS (E_rDo_1 b r e j t n c o) x4 x5).1.2.2.1 = (E_rDo_2 ws v b r e j t n c o x1 x2 x3 x4 x5 x6).1.2.1.2.2.1 ∧ (timesS
 (E_rDo_1 b r e j t n c o) x4 x5).1.2.2.2.1.1 = (E_rDo_2 ws v b r e j t n c o x1 x2 x3 x4 x5 x6).1.2.1.2.2.2.1.1 ∧ (timesS (E_rDo_1 b r e j t n c o) x4 x5).1.2.2.2.1.2.1 = (E_rDo_2 ws v b r e j t n c o x1 x2 x3 x4 x5 x6).1.2.1.2.2.2.1.2.1
 ∧ (timesS (E_rDo_1 b r e j t n c o) x4 x5).1.2.2.2.1.2.2 = (E_rDo_2 ws v b r e j t n c o x1 x2 x3 x4 x5 x6).1.2.1.2.2.2.1.2.2 ∧ (timesS (E_rDo_1 b r e j t n c o) x4 x5).1.2.2.2.2 = (E_rDo_2 ws v b r e j t n c o x1 x2 x3 x4 x5
 x6).1.2.1.2.2.2.2 ∧ ((b, r, e, (j, t, n), c), o).2 = (E_rDo_2 ws v b r e j t n c o x1 x2 x3 x4 x5 x6).1.2.2 ∧ (0 : Int) = (E_rDo_2 ws v b r e j t n c o x1 x2 x3 x4 x5 x6).2))) ∧ ((x3 == (4 : Int)) = false → ((x3 == (5 : Int)) = true →
 rise ((b, r, e, (j, t, n), c), o).2 ∧ ((b, r, e, (j, t, n), c), o).2.length ≤ (100 : Nat) ∧ (E_rDo_3 v b r e j t n c o x1 x2 x3 x4 x5 x6).1.1 = (E_rDo_2 ws v b r e j t n c o x1 x2 x3 x4 x5 x6).1.1 ∧ (E_rDo_3 v b r e j t n c o x1 x2 x3 x4
 x5 x6).1.2.1.1 = (E_rDo_2 ws v b r e j t n c o x1 x2 x3 x4 x5 x6).1.2.1.1 ∧ (E_rDo_3 v b r e j t n c o x1 x2 x3 x4 x5 x6).1.2.1.2.1 = (E_rDo_2 ws v b r e j t n c o x1 x2 x3 x4 x5 x6).1.2.1.2.1 ∧ (E_rDo_3 v b r e j t n c o x1 x2 x3 x4 x5
 x6).1.2.1.2.2.1 = (E_rDo_2 ws v b r e j t n c o x1 x2 x3 x4 x5 x6).1.2.1.2.2.1 ∧ (E_rDo_3 v b r e j t n c o x1 x2 x3 x4 x5 x6).1.2.1.2.2.2.1.1 = (E_rDo_2 ws v b r e j t n c o x1 x2 x3 x4 x5 x6).1.2.1.2.2.2.1.1 ∧ (E_rDo_3 v b r e j t n c o
 x1 x2 x3 x4 x5 x6).1.2.1.2.2.2.1.2.1 = (E_rDo_2 ws v b r e j t n c o x1 x2 x3 x4 x5 x6).1.2.1.2.2.2.1.2.1 ∧ (E_rDo_3 v b r e j t n c o x1 x2 x3 x4 x5 x6).1.2.1.2.2.2.1.2.2 = (E_rDo_2 ws v b r e j t n c o x1 x2 x3 x4 x5
 x6).1.2.1.2.2.2.1.2.2 ∧ (E_rDo_3 v b r e j t n c o x1 x2 x3 x4 x5 x6).1.2.1.2.2.2.2 = (E_rDo_2 ws v b r e j t n c o x1 x2 x3 x4 x5 x6).1.2.1.2.2.2.2 ∧ (E_rDo_3 v b r e j t n c o x1 x2 x3 x4 x5 x6).1.2.2 = (E_rDo_2 ws v b r e j t n c o x1
 x2 x3 x4 x5 x6).1.2.2 ∧ (E_rDo_3 v b r e j t n c o x1 x2 x3 x4 x5 x6).2 = (E_rDo_2 ws v b r e j t n c o x1 x2 x3 x4 x5 x6).2) ∧ ((x3 == (5 : Int)) = false → (((1 : Int) != (0 : Int)) = true → v = (E_rDo_2 ws v b r e j t n c o x1 x2 x3 x4
 x5 x6).1.1 ∧ ((b, r, e, (j, t, n), c), o).1.1 = (E_rDo_2 ws v b r e j t n c o x1 x2 x3 x4 x5 x6).1.2.1.1 ∧ ((b, r, e, (j, t, n), c), o).1.2.1 = (E_rDo_2 ws v b r e j t n c o x1 x2 x3 x4 x5 x6).1.2.1.2.1 ∧ ((b, r, e, (j, t, n), c),
 o).1.2.2.1 = (E_rDo_2 ws v b r e j t n c o x1 x2 x3 x4 x5 x6).1.2.1.2.2.1 ∧ ((b, r, e, (j, t, n), c), o).1.2.2.2.1.1 = (E_rDo_2 ws v b r e j t n c o x1 x2 x3 x4 x5 x6).1.2.1.2.2.2.1.1 ∧ ((b, r, e, (j, t, n), c), o).1.2.2.2.1.2.1 =
 (E_rDo_2 ws v b r e j t n c o x1 x2 x3 x4 x5 x6).1.2.1.2.2.2.1.2.1 ∧ ((b, r, e, (j, t, n), c), o).1.2.2.2.1.2.2 = (E_rDo_2 ws v b r e j t n c o x1 x2 x3 x4 x5 x6).1.2.1.2.2.2.1.2.2 ∧ ((b, r, e, (j, t, n), c), o).1.2.2.2.2 = (E_rDo_2 ws v
 b r e j t n c o x1 x2 x3 x4 x5 x6).1.2.1.2.2.2.2 ∧ ((b, r, e, (j, t, n), c), o).2 = (E_rDo_2 ws v b r e j t n c o x1 x2 x3 x4 x5 x6).1.2.2 ∧ (1 : Int) = (E_rDo_2 ws v b r e j t n c o x1 x2 x3 x4 x5 x6).2) ∧ (((1 : Int) != (0 : Int)) =
 false → v = (E_rDo_2 ws v b r e j t n c o x1 x2 x3 x4 x5 x6).1.1 ∧ ((b, r, e, (j, t, n), c), o).1.1 = (E_rDo_2 ws v b r e j t n c o x1 x2 x3 x4 x5 x6).1.2.1.1 ∧ ((b, r, e, (j, t, n), c), o).1.2.1 = (E_rDo_2 ws v b r e j t n c o x1 x2 x3
 x4 x5 x6).1.2.1.2.1 ∧ ((b, r, e, (j, t, n), c), o).1.2.2.1 = (E_rDo_2 ws v b r e j t n c o x1 x2 x3 x4 x5 x6).1.2.1.2.2.1 ∧ ((b, r, e, (j, t, n), c), o).1.2.2.2.1.1 = (E_rDo_2 ws v b r e j t n c o x1 x2 x3 x4 x5 x6).1.2.1.2.2.2.1.1 ∧ ((b,
 r, e, (j, t, n), c), o).1.2.2.2.1.2.1 = (E_rDo_2 ws v b r e j t n c o x1 x2 x3 x4 x5 x6).1.2.1.2.2.2.1.2.1 ∧ ((b, r, e, (j, t, n), c), o).1.2.2.2.1.2.2 = (E_rDo_2 ws v b r e j t n c o x1 x2 x3 x4 x5 x6).1.2.1.2.2.2.1.2.2 ∧ ((b, r, e, (j,
 t, n), c), o).1.2.2.2.2 = (E_rDo_2 ws v b r e j t n c o x1 x2 x3 x4 x5 x6).1.2.1.2.2.2.2 ∧ ((b, r, e, (j, t, n), c), o).2 = (E_rDo_2 ws v b r e j t n c o x1 x2 x3 x4 x5 x6).1.2.2 ∧ (0 : Int) = (E_rDo_2 ws v b r e j t n c o x1 x2 x3 x4 x5
 x6).2))))))
def P_rTime (n : Int) : Prop :=
 (decide (n ≥ (0 : Int)) && decide (n ≤ (1000000000 : Int))) = isTimeB n
abbrev E_rAfter_1 (ws : List Wk) (ds : List De) (x : Nat) :=
 (doS ws ((runS ws (firstR ws) (List.take x ds)).1.1, ((runS ws (firstR ws) (List.take x ds)).1.2.1.1, (runS ws (firstR ws) (List.take x ds)).1.2.1.2.1, (runS ws (firstR ws) (List.take x ds)).1.2.1.2.2.1, ((runS ws (firstR ws) (List.take x
 ds)).1.2.1.2.2.2.1.1, (runS ws (firstR ws) (List.take x ds)).1.2.1.2.2.2.1.2.1, (runS ws (firstR ws) (List.take x ds)).1.2.1.2.2.2.1.2.2), (runS ws (firstR ws) (List.take x ds)).1.2.1.2.2.2.2), (runS ws (firstR ws) (List.take x
 ds)).1.2.2) ((ds.getD (↑x : Int).toNat DTT.d0).1, (ds.getD (↑x : Int).toNat DTT.d0).2.1, (ds.getD (↑x : Int).toNat DTT.d0).2.2.1, (ds.getD (↑x : Int).toNat DTT.d0).2.2.2.1, (ds.getD (↑x : Int).toNat DTT.d0).2.2.2.2.1, (ds.getD (↑x :
 Int).toNat DTT.d0).2.2.2.2.2))
def P_rAfter (ws : List Wk) (ds : List De) : Prop :=
 (0 : Nat) < ws.length ∧ (∃ (x : Nat), (x ≤ ds.length ∧ (runS ws (firstR ws) (List.take x ds)).2 = true) ∧ (0 : Int) = (↑x : Int) ∧ (firstR ws).1 = (runS ws (firstR ws) (List.take x ds)).1.1 ∧ (firstR ws).2.1.1 = (runS ws (firstR ws)
 (List.take x ds)).1.2.1.1 ∧ (firstR ws).2.1.2.1 = (runS ws (firstR ws) (List.take x ds)).1.2.1.2.1 ∧ (firstR ws).2.1.2.2.1 = (runS ws (firstR ws) (List.take x ds)).1.2.1.2.2.1 ∧ (firstR ws).2.1.2.2.2.1.1 = (runS ws (firstR ws) (List.take
 x ds)).1.2.1.2.2.2.1.1 ∧ (firstR ws).2.1.2.2.2.1.2.1 = (runS ws (firstR ws) (List.take x ds)).1.2.1.2.2.2.1.2.1 ∧ (firstR ws).2.1.2.2.2.1.2.2 = (runS ws (firstR ws) (List.take x ds)).1.2.1.2.2.2.1.2.2 ∧ (firstR ws).2.1.2.2.2.2 = (runS ws
 (firstR ws) (List.take x ds)).1.2.1.2.2.2.2 ∧ (firstR ws).2.2 = (runS ws (firstR ws) (List.take x ds)).1.2.2) ∧ ∀ (x : Nat), x ≤ ds.length ∧ (runS ws (firstR ws) (List.take x ds)).2 = true → (↑ds.length : Int) ≤ (9223372036854775807 :
 Int) → (decide ((↑x : Int) < (↑ds.length : Int)) = true → (0 : Int) ≤ (↑x : Int) ∧ (↑x : Int) < (↑ds.length : Int) ∧ rise (runS ws (firstR ws) (List.take x ds)).1.2.2 ∧ (runS ws (firstR ws) (List.take x ds)).1.2.2.length ≤ (100 : Nat) ∧
 (((E_rAfter_1 ws ds x).2 != (0 : Int)) = true → (runS ws (firstR ws) (List.take x ds)).1.1 = (runS ws (firstR ws) ds).1.1 ∧ (runS ws (firstR ws) (List.take x ds)).1.2.1.1 = (runS ws (firstR ws) ds).1.2.1.1 ∧ (runS ws (firstR ws)
 (List.take x ds)).1.2.1.2.1 = (runS ws (firstR ws) ds).1.2.1.2.1 ∧ (runS ws (firstR ws) (List.take x ds)).1.2.1.2.2.1 = (runS ws (firstR ws) ds).1.2.1.2.2.1 ∧ (runS ws (firstR ws) (List.take x ds)).1.2.1.2.2.2.1.1 = (runS ws (firstR ws)
 ds).1.2.1.2.2.2.1.1 ∧ (runS ws (firstR ws) (List.take x ds)).1.2.1.2.2.2.1.2.1 = (runS ws (firstR ws) ds).1.2.1.2.2.2.1.2.1 ∧ (runS ws (firstR ws) (List.take x ds)).1.2.1.2.2.2.1.2.2 = (runS ws (firstR ws) ds).1.2.1.2.2.2.1.2.2 ∧ (runS ws
 (firstR ws) (List.take x ds)).1.2.1.2.2.2.2 = (runS ws (firstR ws) ds).1.2.1.2.2.2.2 ∧ (runS ws (firstR ws) (List.take x ds)).1.2.2 = (runS ws (firstR ws) ds).1.2.2 ∧ (E_rAfter_1 ws ds x).2 = runE ws (firstR ws) ds) ∧ (((E_rAfter_1 ws ds
 x).2 != (0 : Int)) = false → InI64 ((↑x : Int) + (1 : Int)) ∧ ∃ (x' : Nat), (x' ≤ ds.length ∧ (runS ws (firstR ws) (List.take x' ds)).2 = true) ∧ ds.length - x' < ds.length - x ∧ (↑x : Int) + (1 : Int) = (↑x' : Int) ∧ ws = ws ∧ ds = ds ∧
 (E_rAfter_1 ws ds x).1.1 = (runS ws (firstR ws) (List.take x' ds)).1.1 ∧ (E_rAfter_1 ws ds x).1.2.1.1 = (runS ws (firstR ws) (List.take x' ds)).1.2.1.1 ∧ (E_rAfter_1 ws ds x).1.2.1.2.1 = (runS ws (firstR ws) (List.take x' ds)).1.2.1.2.1 ∧
 (E_rAfter_1 ws ds x).1.2.1.2.2.1 = (runS ws (firstR ws) (List.take x' ds)).1.2.1.2.2.1 ∧ (E_rAfter_1 ws ds x).1.2.1.2.2.2.1.1 = (runS ws (firstR ws) (List.take x' ds)).1.2.1.2.2.2.1.1 ∧ (E_rAfter_1 ws ds x).1.2.1.2.2.2.1.2.1 = (runS ws
 (firstR ws) (List.take x' ds)).1.2.1.2.2.2.1.2.1 ∧ (E_rAfter_1 ws ds x).1.2.1.2.2.2.1.2.2 = (runS ws (firstR ws) (List.take x' ds)).1.2.1.2.2.2.1.2.2 ∧ (E_rAfter_1 ws ds x).1.2.1.2.2.2.2 = (runS ws (firstR ws) (List.take x'
 ds)).1.2.1.2.2.2.2 ∧ (E_rAfter_1 ws ds x).1.2.2 = (runS ws (firstR ws) (List.take x' ds)).1.2.2 ∧ (0 : Int) = (0 : Int) ∧ (0 : Int) = (0 : Int) ∧ nl PUnit = nl PUnit ∧ nl PUnit = nl PUnit ∧ (0 : Int) = (0 : Int) ∧ (0 : Int) = (0 : Int) ∧
 (0 : Int) = (0 : Int) ∧ nl PUnit = nl PUnit ∧ nl PUnit = nl PUnit)) ∧ (decide ((↑x : Int) < (↑ds.length : Int)) = false → (runS ws (firstR ws) (List.take x ds)).1.1 = (runS ws (firstR ws) ds).1.1 ∧ (runS ws (firstR ws) (List.take x
 ds)).1.2.1.1 = (runS ws (firstR ws) ds).1.2.1.1 ∧ (runS ws (firstR ws) (List.take x ds)).1.2.1.2.1 = (runS ws (firstR ws) ds).1.2.1.2.1 ∧ (runS ws (firstR ws) (List.take x ds)).1.2.1.2.2.1 = (runS ws (firstR ws) ds).1.2.1.2.2.1 ∧ (runS ws
 (firstR ws) (List.take x ds)).1.2.1.2.2.2.1.1 = (runS ws (firstR ws) ds).1.2.1.2.2.2.1.1 ∧ (runS ws (firstR ws) (List.take x ds)).1.2.1.2.2.2.1.2.1 = (runS ws (firstR ws) ds).1.2.1.2.2.2.1.2.1 ∧ (runS ws (firstR ws) (List.take x
 ds)).1.2.1.2.2.2.1.2.2 = (runS ws (firstR ws) ds).1.2.1.2.2.2.1.2.2 ∧ (runS ws (firstR ws) (List.take x ds)).1.2.1.2.2.2.2 = (runS ws (firstR ws) ds).1.2.1.2.2.2.2 ∧ (runS ws (firstR ws) (List.take x ds)).1.2.2 = (runS ws (firstR ws)
 ds).1.2.2 ∧ (0 : Int) = runE ws (firstR ws) ds)
def P_rValidD (ws : List Wk) (ds : List De) : Prop :=
 ((!worksB ws) = false → (↑ds.length : Int) ≤ (9223372036854775807 : Int)) → ((!worksB ws || decide ((↑ds.length : Int) > (1000 : Int))) = true → false = validD ws ds) ∧ ((!worksB ws || decide ((↑ds.length : Int) > (1000 : Int))) = false →
 (∃ (x : Nat), (x ≤ ds.length ∧ ordFrom (0 : Nat) (0 : Int) ds = ordFrom x (lastD ds x) (List.drop x ds)) ∧ (0 : Int) = (↑x : Int) ∧ (0 : Int) = lastD ds x) ∧ ∀ (x : Nat), x ≤ ds.length ∧ ordFrom (0 : Nat) (0 : Int) ds = ordFrom x (lastD
 ds x) (List.drop x ds) → (↑ds.length : Int) ≤ (9223372036854775807 : Int) → (decide ((↑x : Int) < (↑ds.length : Int)) = true → (0 : Int) ≤ (↑x : Int) ∧ (↑x : Int) < (↑ds.length : Int) ∧ InI64 ((↑x : Int) + (1 : Int)) ∧ (((ds.getD (↑x :
 Int).toNat DTT.d0).1 != (↑x : Int) + (1 : Int)) = false → (0 : Int) ≤ (↑x : Int) ∧ (↑x : Int) < (↑ds.length : Int)) ∧ (((ds.getD (↑x : Int).toNat DTT.d0).1 != (↑x : Int) + (1 : Int) || decide ((ds.getD (↑x : Int).toNat DTT.d0).2.1 < lastD
 ds x)) = false → (0 : Int) ≤ (↑x : Int) ∧ (↑x : Int) < (↑ds.length : Int)) ∧ (((ds.getD (↑x : Int).toNat DTT.d0).1 != (↑x : Int) + (1 : Int) || decide ((ds.getD (↑x : Int).toNat DTT.d0).2.1 < lastD ds x) || !isTimeB (ds.getD (↑x :
 Int).toNat DTT.d0).2.1) = true → false = validD ws ds) ∧ (((ds.getD (↑x : Int).toNat DTT.d0).1 != (↑x : Int) + (1 : Int) || decide ((ds.getD (↑x : Int).toNat DTT.d0).2.1 < lastD ds x) || !isTimeB (ds.getD (↑x : Int).toNat DTT.d0).2.1) =
 false → (0 : Int) ≤ (↑x : Int) ∧ (↑x : Int) < (↑ds.length : Int) ∧ InI64 ((↑x : Int) + (1 : Int)) ∧ ∃ (x' : Nat), (x' ≤ ds.length ∧ ordFrom (0 : Nat) (0 : Int) ds = ordFrom x' (lastD ds x') (List.drop x' ds)) ∧ ds.length - x' < ds.length
 - x ∧ (↑x : Int) + (1 : Int) = (↑x' : Int) ∧ (ds.getD (↑x : Int).toNat DTT.d0).2.1 = lastD ds x' ∧ (!worksB ws || decide ((↑ds.length : Int) > (1000 : Int))) = (!worksB ws || decide ((↑ds.length : Int) > (1000 : Int))) ∧ ws = ws ∧ ds =
 ds)) ∧ (decide ((↑x : Int) < (↑ds.length : Int)) = false → worksB ws = true ∧ (runE ws (firstR ws) ds == (0 : Int)) = validD ws ds))
def P_rSameI (l m : List Int) : Prop :=
 (↑l.length : Int) ≤ (9223372036854775807 : Int) → (↑m.length : Int) ≤ (9223372036854775807 : Int) → (((↑l.length : Int) != (↑m.length : Int)) = true → false = eqIs l m) ∧ (((↑l.length : Int) != (↑m.length : Int)) = false → (∃ (x : Nat),
 (x ≤ l.length ∧ List.take x l = List.take x m) ∧ (0 : Int) = (↑x : Int)) ∧ ∀ (x : Nat), x ≤ l.length ∧ List.take x l = List.take x m → (↑l.length : Int) ≤ (9223372036854775807 : Int) → (decide ((↑x : Int) < (↑l.length : Int)) = true → (0
 : Int) ≤ (↑x : Int) ∧ (↑x : Int) < (↑l.length : Int) ∧ (0 : Int) ≤ (↑x : Int) ∧ (↑x : Int) < (↑m.length : Int) ∧ ((l.getD (↑x : Int).toNat (Ty.ti IntKind.i64).d0 != m.getD (↑x : Int).toNat (Ty.ti IntKind.i64).d0) = true → false = eqIs l
 m) ∧ ((l.getD (↑x : Int).toNat (Ty.ti IntKind.i64).d0 != m.getD (↑x : Int).toNat (Ty.ti IntKind.i64).d0) = false → InI64 ((↑x : Int) + (1 : Int)) ∧ ∃ (x' : Nat), (x' ≤ l.length ∧ List.take x' l = List.take x' m) ∧ l.length - x' < l.length
 - x ∧ (↑x : Int) + (1 : Int) = (↑x' : Int) ∧ ((↑l.length : Int) != (↑m.length : Int)) = ((↑l.length : Int) != (↑m.length : Int)) ∧ l = l ∧ m = m)) ∧ (decide ((↑x : Int) < (↑l.length : Int)) = false → true = eqIs l m))
def P_rSameR (v b : Int) (r e : List T3) (j t n : Int) (c : List T3) (o : List Int) (v' b' : Int) (r' e' : List T3) (j' t' n' : Int) (c' : List T3) (o' : List Int) : Prop :=
 (v == v' && sameF (((b, r, e, (j, t, n), c), o).1.1, ((b, r, e, (j, t, n), c), o).1.2.1, ((b, r, e, (j, t, n), c), o).1.2.2.1, (((b, r, e, (j, t, n), c), o).1.2.2.2.1.1, ((b, r, e, (j, t, n), c), o).1.2.2.2.1.2.1, ((b, r, e, (j, t, n),
 c), o).1.2.2.2.1.2.2), ((b, r, e, (j, t, n), c), o).1.2.2.2.2) (((b', r', e', (j', t', n'), c'), o').1.1, ((b', r', e', (j', t', n'), c'), o').1.2.1, ((b', r', e', (j', t', n'), c'), o').1.2.2.1, (((b', r', e', (j', t', n'), c'),
 o').1.2.2.2.1.1, ((b', r', e', (j', t', n'), c'), o').1.2.2.2.1.2.1, ((b', r', e', (j', t', n'), c'), o').1.2.2.2.1.2.2), ((b', r', e', (j', t', n'), c'), o').1.2.2.2.2) && eqIs ((b, r, e, (j, t, n), c), o).2 ((b', r', e', (j', t', n'),
 c'), o').2) = sameR (v, (b, r, e, (j, t, n), c), o) (v', (b', r', e', (j', t', n'), c'), o')
def P_rSameD (l m : List De) : Prop :=
 (↑l.length : Int) ≤ (9223372036854775807 : Int) → (↑m.length : Int) ≤ (9223372036854775807 : Int) → (((↑l.length : Int) != (↑m.length : Int)) = true → false = sameD l m) ∧ (((↑l.length : Int) != (↑m.length : Int)) = false → (∃ (x : Nat),
 (x ≤ l.length ∧ List.take x l = List.take x m) ∧ (0 : Int) = (↑x : Int)) ∧ ∀ (x : Nat), x ≤ l.length ∧ List.take x l = List.take x m → (↑l.length : Int) ≤ (9223372036854775807 : Int) → (decide ((↑x : Int) < (↑l.length : Int)) = true → (0
 : Int) ≤ (↑x : Int) ∧ (↑x : Int) < (↑l.length : Int) ∧ (0 : Int) ≤ (↑x : Int) ∧ (↑x : Int) < (↑m.length : Int) ∧ ((!((l.getD (↑x : Int).toNat DTT.d0).1 == (m.getD (↑x : Int).toNat DTT.d0).1 && ((l.getD (↑x : Int).toNat DTT.d0).2.1 ==
 (m.getD (↑x : Int).toNat DTT.d0).2.1 && ((l.getD (↑x : Int).toNat DTT.d0).2.2.1 == (m.getD (↑x : Int).toNat DTT.d0).2.2.1 && ((l.getD (↑x : Int).toNat DTT.d0).2.2.2.1 == (m.getD (↑x : Int).toNat DTT.d0).2.2.2.1 && ((l.getD (↑x :
 Int).toNat DTT.d0).2.2.2.2.1 == (m.getD (↑x : Int).toNat DTT.d0).2.2.2.2.1 && (l.getD (↑x : Int).toNat DTT.d0).2.2.2.2.2 == (m.getD (↑x : Int).toNat DTT.d0).2.2.2.2.2)))))) = true → false = sameD l m) ∧ ((!((l.getD (↑x : Int).toNat
 DTT.d0).1 == (m.getD (↑x : Int).toNat DTT.d0).1 && ((l.getD (↑x : Int).toNat DTT.d0).2.1 == (m.getD (↑x : Int).toNat DTT.d0).2.1 && ((l.getD (↑x : Int).toNat DTT.d0).2.2.1 == (m.getD (↑x : Int).toNat DTT.d0).2.2.1 && ((l.getD (↑x :
 Int).toNat DTT.d0).2.2.2.1 == (m.getD (↑x : Int).toNat DTT.d0).2.2.2.1 && ((l.getD (↑x : Int).toNat DTT.d0).2.2.2.2.1 == (m.getD (↑x : Int).toNat DTT.d0).2.2.2.2.1 && (l.getD (↑x : Int).toNat DTT.d0).2.2.2.2.2 == (m.getD (↑x : Int).toNat
 DTT.d0).2.2.2.2.2)))))) = false → InI64 ((↑x : Int) + (1 : Int)) ∧ ∃ (x' : Nat), (x' ≤ l.length ∧ List.take x' l = List.take x' m) ∧ l.length - x' < l.length - x ∧ (↑x : Int) + (1 : Int) = (↑x' : Int) ∧ ((↑l.length : Int) != (↑m.length :
 Int)) = ((↑l.length : Int) != (↑m.length : Int)) ∧ l = l ∧ m = m)) ∧ (decide ((↑x : Int) < (↑l.length : Int)) = false → true = sameD l m))
abbrev E_rFew_1 (ws : List Wk) (x : Nat) :=
 ((ws.getD (↑x : Int).toNat WTT.d0).2.1.1, (ws.getD (↑x : Int).toNat WTT.d0).2.1.2.1, (ws.getD (↑x : Int).toNat WTT.d0).2.1.2.2.1, ((ws.getD (↑x : Int).toNat WTT.d0).2.1.2.2.2.1.1, (ws.getD (↑x : Int).toNat WTT.d0).2.1.2.2.2.1.2.1,
 (ws.getD (↑x : Int).toNat WTT.d0).2.1.2.2.2.1.2.2), (ws.getD (↑x : Int).toNat WTT.d0).2.1.2.2.2.2)
def P_rFew (ws : List Wk) (ds : List De) : Prop :=
 (∃ (x : Nat), (x ≤ ws.length ∧ x ≤ (7 : Nat) ∧ ∀ (i : Nat), i < x → fewW (ws.getD i wk0) = true) ∧ (0 : Int) = (↑x : Int)) ∧ ∀ (x : Nat), (x ≤ ws.length ∧ x ≤ (7 : Nat) ∧ ∀ (i : Nat), i < x → fewW (ws.getD i wk0) = true) → (↑ws.length :
 Int) ≤ (9223372036854775807 : Int) → ((decide ((↑x : Int) < (↑ws.length : Int)) && decide ((↑x : Int) ≤ (6 : Int))) = true → (0 : Int) ≤ (↑x : Int) ∧ (↑x : Int) < (↑ws.length : Int) ∧ ((!fewF (E_rFew_1 ws x)) = false → (0 : Int) ≤ (↑x :
 Int) ∧ (↑x : Int) < (↑ws.length : Int)) ∧ (((!fewF (E_rFew_1 ws x)) = false → (↑(List.length (ws.getD (↑x : Int).toNat WTT.d0).1.2.1) : Int) ≤ (9223372036854775807 : Int)) → ((!fewF (E_rFew_1 ws x) || decide ((↑(List.length (ws.getD (↑x :
 Int).toNat WTT.d0).1.2.1) : Int) > (60 : Int))) = true → false = fewD ws ds) ∧ ((!fewF (E_rFew_1 ws x) || decide ((↑(List.length (ws.getD (↑x : Int).toNat WTT.d0).1.2.1) : Int) > (60 : Int))) = false → InI64 ((↑x : Int) + (1 : Int)) ∧ ∃
 (x' : Nat), (x' ≤ ws.length ∧ x' ≤ (7 : Nat) ∧ ∀ (i : Nat), i < x' → fewW (ws.getD i wk0) = true) ∧ ws.length - x' < ws.length - x ∧ (↑x : Int) + (1 : Int) = (↑x' : Int) ∧ ws = ws ∧ ds = ds))) ∧ ((decide ((↑x : Int) < (↑ws.length : Int))
 && decide ((↑x : Int) ≤ (6 : Int))) = false → (↑ws.length : Int) ≤ (9223372036854775807 : Int) → (decide ((↑ws.length : Int) ≤ (6 : Int)) = true → (↑ds.length : Int) ≤ (9223372036854775807 : Int)) → (decide ((↑ws.length : Int) ≤ (6 :
 Int)) && decide ((↑ds.length : Int) ≤ (30 : Int))) = fewD ws ds)
def P_rPushD (ws : List Wk) (ds : List De) (x1 x2 x3 x4 x5 x6 : Int) : Prop :=
 (↑ds.length : Int) ≤ (9223372036854775807 : Int) → ((!validD ws ds || decide (x3 < (1 : Int)) || decide (x3 > (5 : Int))) = false → InI64 ((↑ds.length : Int) + (1 : Int))) ∧ ((!validD ws ds || decide (x3 < (1 : Int)) || decide (x3 > (5 :
 Int)) || x1 != (↑ds.length : Int) + (1 : Int) || !isTimeB x2) = true → [] = (pushS ws ds (x1, x2, x3, x4, x5, x6)).1 ∧ (1 : Int) = (pushS ws ds (x1, x2, x3, x4, x5, x6)).2) ∧ ((!validD ws ds || decide (x3 < (1 : Int)) || decide (x3 > (5 :
 Int)) || x1 != (↑ds.length : Int) + (1 : Int) || !isTimeB x2) = false → (decide ((↑ds.length : Int) > (0 : Int)) = true → InI64 ((↑ds.length : Int) - (1 : Int))) ∧ (decide ((↑ds.length : Int) > (0 : Int)) = true → (0 : Int) ≤ (↑ds.length
 : Int) - (1 : Int) ∧ (↑ds.length : Int) - (1 : Int) < (↑ds.length : Int)) ∧ ((decide ((↑ds.length : Int) > (0 : Int)) && decide (x2 < (ds.getD ((↑ds.length : Int) - (1 : Int)).toNat DTT.d0).2.1)) = true → [] = (pushS ws ds (x1, x2, x3,
 x4, x5, x6)).1 ∧ (6 : Int) = (pushS ws ds (x1, x2, x3, x4, x5, x6)).2) ∧ ((decide ((↑ds.length : Int) > (0 : Int)) && decide (x2 < (ds.getD ((↑ds.length : Int) - (1 : Int)).toNat DTT.d0).2.1)) = false → (((↑ds.length : Int) == (1000 :
 Int)) = true → [] = (pushS ws ds (x1, x2, x3, x4, x5, x6)).1 ∧ (2 : Int) = (pushS ws ds (x1, x2, x3, x4, x5, x6)).2) ∧ (((↑ds.length : Int) == (1000 : Int)) = false → (0 : Nat) = (0 : Nat) ∧ ((0 : Nat) + ds.length) * (48 : Nat) ≤
 (140737488355328 : Nat) ∧ ([] ++ ds).length = (0 : Nat) + ds.length ∧ ((0 : Nat) + ds.length + ((0 : Nat) + (1 : Nat))) * (48 : Nat) ≤ (140737488355328 : Nat) ∧ worksB ws = true ∧ ((runE ws (firstR ws) ([] ++ ds ++ [(x1, x2, x3, x4, x5,
 x6)]) != (0 : Int)) = true → [] = (pushS ws ds (x1, x2, x3, x4, x5, x6)).1 ∧ runE ws (firstR ws) ([] ++ ds ++ [(x1, x2, x3, x4, x5, x6)]) = (pushS ws ds (x1, x2, x3, x4, x5, x6)).2) ∧ ((runE ws (firstR ws) ([] ++ ds ++ [(x1, x2, x3, x4,
 x5, x6)]) != (0 : Int)) = false → [] ++ ds ++ [(x1, x2, x3, x4, x5, x6)] = (pushS ws ds (x1, x2, x3, x4, x5, x6)).1 ∧ (0 : Int) = (pushS ws ds (x1, x2, x3, x4, x5, x6)).2))))
abbrev E_rAtD_1 (ws : List Wk) (ds : List De) (x : Nat) :=
 (runS ws (firstR ws) (List.drop (Int.toNat (0 : Int)) (List.take (↑x : Int).toNat ds)))
def P_rAtD (ws : List Wk) (ds : List De) (kn tm : Int) : Prop :=
 ((!validD ws ds || decide (kn < (0 : Int))) = false → (↑ds.length : Int) ≤ (9223372036854775807 : Int)) → ((!validD ws ds || decide (kn < (0 : Int)) || decide (kn > (↑ds.length : Int)) || !isTimeB tm) = true → (0 : Int) = (atD ws ds kn
 tm).1.1 ∧ (0 : Int) = (atD ws ds kn tm).1.2.1.1 ∧ [] = (atD ws ds kn tm).1.2.1.2.1 ∧ [] = (atD ws ds kn tm).1.2.1.2.2.1 ∧ (0 : Int) = (atD ws ds kn tm).1.2.1.2.2.2.1.1 ∧ (0 : Int) = (atD ws ds kn tm).1.2.1.2.2.2.1.2.1 ∧ (0 : Int) = (atD
 ws ds kn tm).1.2.1.2.2.2.1.2.2 ∧ [] = (atD ws ds kn tm).1.2.1.2.2.2.2 ∧ [] = (atD ws ds kn tm).1.2.2 ∧ (1 : Int) = (atD ws ds kn tm).2) ∧ ((!validD ws ds || decide (kn < (0 : Int)) || decide (kn > (↑ds.length : Int)) || !isTimeB tm) =
 false → (∃ (x : Nat), (x ≤ ds.length ∧ (↑x : Int) ≤ kn ∧ ∀ (i : Nat), i < x → inTime kn tm (ds.getD i de0) = true) ∧ (0 : Int) = (↑x : Int)) ∧ ∀ (x : Nat), (x ≤ ds.length ∧ (↑x : Int) ≤ kn ∧ ∀ (i : Nat), i < x → inTime kn tm (ds.getD i
 de0) = true) → (decide ((↑x : Int) < kn) = true → (0 : Int) ≤ (↑x : Int) ∧ (↑x : Int) < (↑ds.length : Int)) ∧ ((decide ((↑x : Int) < kn) && decide ((ds.getD (↑x : Int).toNat DTT.d0).2.1 ≤ tm)) = true → InI64 ((↑x : Int) + (1 : Int)) ∧ ∃
 (x' : Nat), (x' ≤ ds.length ∧ (↑x' : Int) ≤ kn ∧ ∀ (i : Nat), i < x' → inTime kn tm (ds.getD i de0) = true) ∧ ds.length - x' < ds.length - x ∧ (↑x : Int) + (1 : Int) = (↑x' : Int) ∧ (!validD ws ds || decide (kn < (0 : Int)) || decide (kn
 > (↑ds.length : Int)) || !isTimeB tm) = (!validD ws ds || decide (kn < (0 : Int)) || decide (kn > (↑ds.length : Int)) || !isTimeB tm) ∧ (0 : Int) = (0 : Int) ∧ ws = ws ∧ ds = ds ∧ kn = kn ∧ tm = tm ∧ (0 : Int) = (0 : Int) ∧ (0 : Int) = (0
 : Int) ∧ nl PUnit = nl PUnit ∧ nl PUnit = nl PUnit ∧ (0 : Int) = (0 : Int) ∧ (0 : Int) = (0 : Int) ∧ (0 : Int) = (0 : Int) ∧ nl PUnit = nl PUnit ∧ nl PUnit = nl PUnit) ∧ ((decide ((↑x : Int) < kn) && decide ((ds.getD (↑x : Int).toNat
 DTT.d0).2.1 ≤ tm)) = false → (0 : Int) ≤ (0 : Int) ∧ (0 : Int) ≤ (↑x : Int) ∧ (↑x : Int) ≤ (↑ds.length : Int) ∧ worksB ws = true ∧ (E_rAtD_1 ws ds x).1.1 = (atD ws ds kn tm).1.1 ∧ (E_rAtD_1 ws ds x).1.2.1.1 = (atD ws ds kn tm).1.2.1.1 ∧
 (E_rAtD_1 ws ds x).1.2.1.2.1 = (atD ws ds kn tm).1.2.1.2.1 ∧ (E_rAtD_1 ws ds x).1.2.1.2.2.1 = (atD ws ds kn tm).1.2.1.2.2.1 ∧ (E_rAtD_1 ws ds x).1.2.1.2.2.2.1.1 = (atD ws ds kn tm).1.2.1.2.2.2.1.1 ∧ (E_rAtD_1 ws ds x).1.2.1.2.2.2.1.2.1 =
 (atD ws ds kn tm).1.2.1.2.2.2.1.2.1 ∧ (E_rAtD_1 ws ds x).1.2.1.2.2.2.1.2.2 = (atD ws ds kn tm).1.2.1.2.2.2.1.2.2 ∧ (E_rAtD_1 ws ds x).1.2.1.2.2.2.2 = (atD ws ds kn tm).1.2.1.2.2.2.2 ∧ (E_rAtD_1 ws ds x).1.2.2 = (atD ws ds kn tm).1.2.2 ∧
 runE ws (firstR ws) (List.drop (Int.toNat (0 : Int)) (List.take (↑x : Int).toNat ds)) = (atD ws ds kn tm).2))
end Go.Proofs.Ytcklbglladijlaa
