/- The law on Make: its function returns true. -/
import Derived.Test.YtommmlhllifonaaW4
import Derived.Test.YtommmlhllifonaaRq
namespace Go.Proofs.Ytommmlhllifonaa
open Go.Sy Go.RatLaw

abbrev I32 (n : Int) : TV := .one (.d (.lit (.int .i32 n)))
abbrev I16 (n : Int) : TV := .one (.d (.lit (.int .i16 n)))
abbrev in32 (n : Int) : Prop := -2147483648 ≤ n ∧ n ≤ 2147483647
abbrev in16 (n : Int) : Prop := -32768 ≤ n ∧ n ≤ 32767
def cMakes : PCon
  | [.one (.d (.lit (.int .i32 n))), .one (.d (.lit (.int .i32 d))), .one (.d (.lit (.int .i16 e))), .agg [.d (.lit (.int .i64 _)), .d (.lit (.int .i64 _))]] => some ([in32 n, in32 d, in16 e], .t (B true))
  | _ => none
abbrev eq2 (m m' : Int × Int × Int) : Bool := m.1 == m'.1 && m.2.1 == m'.2.1
def Q3 (t : Bool) (n d e : Int) : Prop :=
  ((d == 0 || e == 0) = true → t = true) ∧ ((d == 0 || e == 0) = false → InI64 n ∧ InI64 d ∧ InI64 n ∧ InI64 e ∧ InI64 (n * e) ∧ InI64 d ∧ InI64 e ∧ InI64 (d * e) ∧
    (((make n d).2.2 != (make (n * e) (d * e)).2.2 || !eq2 (make n d) (make (n * e) (d * e))) = true → false = true) ∧
    (((make n d).2.2 != (make (n * e) (d * e)).2.2 || !eq2 (make n d) (make (n * e) (d * e))) = false →
      (((make n d).2.2 != 0) = true → (t && (make n d).2.2 == 3) = true) ∧
      (((make n d).2.2 != 0) = false → ((t && vld (make n d).1 (make n d).2.1) = true → InI64 d) ∧ ((t && vld (make n d).1 (make n d).2.1) = true → InI64 ((make n d).1 * d)) ∧
        ((t && vld (make n d).1 (make n d).2.1) = true → InI64 n) ∧ ((t && vld (make n d).1 (make n d).2.1) = true → InI64 ((make n d).2.1 * n)) ∧
        (t && vld (make n d).1 (make n d).2.1 && (make n d).1 * d == (make n d).2.1 * n) = true)))
def P3 (n d e a b : Int) : Prop := (vld a b = true → Q3 (true && (make a b).2.2 == 0 && (a == (make a b).1 && b == (make a b).2.1)) n d e) ∧ (vld a b = false → Q3 true n d e)
theorem far_no {k : Int} (h : -1000000000000000 ≤ k ∧ k ≤ 1000000000000000) : far k = false := by
  unfold far
  rw [Bool.or_eq_false_iff, decide_eq_false_iff_not, decide_eq_false_iff_not]
  omega
theorem make_mk {n d : Int} (h : d ≠ 0) (hn : -1000000000000000 ≤ n ∧ n ≤ 1000000000000000) (hd : -1000000000000000 ≤ d ∧ d ≤ 1000000000000000) : make n d = mk n d := by
  unfold make
  rw [if_neg]
  rw [far_no hn, far_no hd]
  simp [h]
theorem q3 {n d e : Int} (hn : in32 n) (hd : in32 d) (he : in16 e) : Q3 true n d e := by
  refine ⟨fun _ => rfl, fun h => ?_⟩
  have h : d ≠ 0 ∧ e ≠ 0 := by simpa using h
  have b1 := mulb (x := n) (y := e) (A := 2147483648) (B := 32768) (by omega) (by omega)
  have b2 := mulb (x := d) (y := e) (A := 2147483648) (B := 32768) (by omega) (by omega)
  have e1 : make n d = mk n d := make_mk h.1 (by omega) (by omega)
  have e2 : make (n * e) (d * e) = mk n d := by
    rw [make_mk (Int.mul_ne_zero h.1 h.2) (by omega) (by omega)]
    exact mk_congr (Int.mul_ne_zero h.1 h.2) h.1 (by grind)
  unfold InI64
  refine ⟨by omega, by omega, by omega, by omega, by omega, by omega, by omega, by omega, ?_⟩
  rw [e1, e2]
  refine ⟨fun h => by simp at h, fun _ => ?_⟩
  rcases mk_cases n d h.1 with h1 | ⟨p, q, h1, v, hpq⟩
  · rw [h1]; simp
  · rw [h1]
    have hb := vld_bd v
    have b3 := mulb (x := p) (y := d) (A := 1000000000) (B := 2147483648) (by omega) (by omega)
    refine ⟨fun h => by simp at h, fun _ => ⟨fun _ => by omega, fun _ => ?_, fun _ => by omega, fun _ => ?_, ?_⟩⟩
    · show -9223372036854775808 ≤ p * d ∧ p * d ≤ 9223372036854775807
      omega
    · show -9223372036854775808 ≤ q * n ∧ q * n ≤ 9223372036854775807
      omega
    · simp [v, hpq]
theorem p3 {n d e : Int} (a b : Int) (hn : in32 n) (hd : in32 d) (he : in16 e) : P3 n d e a b := by
  refine ⟨fun v => ?_, fun _ => q3 hn hd he⟩
  have hb := vld_iff.1 v
  rw [make_mk (by omega) (by omega) (by omega), mk_vld v]
  simpa using q3 hn hd he
theorem ok3 : FnOk Try.prog 3 (CE.pu cMakes).con := fnPu T6 cMakes L_ok T6_ok mixed Try.func3 (by kernel_rfl) (by kernel_rfl) fun args cs r h hcs => by
  unfold cMakes at h
  split at h
  · rename_i n d e a b
    injection h with h; injection h with h1 h2; subst h1 h2
    have h1 : in32 n := hcs _ (by simp)
    have h2 : in32 d := hcs (in32 d) (by simp)
    have h3 : in16 e := hcs (in16 e) (by simp)
    exact ⟨[0, 1, 2, 3, 7, 8, 9, 10, 11, 12, 13, 14, 15, 18, 42, 73, 75], fun _ => none, rfl, rfl, rfl, castH (p := P3 n d e a b) (by kernel_rfl) (p3 a b h1 h2 h3)⟩
  · cases h
end Go.Proofs.Ytommmlhllifonaa
