/- The law on durations: its function returns true. -/
import Derived.Test.YtommmlhllifonaaW8
import Derived.Test.YtommmlhllifonaaRt
namespace Go.Proofs.Ytommmlhllifonaa
open Go.Sy Go.RatLaw

def cDurations : PCon
  | [.one (.d (.sl (.tp (.ti .i64) (.ti .i64)) _))] => some ([], .t (B true))
  | _ => none
abbrev T7 : Tab := (18, .pu cDur) :: T6
theorem T7_ok : TOk Try.prog T7 := ⟨ok18, T6_ok⟩
abbrev invD (l : List (Int × Int)) (x : Nat) : Prop := x ≤ l.length ∧ ∀ y ∈ l.take x, dur y.1 y.2 = true
def annD (l : List (Int × Int)) : Ann :=
  { X := Nat, inv := invD l, m := fun x => l.length - x
    s := fun x => [(19, .t (I x)), (4, .t (I (ticks (l.take x)))), (5, .t (.one (.own (rm 5) (.sl Qt (l.reverse.take x)))))]
    h := fun x => [(rm 5, .gr 24 2 (l.reverse.take x).length)] }
abbrev lastB (l : List (Int × Int)) (x : Nat) : Bool := true && (sumR l).2.2 == 0 && (sumR (l.reverse.take x)).2.2 == 0 && ((sumR l).1 == (sumR (l.reverse.take x)).1 && (sumR l).2.1 == (sumR (l.reverse.take x)).2.1) && durB (sumR l).1 (sumR l).2.1
def P6 (l : List (Int × Int)) : Prop :=
  (l.length : Int) ≤ 9223372036854775807 → (decide ((l.length : Int) > 40) = true → true = true) ∧ (decide ((l.length : Int) > 40) = false → (l.length : Int) ≤ 9223372036854775807 →
    (∃ x : Nat, invD l x ∧ 0 = (x : Int) ∧ 0 = ticks (l.take x) ∧ [] = l.reverse.take x ∧ 0 = (l.reverse.take x).length) ∧
    ∀ x : Nat, invD l x →
      (decide ((x : Int) < l.length) = true → 0 ≤ (x : Int) ∧ (x : Int) < l.length ∧ ((!durB (l.getD ((x : Int)).toNat (0, 0)).1 (l.getD ((x : Int)).toNat (0, 0)).2) = true → true = true) ∧
        ((!durB (l.getD ((x : Int)).toNat (0, 0)).1 (l.getD ((x : Int)).toNat (0, 0)).2) = false →
          (l.getD ((x : Int)).toNat (0, 0)).2 ≠ 0 ∧ InI64 ((1680 : Int).tdiv (l.getD ((x : Int)).toNat (0, 0)).2) ∧ InI64 ((l.getD ((x : Int)).toNat (0, 0)).1 * (1680 : Int).tdiv (l.getD ((x : Int)).toNat (0, 0)).2) ∧
          InI64 (ticks (l.take x) + (l.getD ((x : Int)).toNat (0, 0)).1 * (1680 : Int).tdiv (l.getD ((x : Int)).toNat (0, 0)).2) ∧ ((l.length : Int) ≤ 9223372036854775807 → InI64 ((l.length : Int) - 1) ∧ InI64 ((l.length : Int) - 1 - x) ∧ 0 ≤ (l.length : Int) - 1 - x ∧ (l.length : Int) - 1 - x < l.length ∧
            (l.reverse.take x).length = (l.reverse.take x).length ∧ ((l.reverse.take x).length + (0 + 1)) * 16 ≤ 140737488355328 ∧ InI64 ((x : Int) + 1) ∧
            ∃ y : Nat, invD l y ∧ l.length - y < l.length - x ∧ (x : Int) + 1 = (y : Int) ∧ ticks (l.take x) + (l.getD ((x : Int)).toNat (0, 0)).1 * (1680 : Int).tdiv (l.getD ((x : Int)).toNat (0, 0)).2 = ticks (l.take y) ∧
              l.reverse.take x ++ [((l.getD ((l.length : Int) - 1 - x).toNat (0, 0)).1, (l.getD ((l.length : Int) - 1 - x).toNat (0, 0)).2)] = l.reverse.take y ∧ (l.length : Int) = l.length ∧ l = l ∧
              decide ((l.length : Int) > 40) = decide ((l.length : Int) > 40) ∧ true = true ∧ l = l ∧ (l.reverse.take x).length + (0 + 1) = (l.reverse.take y).length))) ∧
      (decide ((x : Int) < l.length) = false → (decide (ticks (l.take x) > 806400000) = true → true = true) ∧ (decide (ticks (l.take x) > 806400000) = false →
        (lastB l x = true → (sumR l).2.1 ≠ 0 ∧ InI64 ((1680 : Int).tdiv (sumR l).2.1)) ∧ (lastB l x = true → InI64 ((sumR l).1 * (1680 : Int).tdiv (sumR l).2.1)) ∧
        (lastB l x && (sumR l).1 * (1680 : Int).tdiv (sumR l).2.1 == ticks (l.take x)) = true)))

theorem tk_le {n d : Int} (h : dur n d = true) : tk n d ≤ 1680000000000 := by
  obtain ⟨v, hn, hd, e, e2, t0⟩ := dur_spec h
  have hle := vld_bd v
  have h1 : (1680 : Int).tdiv d ≤ 1680 := Int.le_of_dvd (by decide) ⟨d, by rw [Int.mul_comm]; exact e.symm⟩
  have h0 : 0 ≤ (1680 : Int).tdiv d := Int.tdiv_nonneg (by decide) (by omega)
  unfold tk
  have := Int.mul_le_mul (show n ≤ 1000000000 by omega) h1 h0 (by decide)
  omega
theorem ticks_le : ∀ {l : List (Int × Int)}, (∀ x ∈ l, dur x.1 x.2 = true) → ticks l ≤ l.length * 1680000000000
  | [], _ => by simp [ticks]
  | x :: r, h => by
    have h1 := tk_le (h x (by simp))
    have h2 := ticks_le (l := r) fun y hy => h y (by simp [hy])
    rw [ticks_cons, List.length_cons]
    omega
theorem take_at {l : List (Int × Int)} {i : Nat} (h : i < l.length) : l.take (i + 1) = l.take i ++ [l.getD ((i : Int)).toNat (0, 0)] := at_take h
theorem p6 (l : List (Int × Int)) : P6 l := by
  intro _
  refine ⟨fun _ => rfl, fun hn _ => ⟨⟨0, ⟨Nat.zero_le _, by simp⟩, rfl, by simp [ticks], by simp, by simp⟩, fun x ⟨hx, hinv⟩ => ⟨fun hlt => ?_, fun hge => ⟨fun _ => rfl, fun ht => ?_⟩⟩⟩⟩
  · have hlt' : x < l.length := by have := of_decide_eq_true hlt; omega
    have hn' : l.length ≤ 40 := by have := of_decide_eq_false hn; omega
    refine ⟨by omega, by omega, fun _ => rfl, fun hd => ?_⟩
    have hd' : dur (l.getD ((x : Int)).toNat (0, 0)).1 (l.getD ((x : Int)).toNat (0, 0)).2 = true := by
      have : durB (l.getD ((x : Int)).toNat (0, 0)).1 (l.getD ((x : Int)).toNat (0, 0)).2 = true := by simpa using hd
      exact this
    obtain ⟨v, hn0, hd0, e, e2, t0⟩ := dur_spec hd'
    have ht1 := tk_le hd'
    have ht2 := ticks_le hinv
    have ht3 := ticks_nonneg hinv
    have hlen : (l.take x).length = x := by simp; omega
    rw [hlen] at ht2
    have htk : (l.getD ((x : Int)).toNat (0, 0)).1 * (1680 : Int).tdiv (l.getD ((x : Int)).toNat (0, 0)).2 = tk (l.getD ((x : Int)).toNat (0, 0)).1 (l.getD ((x : Int)).toNat (0, 0)).2 := rfl
    have h1 : (1680 : Int).tdiv (l.getD ((x : Int)).toNat (0, 0)).2 ≤ 1680 := Int.le_of_dvd (by decide) ⟨_, by rw [Int.mul_comm]; exact e.symm⟩
    have h0 : 0 ≤ (1680 : Int).tdiv (l.getD ((x : Int)).toNat (0, 0)).2 := Int.tdiv_nonneg (by decide) (by omega)
    rw [htk]
    have htake : l.take (x + 1) = l.take x ++ [l.getD ((x : Int)).toNat (0, 0)] := take_at hlt'
    have hrlen : (l.reverse.take x).length = x := by simp; omega
    refine ⟨by omega, by unfold InI64; omega, by unfold InI64; omega, by unfold InI64; omega, fun _ => ⟨by unfold InI64; omega, by unfold InI64; omega, by omega, by omega, rfl, by rw [hrlen]; omega, by unfold InI64; omega,
      x + 1, ⟨hlt', fun y hy => ?_⟩, by omega, by omega, ?_, ?_, rfl, rfl, rfl, rfl, rfl, ?_⟩⟩
    · rw [htake] at hy
      rcases List.mem_append.1 hy with hy | hy
      · exact hinv y hy
      · rw [List.mem_singleton.1 hy]; exact hd'
    · rw [htake, ticks_append]
      simp [ticks]
    · have hr : x < l.reverse.length := by simpa using hlt'
      rw [List.take_succ_eq_append_getElem hr]
      congr 1
      rw [List.getElem_reverse]
      have e3 : ((l.length : Int) - 1 - x).toNat = l.length - 1 - x := by omega
      rw [e3, List.getD_eq_getElem?_getD, List.getElem?_eq_getElem (by omega)]
      rfl
    · simp; omega
  · have hge' : x = l.length := by have := of_decide_eq_false hge; omega
    have hn' : l.length ≤ 40 := by have := of_decide_eq_false hn; omega
    subst hge'
    rw [List.take_length] at hinv ht
    have htl : ticks l ≤ 806400000 := by have := of_decide_eq_false ht; omega
    have hrt : l.reverse.take l.length = l.reverse := by rw [List.take_of_length_le (by simp)]
    have s1 := sum_dur hinv (by omega) htl
    have s2 := sum_dur (l := l.reverse) (fun x hx => hinv x (by simpa using hx)) (by simp; omega) (by rw [ticks_reverse]; exact htl)
    rw [ticks_reverse] at s2
    obtain ⟨d1, d2, _⟩ := ofT_spec (ticks_nonneg hinv) htl
    have hd1 : durB (ofT (ticks l)).1 (ofT (ticks l)).2 = true := d1
    obtain ⟨v, hn0, hd0, e, e2, t0⟩ := dur_spec d1
    have h1 : (1680 : Int).tdiv (ofT (ticks l)).2 ≤ 1680 := Int.le_of_dvd (by decide) ⟨_, by rw [Int.mul_comm]; exact e.symm⟩
    have h0 : 0 ≤ (1680 : Int).tdiv (ofT (ticks l)).2 := Int.tdiv_nonneg (by decide) (by omega)
    have hk : (ofT (ticks l)).1 * (1680 : Int).tdiv (ofT (ticks l)).2 = ticks l := d2
    unfold lastB
    rw [hrt, s1, s2, List.take_length]
    simp only [hk, hd1]
    have := ticks_nonneg hinv
    refine ⟨fun _ => ⟨by omega, by unfold InI64; omega⟩, fun _ => by unfold InI64; omega, by simp⟩
theorem ok6 : FnOk Try.prog 6 (CE.pu cDurations).con := fnPu T7 cDurations L_ok T7_ok mixed Try.func6 (by kernel_rfl) (by kernel_rfl) fun args cs r h hcs => by
  unfold cDurations at h
  split at h
  · rename_i l
    injection h with h; injection h with h1 h2; subst h1 h2
    exact ⟨[0, 2, 3, 4, 5, 6, 7, 8, 9, 10, 11, 15, 17, 18, 19, 20, 26, 49], fun _ => some (annD l), rfl, rfl, rfl, castH (p := P6 l) (by kernel_rfl) (p6 l)⟩
  · cases h
end Go.Proofs.Ytommmlhllifonaa
