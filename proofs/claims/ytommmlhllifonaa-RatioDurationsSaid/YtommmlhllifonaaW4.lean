/- The examples at the head of each law, and the laws on floors and on Make: their functions return true. -/
import Derived.Test.YtommmlhllifonaaW3
namespace Go.Proofs.Ytommmlhllifonaa
open Go.Sy Go.RatLaw

def cHead : PCon
  | [] => some ([], .t (B true))
  | _ => none
def headB : Bool := ((make 6 (-4)).2.2 == 0 && (addR 1 2 1 3).2.2 == 0 && (divR 1 2 (-3) 4).2.2 == 0 && (mulR 1 1000000 1 2).2.2 == 3 && (sumR [(1, 2), (1, 3), (1, 6)]).2.2 == 0 && (floorR (-5) 2).2 == 0 && (divR 1 2 0 1).2.2 == 1 &&
  ((make 6 (-4)).1 == -3 && (make 6 (-4)).2.1 == 2) && ((addR 1 2 1 3).1 == 5 && (addR 1 2 1 3).2.1 == 6) && ((divR 1 2 (-3) 4).1 == -2 && (divR 1 2 (-3) 4).2.1 == 3) &&
  ((sumR [(1, 2), (1, 3), (1, 6)]).1 == 1 && (sumR [(1, 2), (1, 3), (1, 6)]).2.1 == 1) && (floorR (-5) 2).1 == -3 && vld (make 6 (-4)).1 (make 6 (-4)).2.1 && !vld 2 4 && !vld 0 0)
theorem headB_true : headB = true := by kernel_rfl
theorem e10 : (vcPu L T5 Try.f10 [0, 1, 2, 3, 4, 5, 6, 8, 9, 10, 11, 12, 14, 15] (fun _ => none) [] (.t (B true))).holds = (headB = true) := by kernel_rfl
theorem ok10 : FnOk Try.prog 10 (CE.pu cHead).con := fnPu T5 cHead L_ok T5_ok mixed Try.func10 (by kernel_rfl) (by kernel_rfl) fun args cs r h hcs => by
  unfold cHead at h
  split at h
  · injection h with h; injection h with h1 h2; subst h1 h2
    refine ⟨[0, 1, 2, 3, 4, 5, 6, 8, 9, 10, 11, 12, 14, 15], fun _ => none, rfl, rfl, rfl, ?_⟩
    rw [e10]
    exact headB_true
  · cases h
abbrev T6 : Tab := (10, .pu cHead) :: T5
theorem T6_ok : TOk Try.prog T6 := ⟨ok10, T5_ok⟩

def cFloors : PCon
  | [.agg [.d (.lit (.int .i64 _)), .d (.lit (.int .i64 _))]] => some ([], .t (B true))
  | _ => none
def P5 (a b : Int) : Prop := (((floorR a b).2 != 0) = true → (true && (floorR a b).2 == 1 && !vld a b && (floorR a b).1 == 0) = true) ∧
  (((floorR a b).2 != 0) = false → InI64 ((floorR a b).1 * b) ∧ InI64 (a - (floorR a b).1 * b) ∧ (true && decide (a - (floorR a b).1 * b ≥ 0) && decide (a - (floorR a b).1 * b < b)) = true)
theorem p5 (a b : Int) : P5 a b := by
  unfold P5 floorR
  cases hv : vld a b
  · simp
  · have hb := vld_bd hv
    have h1 := Int.mul_ediv_add_emod a b
    have h2 := Int.emod_nonneg a hb.2.2.1
    have h3 := Int.emod_lt_of_pos a hb.2.2.2
    rw [Int.mul_comm] at h1
    simp only [if_true]
    refine ⟨fun h => by simp at h, fun _ => ⟨by unfold InI64; omega, by unfold InI64; omega, ?_⟩⟩
    simp only [Bool.true_and, Bool.and_eq_true, decide_eq_true_eq]
    omega
theorem ok5 : FnOk Try.prog 5 (CE.pu cFloors).con := fnPu T6 cFloors L_ok T6_ok mixed Try.func5 (by kernel_rfl) (by kernel_rfl) fun args cs r h hcs => by
  unfold cFloors at h
  split at h
  · rename_i a b
    injection h with h; injection h with h1 h2; subst h1 h2
    exact ⟨[0, 1, 2, 3, 4, 5, 6, 14], fun _ => none, rfl, rfl, rfl, castH (p := P5 a b) (by kernel_rfl) (p5 a b)⟩
  · cases h
end Go.Proofs.Ytommmlhllifonaa
