/- The reference's Sum meets its contract. -/
import Derived.Test.YtommmlhllifonaaW8
import Derived.Test.YtommmlhllifonaaW3
namespace Go.Proofs.Ytommmlhllifonaa
open Go.Sy Go.RatLaw

def P27b (l : List (Int × Int)) (x : Nat) : Prop :=
  (∃ y : Int × Int × Nat, invC l 0 1 y ∧ 0 = (y.2.2 : Int) ∧ 0 = y.1 ∧ 1 = y.2.1) ∧ ∀ y : Int × Int × Nat, invC l 0 1 y → (l.length : Int) ≤ 9223372036854775807 →
    (decide ((y.2.2 : Int) < l.length) = true → 0 ≤ (y.2.2 : Int) ∧ (y.2.2 : Int) < l.length ∧ (((step l y).2.2 != 0) = true → 0 = (sumR l).1 ∧ 0 = (sumR l).2.1 ∧ (step l y).2.2 = (sumR l).2.2) ∧
      (((step l y).2.2 != 0) = false → InI64 ((y.2.2 : Int) + 1) ∧ ∃ z : Int × Int × Nat, invC l 0 1 z ∧ l.length - z.2.2 < l.length - y.2.2 ∧ (y.2.2 : Int) + 1 = (z.2.2 : Int) ∧
        decide ((x : Int) < l.length) = decide ((x : Int) < l.length) ∧ (x : Int) = x ∧ decide ((l.length : Int) > 20000) = decide ((l.length : Int) > 20000) ∧ DQ l = DQ l ∧ (step l y).1 = z.1 ∧ (step l y).2.1 = z.2.1 ∧ (0 : Int) = 0 ∧ (0 : Int) = 0)) ∧
    (decide ((y.2.2 : Int) < l.length) = false → E3 y.1 y.2.1 0 (sumR l))
def P27 (l : List (Int × Int)) : Prop :=
  (l.length : Int) ≤ 9223372036854775807 → (decide ((l.length : Int) > 20000) = true → E3 0 0 2 (sumR l)) ∧ (decide ((l.length : Int) > 20000) = false →
    (∃ x : Nat, invV l x ∧ 0 = (x : Int)) ∧ ∀ x : Nat, invV l x → (l.length : Int) ≤ 9223372036854775807 → (decide ((x : Int) < l.length) = true → 0 ≤ (x : Int) ∧ (x : Int) < l.length ∧
      ((!vld (at_ l x).1 (at_ l x).2) = true → E3 0 0 1 (sumR l)) ∧ ((!vld (at_ l x).1 (at_ l x).2) = false → InI64 ((x : Int) + 1) ∧ ∃ y : Nat, invV l y ∧ l.length - y < l.length - x ∧ (x : Int) + 1 = (y : Int) ∧
        decide ((l.length : Int) > 20000) = decide ((l.length : Int) > 20000) ∧ DQ l = DQ l ∧ (0 : Int) = 0 ∧ (0 : Int) = 0)) ∧
      (decide ((x : Int) < l.length) = false → P27b l x))
theorem p27b (l : List (Int × Int)) (x : Nat) (hl : (l.length : Int) ≤ 9223372036854775807) (hs : sumR l = carr addR (0, 1) l) : P27b l x := by
  obtain ⟨h1, h2⟩ := p39 l 0 1 hl
  refine ⟨h1, fun y hy _ => ?_⟩
  obtain ⟨g1, g2⟩ := h2 y hy
  rw [hs]
  refine ⟨fun h => ?_, g2⟩
  obtain ⟨k1, k2, k3, k4⟩ := g1 h
  refine ⟨k1, k2, k3, fun h => ?_⟩
  obtain ⟨m1, z, m2, m3, m4, _, _, _, _, _, _, m5, m6, _⟩ := k4 h
  exact ⟨m1, z, m2, m3, m4, rfl, rfl, rfl, rfl, m5, m6, rfl, rfl⟩
theorem p27 (l : List (Int × Int)) : P27 l := by
  intro hl
  obtain ⟨h1, h2⟩ := p19 l hl
  refine ⟨h1, fun hn => ?_⟩
  obtain ⟨g1, g2⟩ := h2 hn hl
  refine ⟨g1, fun x hx _ => ?_⟩
  obtain ⟨k1, k2⟩ := g2 x hx
  refine ⟨fun h => ?_, fun h => ?_⟩
  · obtain ⟨m1, m2, m3, m4⟩ := k1 h
    refine ⟨m1, m2, m3, fun h => ?_⟩
    obtain ⟨n1, y, n2, n3, n4, _⟩ := m4 h
    exact ⟨n1, y, n2, n3, n4, rfl, rfl, rfl, rfl⟩
  · obtain ⟨_, e1, e2, e3⟩ := k2 h
    exact p27b l x hl (Prod.ext e1.symm (Prod.ext e2.symm e3.symm))
theorem ok27 : FnOk Try.prog 27 (CE.pu cSum).con := fnPu ((23, .pu (cBin addR)) :: R1) cSum L_ok ⟨ok23, R1_ok⟩ mixed Try.func27 (by kernel_rfl) (by kernel_rfl) fun args cs r h hcs => by
  unfold cSum at h
  split at h
  · rename_i d0 sz l enc
    injection h with h; injection h with h1 h2; subst h1 h2
    obtain ⟨e1, e2, e3⟩ := hcs (isQL d0 sz enc) (by simp)
    subst e1 e2 e3
    exact ⟨[0, 2, 3, 4, 5, 6, 7, 8, 9, 12, 17, 26, 32, 45, 48], fun i => if i = 4 then some { X := Nat, inv := invV l, m := fun x => l.length - x, s := fun x => [(4, .t (I x))] } else
      some { X := Int × Int × Nat, inv := invC l 0 1, m := fun x => l.length - x.2.2, s := fun x => [(7, .t (I x.2.2))], h := fun x => [(6, .cells [li .i64 x.1, li .i64 x.2.1])] }, rfl, rfl, rfl, castH (p := P27 l) (by kernel_rfl) (p27 l)⟩
  · cases h
abbrev R5 : Tab := (10, .pu cHead) :: (30, .pu cFloor) :: (29, .pu cCmp) :: (27, .pu cSum) :: (26, .pu (cBin divR)) :: (25, .pu (cBin mulR)) :: (24, .pu (cBin subR)) :: (23, .pu (cBin addR)) :: (21, .pu cMake) :: (11, .pu cVld) :: T5
theorem R5_ok : TOk Try.prog R5 := ⟨ok10, ok30, ok29, ok27, ok26, ok25, ok24, ok23, ok21, ok11, T5_ok⟩
end Go.Proofs.Ytommmlhllifonaa
