/- The ratio package's functions meet their contracts, third part: a value carried through a list, and Sum. -/
import Derived.Test.YtommmlhllifonaaW2
namespace Go.Proofs.Ytommmlhllifonaa
open Go.Sy Go.RatLaw

abbrev at_ (l : List (Int × Int)) (i : Nat) : Int × Int := l.getD ((i : Int)).toNat (0, 0)
theorem at_drop {l : List (Int × Int)} {i : Nat} (h : i < l.length) : l.drop i = at_ l i :: l.drop (i + 1) := by
  rw [at_, Int.toNat_natCast, List.getD_eq_getElem?_getD, List.getElem?_eq_getElem h, List.drop_eq_getElem_cons h]
  rfl
theorem at_take {l : List (Int × Int)} {i : Nat} (h : i < l.length) : l.take (i + 1) = l.take i ++ [at_ l i] := by
  rw [at_, Int.toNat_natCast, List.getD_eq_getElem?_getD, List.getElem?_eq_getElem h, List.take_succ_eq_append_getElem h]
  rfl
abbrev DQ (l : List (Int × Int)) : DV := .sl Qt l
abbrev invC (l : List (Int × Int)) (a b : Int) (x : Int × Int × Nat) : Prop := x.2.2 ≤ l.length ∧ carr addR (x.1, x.2.1) (l.drop x.2.2) = carr addR (a, b) l
abbrev step (l : List (Int × Int)) (x : Int × Int × Nat) : Int × Int × Int := addR x.1 x.2.1 (at_ l x.2.2).1 (at_ l x.2.2).2
def P39 (l : List (Int × Int)) (a b : Int) : Prop :=
  (l.length : Int) ≤ 9223372036854775807 → (∃ x : Int × Int × Nat, invC l a b x ∧ 0 = (x.2.2 : Int) ∧ a = x.1 ∧ b = x.2.1) ∧
    ∀ x : Int × Int × Nat, invC l a b x → (decide ((x.2.2 : Int) < l.length) = true → 0 ≤ (x.2.2 : Int) ∧ (x.2.2 : Int) < l.length ∧
      (((step l x).2.2 != 0) = true → 0 = (carr addR (a, b) l).1 ∧ 0 = (carr addR (a, b) l).2.1 ∧ (step l x).2.2 = (carr addR (a, b) l).2.2) ∧
      (((step l x).2.2 != 0) = false → InI64 ((x.2.2 : Int) + 1) ∧ ∃ y : Int × Int × Nat, invC l a b y ∧ l.length - y.2.2 < l.length - x.2.2 ∧ (x.2.2 : Int) + 1 = (y.2.2 : Int) ∧ (l.length : Int) = l.length ∧
        l = l ∧ l = l ∧ a = a ∧ b = b ∧ LV.clo 16 [] [] = LV.clo 16 [] [] ∧ (step l x).1 = y.1 ∧ (step l x).2.1 = y.2.1 ∧ (0 : Int) = 0 ∧ (0 : Int) = 0)) ∧
      (decide ((x.2.2 : Int) < l.length) = false → E3 x.1 x.2.1 0 (carr addR (a, b) l))
theorem p39 (l : List (Int × Int)) (a b : Int) : P39 l a b := by
  intro hl
  refine ⟨⟨(a, b, 0), ⟨Nat.zero_le _, rfl⟩, rfl, rfl, rfl⟩, fun ⟨c, d, i⟩ ⟨hi, hinv⟩ => ?_⟩
  simp only at hi hinv
  refine ⟨fun hlt => ?_, fun hge => ?_⟩
  · have hlt' : i < l.length := by have := of_decide_eq_true hlt; simp only at this; omega
    have e : carr addR (c, d) (l.drop i) = if (step l (c, d, i)).2.2 = 0 then carr addR ((step l (c, d, i)).1, (step l (c, d, i)).2.1) (l.drop (i + 1)) else (0, 0, (step l (c, d, i)).2.2) := by
      conv => lhs; rw [at_drop hlt']
      rfl
    rw [e] at hinv
    refine ⟨by simp only; omega, by simp only; omega, fun hne => ?_, fun heq => ⟨by unfold InI64; simp only; omega, ((step l (c, d, i)).1, (step l (c, d, i)).2.1, i + 1), ⟨by simp only; omega, ?_⟩, by simp only; omega, by simp only; omega, rfl, rfl, rfl, rfl, rfl, rfl, rfl, rfl, rfl, rfl⟩⟩
    · rw [if_neg (by simpa using hne)] at hinv
      rw [← hinv]
      exact ⟨rfl, rfl, rfl⟩
    · rw [if_pos (by simpa using heq)] at hinv
      exact hinv
  · have hge' : i = l.length := by have := of_decide_eq_false hge; simp only at this; omega
    subst hge'
    rw [List.drop_length] at hinv
    exact E3.of hinv.symm
theorem ok39 : FnOk Try.prog 39 (CE.pu (cCarried 16 addR)).con := fnPu ((16, .pu (cBin addR)) :: []) (cCarried 16 addR) L_ok ⟨ok16, trivial⟩ mixed Try.func39 (by kernel_rfl) (by kernel_rfl) fun args cs r h hcs => by
  unfold cCarried at h
  split at h
  · rename_i l a b k'
    split at h
    · rename_i hk
      subst hk
      injection h with h; injection h with h1 h2; subst h1 h2
      exact ⟨[0, 1, 2, 4, 6, 7, 9, 10, 11, 12, 13, 14, 15, 16, 27, 30],
        fun _ => some { X := Int × Int × Nat, inv := invC l a b, m := fun x => l.length - x.2.2, s := fun x => [(15, .t (I x.2.2))], h := fun x => [(4, .cells [li .i64 x.1, li .i64 x.2.1])] }, rfl, rfl, rfl,
        castH (p := P39 l a b) (by kernel_rfl) (p39 l a b)⟩
    · cases h
  · cases h

abbrev invV (l : List (Int × Int)) (x : Nat) : Prop := x ≤ l.length ∧ (l.take x).all (fun y => vld y.1 y.2) = true
def P19 (l : List (Int × Int)) : Prop :=
  (l.length : Int) ≤ 9223372036854775807 → (decide ((l.length : Int) > 20000) = true → E3 0 0 2 (sumR l)) ∧ (decide ((l.length : Int) > 20000) = false → (l.length : Int) ≤ 9223372036854775807 →
    (∃ x : Nat, invV l x ∧ 0 = (x : Int)) ∧ ∀ x : Nat, invV l x → (decide ((x : Int) < l.length) = true → 0 ≤ (x : Int) ∧ (x : Int) < l.length ∧
      ((!vld (at_ l x).1 (at_ l x).2) = true → E3 0 0 1 (sumR l)) ∧ ((!vld (at_ l x).1 (at_ l x).2) = false → InI64 ((x : Int) + 1) ∧ ∃ y : Nat, invV l y ∧ l.length - y < l.length - x ∧ (x : Int) + 1 = (y : Int) ∧ (l.length : Int) = l.length ∧
        l = l ∧ decide ((l.length : Int) > 20000) = decide ((l.length : Int) > 20000) ∧ l = l ∧ (0 : Int) = 0 ∧ (0 : Int) = 0)) ∧
      (decide ((x : Int) < l.length) = false → E3 (carr addR (0, 1) l).1 (carr addR (0, 1) l).2.1 (carr addR (0, 1) l).2.2 (sumR l)))
theorem p19 (l : List (Int × Int)) : P19 l := by
  intro hl
  refine ⟨fun h => E3.of ?_, fun h _ => ⟨⟨0, ⟨Nat.zero_le _, rfl⟩, rfl⟩, fun x ⟨hx, hinv⟩ => ⟨fun hlt => ?_, fun hge => ?_⟩⟩⟩
  · unfold sumR
    rw [if_pos (by have := of_decide_eq_true h; omega)]
  · have hlt' : x < l.length := by have := of_decide_eq_true hlt; omega
    have hn : ¬ l.length > 20000 := by have := of_decide_eq_false h; omega
    refine ⟨by omega, by omega, fun hv => E3.of ?_, fun hv => ⟨by unfold InI64; omega, x + 1, ⟨hlt', ?_⟩, by omega, by omega, rfl, rfl, rfl, rfl, rfl, rfl⟩⟩
    · unfold sumR
      rw [if_neg hn, if_neg]
      intro hall
      have hm := List.all_eq_true.1 hall (at_ l x) (by
        have : at_ l x ∈ l.drop x := by rw [at_drop hlt']; exact List.mem_cons_self ..
        exact List.mem_of_mem_drop this)
      rw [hm] at hv
      cases hv
    · rw [at_take hlt', List.all_append, hinv]
      simpa using hv
  · have hge' : x = l.length := by have := of_decide_eq_false hge; omega
    subst hge'
    have hn : ¬ l.length > 20000 := by have := of_decide_eq_false h; omega
    rw [List.take_length] at hinv
    unfold sumR
    rw [if_neg hn, if_pos hinv]
    exact ⟨rfl, rfl, rfl⟩
theorem ok19 : FnOk Try.prog 19 (CE.pu cSum).con := fnPu ((39, .pu (cCarried 16 addR)) :: (22, .pu cVld) :: []) cSum L_ok ⟨ok39, ok22, trivial⟩ mixed Try.func19 (by kernel_rfl) (by kernel_rfl) fun args cs r h hcs => by
  unfold cSum at h
  split at h
  · rename_i l
    injection h with h; injection h with h1 h2; subst h1 h2
    exact ⟨[0, 2, 3, 5, 8, 10, 11, 12, 13, 18], fun _ => some { X := Nat, inv := invV l, m := fun x => l.length - x, s := fun x => [(12, .t (I x))] }, rfl, rfl, rfl, castH (p := P19 l) (by kernel_rfl) (p19 l)⟩
  · cases h
abbrev T5 : Tab := (19, .pu cSum) :: T4
theorem T5_ok : TOk Try.prog T5 := ⟨ok19, T4_ok⟩
end Go.Proofs.Ytommmlhllifonaa
