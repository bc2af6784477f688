/- The plain proofs. Written by a program (wip/tools/gen.py). -/
import Derived.Test.YtgibafageolbnaaDoorSealnp
import Derived.Test.YtgibafageolbnaaDoorSr
namespace Go.Proofs.YtgibafageolbnaaDoor
open Go.Sy Go.RatLaw
set_option linter.unusedVariables false
set_option linter.unusedSimpArgs false
theorem p_SAppends (s : Int) (l : List En) (h t k a b c g : Int) (hs : InI64 s) (hi : inE l) (hit : InI64 t ∧ InI64 k ∧ InI64 a ∧ InI64 b ∧ InI64 c) (hg : 0 ≤ g ∧ g < 18446744073709551616) : P_SAppends s l h t k a b c g := by
  intro hl
  refine ⟨fun _ => ⟨hs, hi⟩, fun _ => rfl, fun hc => ?_⟩
  simp only [Bool.or_eq_false_iff, decide_eq_false_iff_not, Bool.not_eq_false'] at hc
  obtain ⟨hn, hv⟩ := hc
  have hn' : l.length < 5000 := by omega
  have hh := hi_lo hg.1 hg.2
  refine ⟨hs, hi, hit.1, hg, fun he => ?_, fun he => ?_⟩
  · refine ⟨fun _ => by unfold InI64; omega, fun q => by have := of_decide_eq_true q; omega, fun _ _ => ?_⟩
    by_cases hx : entryB t k a b c g = true
    · by_cases hq : 0 < l.length ∧ t < lastE l l.length
      · have hc := last_cond.2 hq
        rw [app_late hv hn' hx hq]
        exact and_fin (same_self 0 [] 0) rfl hc
      · rw [app_ok hv hn' hx hq] at he; cases he
    · rw [Bool.not_eq_true] at hx
      rw [app_bad hv hx, hx, show sameL 0 [] 0 0 [] 0 = true from same_self 0 [] 0]
      rfl
  · have he' : (appS s l h (t, k, a, b, c, g)).2 = 0 := by simpa using he
    obtain ⟨hx, hq, ha, hlg⟩ := app_got hv hn' he'
    have hE := inE_app hi hx hg
    have hb : begS s l h s (l ++ [(t, k, a, b, c, g)]) (chainE s (l ++ [(t, k, a, b, c, g)])) = (true, 0) := by rw [beg_yes' hv hlg, starts_app]
    have hlen : (((l ++ [(t, k, a, b, c, g)]).length : Nat) : Int) = (l.length : Int) + 1 := by simp
    have hA : allI ([7] ++ [t, k, a, b, c, hiD g, loD g]) := by
      have := ent_nn hx
      intro n hn
      simp only [List.cons_append, List.nil_append, List.mem_cons, List.not_mem_nil, or_false] at hn
      unfold InI64
      rcases hn with rfl | rfl | rfl | rfl | rfl | rfl | rfl | rfl <;> omega
    have hst : okL [[s]] := fun x hx => by rw [List.mem_singleton.1 hx]; exact ⟨fun n hn => by rw [List.mem_singleton.1 hn]; exact hs, by simp⟩
    have hcm := chain_more s l (t, k, a, b, c, g)
    rw [ha]
    refine ⟨hs, hi, hs, hE, fun _ => ⟨fun h0 => ⟨hst, hg, rfl, by decide, hA, fun _ => ⟨hs, hE⟩, fun _ => by unfold InI64; omega, fun _ => ⟨by omega, by simp only [hlen]; omega⟩, fun _ _ _ => ?_⟩, fun h0 => ⟨hg, rfl, by decide, hA, fun _ => ⟨hs, hE⟩, fun _ => by unfold InI64; omega, fun _ => ⟨by omega, by simp only [hlen]; omega⟩, fun _ _ _ => ?_⟩⟩⟩
    · have hnil := len_nil h0
      have hch : chainE s (l ++ [(t, k, a, b, c, g)]) = nextS (chainS [[s]]) ([7] ++ [t, k, a, b, c, hiD g, loD g]) := by
        rw [hcm, hnil]; rfl
      have hget := get_last (l := l) (x := (t, k, a, b, c, g))
      simp only [E6d0, hb, hlg, hlen]
      rw [hget, hch]
      simp only [beq_self_eq_true, Bool.and_true]
    · have hne := len_ne h0
      have hch : chainE s (l ++ [(t, k, a, b, c, g)]) = nextS h ([7] ++ [t, k, a, b, c, hiD g, loD g]) := by
        rw [hcm, (log_open hv).2.2.2, chainE_ne hne]; rfl
      have hget := get_last (l := l) (x := (t, k, a, b, c, g))
      simp only [E6d0, hb, hlg, hlen]
      rw [hget, hch]
      simp only [beq_self_eq_true, Bool.and_true]

end Go.Proofs.YtgibafageolbnaaDoor
