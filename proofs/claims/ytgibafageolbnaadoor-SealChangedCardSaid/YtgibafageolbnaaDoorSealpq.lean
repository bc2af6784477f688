/- The plain proofs. Written by a program (wip/tools/gen.py). -/
import Derived.Test.YtgibafageolbnaaDoorSealpp
import Derived.Test.YtgibafageolbnaaDoorSr
namespace Go.Proofs.YtgibafageolbnaaDoor
open Go.Sy Go.RatLaw
set_option linter.unusedVariables false
set_option linter.unusedSimpArgs false
theorem snoc_of {l : List En} {k : Nat} (h : k + 1 = l.length) (x : En) : l = l.take k ++ [l.getD k en0] ∧ l.set k x = l.take k ++ [x] := by
  have hk : k < l.length := by omega
  refine ⟨?_, ?_⟩
  · rw [← takeG en0 hk, h, List.take_length]
  · rw [List.set_eq_take_append_cons_drop, if_pos hk, List.drop_eq_nil_of_le (by omega)]
theorem log_changed {s : Int} {l : List En} {h : Int} {k : Nat} {x : En} (hv : logB s l h = true) (hk : k + 1 = l.length) (hx : x = l.getD k en0 ∨ Turned (intsE (l.getD k en0)) (intsE x)) : logB s (l.set k x) h = decide (x = l.getD k en0) := by
  have hs := snoc_of hk x
  by_cases e : x = l.getD k en0
  · rw [decide_eq_true e, hs.2, e, ← hs.1]; exact hv
  · rw [decide_eq_false e, Bool.eq_false_iff]
    intro hv'
    have h1 := (log_open hv).2.2.2
    have h2 := (log_open hv').2.2.2
    rw [hs.1, chain_more] at h1
    rw [hs.2, chain_more] at h2
    rcases hx with hx | hx
    · exact e hx
    · exact turned_next _ 7 hx (h1.symm.trans h2)
/-- the condition, its entries named -/
theorem changed_all {s : Int} {l : List En} {h w y : Int} (hs : InI64 s) (hi : inE l) (hw : 0 ≤ w ∧ w ≤ 255) (hy : 0 ≤ y ∧ y ≤ 255) (hv : logB s l h = true) (h60 : l.length ≤ 60) (hn : l.length ≠ 0) (k : Nat) (hk : k + 1 = l.length) (e x : En) (he : e = l.getD k en0) (hx : x = chgE e w y) :
    (InI64 e.1 ∧ InI64 e.2.1 ∧ InI64 e.2.2.1 ∧ InI64 e.2.2.2.1 ∧ InI64 e.2.2.2.2.1) ∧ (0 ≤ e.2.2.2.2.2 ∧ e.2.2.2.2.2 < 18446744073709551616) ∧ inE (l.set k x) ∧
      (true && logB s l h && logB s (l.set k x) h == decide ((l.set k x).getD k en0 = e)) = true := by
  have hkl : k < l.length := by omega
  have hm := hi e (he ▸ memG en0 hkl)
  have hb := ents_mem (log_open hv).2.2.1 e (he ▸ memG en0 hkl)
  have hc : x = e ∨ Turned (intsE e) (intsE x) := by rw [hx]; exact chg_ints hb hm.2.2.2.2.2 hy.1
  have hin : inE [x] := by rw [hx]; exact chg_in ⟨hm.1, hm.2.1, hm.2.2.1, hm.2.2.2.1, hm.2.2.2.2.1⟩ hm.2.2.2.2.2 hy.1
  refine ⟨⟨hm.1, hm.2.1, hm.2.2.1, hm.2.2.2.1, hm.2.2.2.2.1⟩, hm.2.2.2.2.2, ?_, ?_⟩
  · intro f hf
    rcases List.mem_or_eq_of_mem_set hf with hf | hf
    · exact hi f hf
    · exact hin f (by rw [hf]; exact List.mem_singleton.2 rfl)
  · have hg : (l.set k x).getD k en0 = x := by rw [List.getD_eq_getElem?_getD, List.getElem?_set_self hkl]; rfl
    rw [hg, hv, log_changed hv hk (he ▸ hc), he]
    simp
theorem p_SChanged (s : Int) (l : List En) (h w y : Int) (hs : InI64 s) (hi : inE l) (hw : 0 ≤ w ∧ w ≤ 255) (hy : 0 ≤ y ∧ y ≤ 255) : P_SChanged s l h w y := by
  intro hl
  refine ⟨fun _ => ⟨hs, hi⟩, fun _ => rfl, fun hc => ?_⟩
  simp only [Bool.or_eq_false_iff, Bool.not_eq_false'] at hc
  obtain ⟨⟨f1, v1⟩, f0⟩ := hc
  have f1 := of_decide_eq_true f1
  have hn : l.length ≠ 0 := fun q => by rw [q] at f0; simp at f0
  obtain ⟨a1, a2, a3, a4⟩ := changed_all (w := w) (y := y) hs hi hw hy v1 f1 hn (l.length - 1) (by omega) _ _ rfl rfl
  have ek : ((l.length : Int) - 1).toNat = l.length - 1 := by omega
  rw [ek]
  have hlen : ([] ++ l).length = l.length := rfl
  refine ⟨rfl, by omega, by unfold InI64; omega, by unfold InI64; omega, by omega, by omega, a1, a2, hw, hy.1, hy.2, by omega, by rw [hlen]; omega, by omega, rfl, by rw [hlen]; omega, by rw [List.length_set]; omega, fun _ => ⟨hs, hi⟩, fun _ => ⟨hs, a3⟩, fun _ => by unfold InI64; omega, fun _ => ⟨by omega, by rw [List.length_set, hlen]; omega⟩, fun _ => by unfold InI64; omega, fun _ => ⟨by omega, by omega⟩, ?_⟩
  rw [← eq6] at a4
  exact a4

end Go.Proofs.YtgibafageolbnaaDoor
