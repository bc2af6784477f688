/- The plain proofs. Written by a program (wip/tools/gen.py). -/
import Derived.Test.YtjghgdccaakfmaaTdp
import Derived.Test.YtjghgdccaakfmaaTr
namespace Go.Proofs.Ytjghgdccaakfmaa
open Go.Sy Go.RatLaw
set_option linter.unusedVariables false
set_option linter.unusedSimpArgs false
theorem usT {bars : List Bar} {l : List T3} (h : (!usableT bars l) = false) : okTm bars l = true := by
  unfold usableT at h
  simp only [Bool.not_eq_false', Bool.and_eq_true] at h
  exact h.2
theorem cut_app {vs : List Vi} {x y z : Int} (h0 : 0 ≤ x) (h1 : x ≤ y) (h2 : y ≤ z) (h3 : z ≤ vs.length) : cutV vs x z = cutV vs x y ++ cutV vs y z := by
  unfold cutV
  have e : vs.take z.toNat = vs.take y.toNat ++ (vs.take z.toNat).drop y.toNat := by
    have := List.take_append_drop y.toNat (vs.take z.toNat)
    rw [List.take_take, Nat.min_eq_left (by omega)] at this
    exact this.symm
  conv => lhs; rw [e]
  rw [List.drop_append_of_le_length (by rw [List.length_take]; omega)]
theorem p_TPlayed (bars : List Bar) (l : List T3) (b : Int) (r e : List T3) (j t n : Int) (c : List T3) (w : Int) (hw0 : 0 ≤ w) (hw1 : w ≤ 65535) : P_TPlayed bars l b r e j t n c w := by
  intro _
  refine ⟨fun _ => rfl, fun hu _ => ⟨fun _ => rfl, fun hun => ?_⟩⟩
  simp only [Bool.or_eq_false_iff] at hu hun
  have ho := usT hu.1.1
  have hbn : b = (bars.length : Int) := by simpa using hu.2
  have hv : validF (b, (r, (e, ((j, (t, n)), c)))) = true := by have := hun.1; rw [unfold_err] at this; simpa using this
  have hn : (unfoldS (b, (r, (e, ((j, (t, n)), c))))).1.length ≠ 0 := by have := hun.2; rw [beqD] at this; have := of_decide_eq_false this; omega
  have hle := unfold_len (b, (r, (e, ((j, (t, n)), c))))
  have hk := okTm_ok ho
  have hb := (okBars_iff.1 hk.okb).2.1
  have hk0 := Int.tmod_nonneg (b := ((unfoldS (b, (r, (e, ((j, (t, n)), c))))).1.length : Int)) (a := w) hw0
  have hk1 := Int.tmod_lt_of_pos w (b := ((unfoldS (b, (r, (e, ((j, (t, n)), c))))).1.length : Int)) (by omega)
  generalize w.tmod ((unfoldS (b, (r, (e, ((j, (t, n)), c))))).1.length : Int) = k at *
  have e1 : (unfoldS (b, (r, (e, ((j, (t, n)), c))))).1.getD k.toNat T2T.d0 = (unfoldS (b, (r, (e, ((j, (t, n)), c))))).1.getD k.toNat vi0 := rfl
  simp only [e1]
  have hm := unfold_mem (f := (b, (r, (e, ((j, (t, n)), c))))) _ (memG vi0 (l := (unfoldS (b, (r, (e, ((j, (t, n)), c))))).1) (x := k.toNat) (by omega))
  have hm2 : ((unfoldS (b, (r, (e, ((j, (t, n)), c))))).1.getD k.toNat vi0).1 < (bars.length : Int) := by rw [← hbn]; exact hm.2
  have pAll : PlayOk bars l (b, (r, (e, ((j, (t, n)), c)))) 0 ((unfoldS (b, (r, (e, ((j, (t, n)), c))))).1.length : Int) := play_mk_ok ho hv hbn (by omega) (by omega) (by omega)
  have pA : PlayOk bars l (b, (r, (e, ((j, (t, n)), c)))) 0 k := play_mk_ok ho hv hbn (by omega) (by omega) (by omega)
  have pB : PlayOk bars l (b, (r, (e, ((j, (t, n)), c)))) k (k + 1) := play_mk_ok ho hv hbn (by omega) (by omega) (by omega)
  have pC : PlayOk bars l (b, (r, (e, ((j, (t, n)), c)))) (k + 1) ((unfoldS (b, (r, (e, ((j, (t, n)), c))))).1.length : Int) := play_mk_ok ho hv hbn (by omega) (by omega) (by omega)
  have hN : playN bars l (cutV (unfoldS (b, (r, (e, ((j, (t, n)), c))))).1 0 ((unfoldS (b, (r, (e, ((j, (t, n)), c))))).1.length : Int)) = playN bars l (cutV (unfoldS (b, (r, (e, ((j, (t, n)), c))))).1 0 k) + playN bars l (cutV (unfoldS (b, (r, (e, ((j, (t, n)), c))))).1 k (k + 1)) + playN bars l (cutV (unfoldS (b, (r, (e, ((j, (t, n)), c))))).1 (k + 1) ((unfoldS (b, (r, (e, ((j, (t, n)), c))))).1.length : Int)) := by
    rw [cut_app (x := 0) (y := k) (by omega) (by omega) (by omega) (by omega), cut_app (x := k) (y := k + 1) (by omega) (by omega) (by omega) (by omega), playN_app, playN_app]
    omega
  have hB : playN bars l (cutV (unfoldS (b, (r, (e, ((j, (t, n)), c))))).1 k (k + 1)) = takeT l ((unfoldS (b, (r, (e, ((j, (t, n)), c))))).1.getD k.toNat vi0).1 (tb (bars.getD ((unfoldS (b, (r, (e, ((j, (t, n)), c))))).1.getD k.toNat vi0).1.toNat bar0)) := by
    have s := (play_step pB (k := 0) (by omega)).2.2
    rw [play_all pB (k := 0 + 1) (by omega), cutV_get pB.h0 pB.h1 pB.h2 (by omega), show (k + ((0 : Nat) : Int)).toNat = k.toNat by omega] at s
    rw [s]; simp [playN]
  have tbd := tb_at hk.okb (k := ((unfoldS (b, (r, (e, ((j, (t, n)), c))))).1.getD k.toNat vi0).1.toNat) (by omega)
  have tbd2 := takeT_bd (tmAt_ok hk hm.1) (t := tb (bars.getD ((unfoldS (b, (r, (e, ((j, (t, n)), c))))).1.getD k.toNat vi0).1.toNat bar0)) (by omega) (by omega)
  have eS : secS bars l ((unfoldS (b, (r, (e, ((j, (t, n)), c))))).1.getD k.toNat vi0).1 0 1 (((unfoldS (b, (r, (e, ((j, (t, n)), c))))).1.getD k.toNat vi0).1 + 1) 0 1 = playS bars l (b, (r, (e, ((j, (t, n)), c)))) k (k + 1) := by
    rw [play_mk pB, hB, sec_bar ho hm.1 (by omega) (by omega), show (((unfoldS (b, (r, (e, ((j, (t, n)), c))))).1.getD k.toNat vi0).1 + 1).toNat = ((unfoldS (b, (r, (e, ((j, (t, n)), c))))).1.getD k.toNat vi0).1.toNat + 1 by omega, sumT, show ((((unfoldS (b, (r, (e, ((j, (t, n)), c))))).1.getD k.toNat vi0).1.toNat : Nat) : Int) = ((unfoldS (b, (r, (e, ((j, (t, n)), c))))).1.getD k.toNat vi0).1 by omega]
    congr 1; omega
  have zB : (playS bars l (b, (r, (e, ((j, (t, n)), c)))) k (k + 1)).2.2 = 0 := by rw [play_mk pB, hB]; exact mk_small (by omega) (by omega)
  refine ⟨by unfold InI64; omega, by omega, fun _ _ => ⟨by unfold InI64; omega, by unfold InI64; omega, by omega, by omega, fun _ => ⟨fun h => ?_, fun _ => ⟨by unfold InI64; omega, fun h => ?_, fun _ => ⟨fun h => ?_, fun h => ?_⟩⟩⟩⟩⟩
  · rw [Bool.or_eq_true, decide_eq_true_iff, decide_eq_true_iff] at h; omega
  · rw [eS, zB] at h; simp at h
  · rw [play_mk pAll, play_mk pA, play_mk pC]
    rcases mk100_err (playN bars l (cutV (unfoldS (b, (r, (e, ((j, (t, n)), c))))).1 0 ((unfoldS (b, (r, (e, ((j, (t, n)), c))))).1.length : Int))) with a1 | a1 <;> rcases mk100_err (playN bars l (cutV (unfoldS (b, (r, (e, ((j, (t, n)), c))))).1 0 k)) with a2 | a2 <;> rcases mk100_err (playN bars l (cutV (unfoldS (b, (r, (e, ((j, (t, n)), c))))).1 (k + 1) ((unfoldS (b, (r, (e, ((j, (t, n)), c))))).1.length : Int))) with a3 | a3 <;> rw [a1, a2, a3] <;> rfl
  · simp only [Bool.or_eq_false_iff, bne_eq_false_iff_eq] at h
    obtain ⟨⟨h1, h2⟩, h3⟩ := h
    rw [play_mk pAll] at h1 ⊢
    rw [play_mk pA] at h2 ⊢
    rw [play_mk pC] at h3 ⊢
    rw [play_mk pB] at zB ⊢
    rw [hN] at h1 ⊢
    generalize playN bars l (cutV (unfoldS (b, (r, (e, ((j, (t, n)), c))))).1 0 k) = x at *
    generalize playN bars l (cutV (unfoldS (b, (r, (e, ((j, (t, n)), c))))).1 k (k + 1)) = y at *
    generalize playN bars l (cutV (unfoldS (b, (r, (e, ((j, (t, n)), c))))).1 (k + 1) ((unfoldS (b, (r, (e, ((j, (t, n)), c))))).1.length : Int)) = z at *
    rcases mk100 x with q | ⟨a, a', ma, va, ea⟩
    · rw [q] at h2; cases h2
    rcases mk100 y with q | ⟨d, d', md, vd, ed⟩
    · rw [q] at zB; cases zB
    rcases mk100 z with q | ⟨g, g', mg, vg, eg⟩
    · rw [q] at h3; cases h3
    rw [ma, md, mg]
    rcases sum100 va vd vg ea ed eg with q | q
    · rw [q]; rfl
    · rw [q, h1]; simp

end Go.Proofs.Ytjghgdccaakfmaa
