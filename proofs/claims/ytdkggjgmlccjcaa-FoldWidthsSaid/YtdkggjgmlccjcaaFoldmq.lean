/- The plain proofs. Written by a program (wip/tools/gen.py). -/
import Derived.Test.YtdkggjgmlccjcaaFoldmp
import Derived.Test.YtdkggjgmlccjcaaFr
namespace Go.Proofs.Ytdkggjgmlccjcaa
open Go.Sy Go.RatLaw
set_option linter.unusedVariables false
set_option linter.unusedSimpArgs false
theorem use_cases {ms : List Ms} {l : List Int} (hb : bytesB l) : useS ms l = ([], false) ∨ (useS ms l = (stopsS ms l, true) ∧ viewB ms = true ∧ ms.length ≤ 60 ∧ (stopsS ms l).length ≤ 60 ∧ ∀ n ∈ stopsS ms l, 0 ≤ n ∧ n < ms.length) := by
  unfold useS
  by_cases h : (fewB ms && (viewB ms && decide (l.length ≤ 60))) = true
  · right
    rw [if_pos h]
    simp only [Bool.and_eq_true, decide_eq_true_eq] at h
    obtain ⟨h1, h2, h3⟩ := h
    unfold fewB at h1
    simp only [Bool.and_eq_true, decide_eq_true_eq] at h1
    refine ⟨rfl, h2, h1.1, Nat.le_trans (stopsS_len ms l) h3, fun n hn => ?_⟩
    unfold stopsS at hn
    split at hn
    · rename_i hm
      obtain ⟨u, hu, rfl⟩ := List.mem_map.1 hn
      have := hb u hu
      exact ⟨Int.tmod_nonneg _ this.1, Int.tmod_lt_of_pos _ (by omega)⟩
    · cases hn
  · left; rw [if_neg h]
theorem blk_in {ms : List Ms} {st : List Int} {x : Nat} (hx : x < (foldTo ms (inL st) ms.length).length) : BlkOk ms (inL st) ((foldTo ms (inL st) ms.length).getD x bk0) := (fold_tile (Nat.le_refl _)).2 _ (memD bk0 hx)
theorem end_le {b : Bk} (h0 : 0 ≤ b.2) : b.1 + b.2 ≤ endB b := by unfold endB; split <;> omega
theorem p_FAll (p : Int) (ms : List Ms) (l : List Int) (hb : bytesB l) : P_FAll p ms l := by
  refine ⟨hb, fun _ => rfl, fun h => ?_⟩
  rcases use_cases (ms := ms) hb with e | ⟨e, hv, hm, hs, hin⟩
  · rw [e] at h; cases h
  · rw [e, foldS_ok hv hs hin, fold_unf (by omega)]
    have hL : ∀ x, x < (foldTo ms (inL (stopsS ms l)) ms.length).length → _ := fun x hx => blk_in hx
    have hll := foldTo_len ms (inL (stopsS ms l)) ms.length
    generalize foldTo ms (inL (stopsS ms l)) ms.length = L at hL hll ⊢
    simp only [rangeI_len]
    refine fun _ _ => ⟨fun h2 => by simp at h2, fun _ _ => ⟨⟨0, Nat.zero_le _, (by first | rfl | trivial), (by first | rfl | trivial)⟩, fun x hx => ⟨fun hlt => ?_, fun hge _ => ⟨⟨0, Nat.zero_le _, (by first | rfl | trivial), (by first | rfl | trivial)⟩, fun y hy => ⟨fun hlt => ?_, fun _ => (by first | rfl | trivial)⟩⟩⟩⟩⟩
    · have hlt' : x < ms.length := by have := of_decide_eq_true hlt; omega
      simp only [d0I, tn, rangeI_get hlt', beq_self_eq_true]
      exact ⟨by omega, by omega, by unfold InI64; omega, x + 1, hlt', by omega, (by first | rfl | trivial), by (repeat' (first | rfl | trivial | apply And.intro))⟩
    · have hlt' : y < L.length := by have := of_decide_eq_true hlt; omega
      have hB := hL y hlt'
      simp only [d0K, d0M, tn, pairM, len_pos]
      generalize L.getD y bk0 = b at hB
      have hlo := hB.lo
      have hnn := hB.nn
      have hhi := hB.hi
      have hel := end_le hnn
      have hge := end_ge b
      refine ⟨by omega, by omega, fun _ => ⟨fun _ => by unfold InI64; omega, fun _ => ⟨fun hc => ?_, fun _ => ⟨by omega, by omega, fun _ => ⟨fun hc => ?_, fun _ => ⟨⟨0, by omega, (by first | rfl | trivial), (by first | rfl | trivial)⟩, fun k hk => ⟨fun hlt2 => ?_, fun _ => ⟨by unfold InI64; omega, y + 1, hlt', by omega, (by first | rfl | trivial), by (repeat' (first | rfl | trivial | apply And.intro))⟩⟩⟩⟩⟩⟩⟩⟩
      · rw [decide_eq_false (by omega), decide_eq_false (by omega), decide_eq_false (by omega)] at hc; cases hc
      · have : (b.2 == 0) = !List.isEmpty (ms.getD b.1.toNat ms0).2.2.2 := by
          by_cases h0 : b.2 = 0
          · have : List.isEmpty (ms.getD b.1.toNat ms0).2.2.2 = false := hB.note h0
            rw [this, h0]; rfl
          · have : List.isEmpty (ms.getD b.1.toNat ms0).2.2.2 = true := hB.rest h0
            rw [this, beq_eq_false_iff_ne.2 h0]; rfl
        rw [this] at hc; simp at hc
      · have hlt2' := of_decide_eq_true hlt2
        have hj := blk_joins hB (k := 1 + k) (by omega)
        have ht : (b.1 + (1 + (k : Int))).toNat = b.1.toNat + (1 + k) := by omega
        rw [ht]
        simp only [hj]
        exact ⟨fun _ => by unfold InI64; omega, fun _ => ⟨by omega, by omega⟩, by unfold InI64; omega, k + 1, by omega, by omega, by omega, by (repeat' (first | rfl | trivial | apply And.intro))⟩
theorem tileS {ms : List Ms} (stop : Int → Bool) : tileB 0 (foldTo ms stop ms.length) ms.length := (fold_tile (Nat.le_refl _)).1
theorem p_FWhole (p : Int) (ms : List Ms) (l : List Int) (hb : bytesB l) : P_FWhole p ms l := by
  refine ⟨hb, fun _ => rfl, fun h => ?_⟩
  rcases use_cases (ms := ms) hb with e | ⟨e, hv, hm, hs, hin⟩
  · rw [e] at h; cases h
  · rw [e, foldS_ok hv hs hin]
    generalize stopsS ms l = st at hs hin ⊢
    have hL : ∀ x, x < (foldTo ms (inL st) ms.length).length → _ := fun x hx => blk_in hx
    have hll := foldTo_len ms (inL st) ms.length
    have htl := tileS (ms := ms) (inL st)
    generalize foldTo ms (inL st) ms.length = L at hL hll htl ⊢
    dsimp only
    refine ⟨fun h2 => by simp at h2, fun _ _ => ⟨⟨0, Nat.zero_le _, (by first | rfl | trivial), (by first | rfl | trivial)⟩, fun x hx => ⟨fun hlt => ?_, fun _ => (by first | rfl | trivial)⟩⟩⟩
    have hlt' : x < L.length := by have := of_decide_eq_true hlt; omega
    have hB := hL x hlt'
    have hA : ∀ y, y + 1 = x → BlkOk ms (inL st) (L.getD y bk0) ∧ (L.getD x bk0).1 = endB (L.getD y bk0) := fun y hy => ⟨hL y (by omega), by rw [← hy]; exact tile_next htl (by omega)⟩
    have ht : ((x : Int) - 1).toNat = x - 1 := by omega
    have hA1 := hA (x - 1)
    simp only [d0K, d0M, d0I, tn, pairM, ht]
    generalize L.getD x bk0 = b at hB hA1 ⊢
    generalize L.getD (x - 1) bk0 = a at hA1 ⊢
    have hlo := hB.lo
    have hnn := hB.nn
    have hhi := hB.hi
    have hel := end_le hnn
    have hge := end_ge b
    refine ⟨by omega, by omega, fun _ => ⟨⟨0, Nat.zero_le _, (by first | rfl | trivial), (by first | rfl | trivial)⟩, fun y hy => ⟨fun hlt2 => ?_, fun _ => ⟨fun hc => ?_, fun hc => ?_, fun _ => ⟨fun _ => ⟨by unfold InI64; omega, x + 1, hlt', by omega, (by first | rfl | trivial), by (repeat' (first | rfl | trivial | apply And.intro))⟩, fun hc => ?_⟩⟩⟩⟩⟩
    · have hy' : y < st.length := by have := of_decide_eq_true hlt2; omega
      have hn := hin _ (memD 0 hy')
      have hmem : st.getD y 0 ∈ st := memD 0 hy'
      have hgo : (decide (st.getD y 0 ≤ b.1) || decide (st.getD y 0 ≥ b.1 + b.2)) = true := by
        rw [Bool.or_eq_true, decide_eq_true_iff, decide_eq_true_iff]
        by_cases h1 : st.getD y 0 ≤ b.1
        · exact .inl h1
        · right
          rcases Int.lt_or_le (st.getD y 0) (b.1 + b.2) with h2 | h2
          · have hg := hB.goes (st.getD y 0).toNat (by omega) (by omega)
            have : opensB ms (inL st) (st.getD y 0).toNat = true := opens_at (by
              rw [show ((st.getD y 0).toNat : Int) = st.getD y 0 by omega]
              unfold inL; simp only [hmem, decide_true])
            rw [this] at hg; cases hg
          · exact h2
      exact ⟨by omega, by omega, fun _ => by unfold InI64; omega, by unfold InI64; omega, y + 1, hy', by omega, (by first | rfl | trivial), by rw [hgo]; rfl, by (repeat' (first | rfl | trivial | apply And.intro))⟩
    · have h0 : ¬ (x : Int) = 0 := by intro h0; rw [h0] at hc; simp at hc
      unfold InI64; omega
    · have h0 : ¬ (x : Int) = 0 := by intro h0; rw [h0] at hc; simp at hc
      omega
    · simp only [Bool.or_eq_false_iff, beq_eq_false_iff_ne, ne_eq, decide_eq_false_iff_not] at hc
      obtain ⟨⟨⟨⟨c1, c2⟩, c3⟩, c4⟩, c5⟩ := hc
      obtain ⟨hAk, hE⟩ := hA1 (by omega)
      have hlo2 := hAk.lo
      have hnn2 := hAk.nn
      have hhi2 := hAk.hi
      have hge2 := end_ge a
      have er := end_rest (b := a) (by omega)
      have hgo : (inL st b.1 || !joinsB (ms.getD a.1.toNat ms0) (ms.getD b.1.toNat ms0)) = true := by
        rw [Bool.or_eq_true]
        cases hs : inL st b.1 with
        | true => exact .inl rfl
        | false =>
          right
          rw [Bool.not_eq_true', ← Bool.not_eq_true]
          intro hj
          have hj2 := blk_joins hAk (k := (a.2 - 1).toNat) (by omega)
          rw [show a.1.toNat + (a.2 - 1).toNat = b.1.toNat - 1 by omega] at hj2
          obtain ⟨q1, q2, q3, q4⟩ := join_iff.1 hj
          obtain ⟨r1, r2, r3, r4⟩ := join_iff.1 hj2
          have hj3 : joinsB (ms.getD (b.1.toNat - 1) ms0) (ms.getD b.1.toNat ms0) = true := join_iff.2 ⟨r2, q2, r3.symm.trans q3, r4.symm.trans q4⟩
          have ho := hB.opens
          unfold opensB at ho
          rw [hj3, q2, show ((b.1.toNat : Nat) : Int) = b.1 by omega, hs, decide_eq_true (show 0 < b.1.toNat by omega)] at ho
          cases ho
      refine ⟨by unfold InI64; omega, by omega, by omega, fun _ => ⟨fun hc => ?_, fun _ => ⟨fun _ => ⟨by omega, by omega⟩, fun _ => ⟨by omega, by omega⟩, by unfold InI64; omega, x + 1, hlt', by omega, (by first | rfl | trivial), by rw [hgo]; rfl, by (repeat' (first | rfl | trivial | apply And.intro))⟩⟩⟩
      rw [decide_eq_false (by omega), decide_eq_false (by omega)] at hc; cases hc

end Go.Proofs.Ytdkggjgmlccjcaa
