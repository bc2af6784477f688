/- The plain proofs. Written by a program (wip/tools/gen.py). -/
import Derived.Test.YtiejdafjjneaeaaDoorDigestlp
import Derived.Test.YtiejdafjjneaeaaDoorDigestq
namespace Go.Proofs.YtiejdafjjneaeaaDoor
open Go.Sy Go.RatLaw
set_option linter.unusedVariables false
theorem p_turned (l : List Int) (w b : Int) (hw0 : 0 ≤ w) (hw1 : w ≤ 65535) (hb0 : 0 ≤ b) (hb1 : b ≤ 255) (hl8 : l.length * 8 ≤ 140737488355328) : P_turned l w b := by
  refine fun hl => ⟨fun h0 => ?_, fun h0 => ?_⟩
  · have h0' : l.length = 0 := by have := beq_iff_eq.1 h0; omega
    unfold turnS
    rw [if_pos h0']
    exact ⟨(by first | rfl | trivial), (by first | rfl | trivial)⟩
  · have h0' : l.length ≠ 0 := by have := beq_eq_false_iff_ne.1 h0; omega
    simp only [Nat.zero_add, List.nil_append, d0Ig]
    have hp : (0 : Int) < l.length := Int.natCast_pos.2 (Nat.pos_of_ne_zero h0')
    have hlt : Int.tmod w l.length < l.length := Int.tmod_lt_of_pos _ hp
    have hge : 0 ≤ Int.tmod w l.length := Int.tmod_nonneg _ hw0
    refine ⟨(by first | rfl | trivial), hl8, by unfold InI64; omega, fun _ => ⟨by omega, hge, hlt, (by first | rfl | trivial), (by first | rfl | trivial), by omega, fun hc => ?_, fun hc => ?_⟩⟩
    · have hc' : l.getD (Int.tmod w l.length).toNat 0 < 0 ∨ l.getD (Int.tmod w l.length).toNat 0 > 1000000000000 := by simpa using hc
      unfold turnS
      rw [if_neg h0', if_pos hc']
      exact ⟨(by first | rfl | trivial), (by first | rfl | trivial)⟩
    · have hc' : ¬ (l.getD (Int.tmod w l.length).toNat 0 < 0 ∨ l.getD (Int.tmod w l.length).toNat 0 > 1000000000000) := by
        intro h; rw [Bool.or_eq_false_iff, decide_eq_false_iff_not, decide_eq_false_iff_not] at hc; exact h.elim hc.1 hc.2
      have ht : turnS l w b = (l.set (Int.tmod w l.length).toNat (turnI (l.getD (Int.tmod w l.length).toNat 0) b), true) := by
        unfold turnS
        rw [if_neg h0', if_neg hc']
      rw [ht]
      unfold turnI
      generalize l.getD (Int.tmod w l.length).toNat 0 = n at hc' ⊢
      have t1 : Int.tmod n 10 = n % 10 := Int.tmod_eq_emod_of_nonneg (by omega)
      have t2 : Int.tmod b 9 = b % 9 := Int.tmod_eq_emod_of_nonneg hb0
      have t3 : Int.tmod (n % 10 + 1 + b % 9) 10 = (n % 10 + 1 + b % 9) % 10 := Int.tmod_eq_emod_of_nonneg (by omega)
      rw [t1, t2, t3]
      have hls : l.length = (l.set (Int.tmod w l.length).toNat (n - n % 10 + (n % 10 + 1 + b % 9) % 10)).length := by simp
      exact ⟨by omega, by unfold InI64; omega, by omega, by unfold InI64; omega, by unfold InI64; omega, by omega, by unfold InI64; omega, by omega, by unfold InI64; omega, hge, hlt, (by first | rfl | trivial), (by first | rfl | trivial), by omega, hls, (by first | rfl | trivial), (by first | rfl | trivial)⟩
theorem p_DMatches (b : List Int) (d : Int) (l : List Int) (ll : List (List Int)) (h1 : allI l) (h2 : allLL ll) : P_DMatches b d l ll := by
  refine fun _ _ => ⟨fun _ => (by first | rfl | trivial), fun hc => ?_⟩
  simp only [Bool.or_eq_false_iff, decide_eq_false_iff_not, Bool.not_eq_false'] at hc
  have hf := few_ok h2 hc.2
  exact ⟨fun _ => h1, fun _ => ⟨h1, by omega⟩, fun _ => hf.1, fun _ => hf.1, by simp⟩
theorem p_DBehind (a b m : List Int) : P_DBehind a b m := by
  refine fun _ _ _ => ⟨fun _ => (by first | rfl | trivial), fun hc => ?_⟩
  simp only [Bool.or_eq_false_iff, decide_eq_false_iff_not] at hc
  have hs : ((sumS a == sumS b) == (sumS ([] ++ a ++ m) == sumS ([] ++ b ++ m))) = true := by
    have := sum_behind a b m
    rw [List.nil_append, List.nil_append, beq_iff_eq]
    by_cases h : sumS a = sumS b
    · rw [beq_iff_eq.2 h, beq_iff_eq.2 (this.2 h)]
    · rw [beq_eq_false_iff_ne.2 h, beq_eq_false_iff_ne.2 fun e => h (this.1 e)]
  exact ⟨(by first | rfl | trivial), by omega, by simp, by omega, (by first | rfl | trivial), by omega, by simp, by omega, by rw [Bool.true_and]; exact hs⟩
theorem turned_ne (d : Int) {l : List Int} {w b : Int} (hw : 0 ≤ w) (hb : 0 ≤ b) (h : (turnS l w b).2 = true) : nextS d l ≠ nextS d (turnS l w b).1 := by
  obtain ⟨k, hk, h0, h1, e⟩ := turn_cases hw hb h
  obtain ⟨g1, g2, g3, g4⟩ := turn_ok h0 hb
  rw [e]
  exact next_turn d hk h0 g1 g3 g4
theorem turned_all {l : List Int} {w b : Int} (ha : allI l) (hw : 0 ≤ w) (hb : 0 ≤ b) (h : (turnS l w b).2 = true) : allI (turnS l w b).1 ∧ (turnS l w b).1.length = l.length := by
  obtain ⟨k, hk, h0, h1, e⟩ := turn_cases hw hb h
  obtain ⟨g1, g2, g3, g4⟩ := turn_ok h0 hb
  rw [e]
  exact ⟨turn_allI ha (by unfold InI64; omega), by simp⟩
theorem p_DTexts (d : Int) (l : List Int) (w b : Int) (ha : allI l) (hw0 : 0 ≤ w) (hw1 : w ≤ 65535) (hb0 : 0 ≤ b) (hb1 : b ≤ 255) : P_DTexts d l w b := by
  refine fun _ => ⟨fun _ => (by first | rfl | trivial), fun hc => ?_⟩
  have hc' := of_decide_eq_false hc
  have e : (nextS d l == sumS (textS d l)) = true := beq_iff_eq.2 rfl
  refine ⟨fun _ => ha, fun _ => ⟨ha, by omega⟩, hw0, hw1, hb0, hb1, by omega, fun _ => by rw [e]; rfl, fun h => ⟨fun _ => ha, fun _ => (turned_all ha hw0 hb0 (by simpa using h)).1, ?_⟩⟩
  rw [e, bne_iff_ne.2 (turned_ne d hw0 hb0 (by simpa using h))]
  rfl
theorem okL_app {a m : List (List Int)} (h1 : okL a) (h2 : okL m) : okL ([] ++ a ++ m) := fun x hx => by
  rcases List.mem_append.1 hx with hx | hx
  · exact h1 x hx
  · exact h2 x hx
theorem okL_one {l : List Int} (h1 : allI l) (h2 : l.length ≤ 40) : okL [l] := fun x hx => by rw [List.mem_singleton.1 hx]; exact ⟨h1, by omega⟩
theorem p_DChains (a b m : List (List Int)) (l : List Int) (ha : allLL a) (hb : allLL b) (hm : allLL m) (hl : allI l) : P_DChains a b m l := by
  refine fun _ => ⟨fun _ => (by first | rfl | trivial), fun hc => ?_⟩
  simp only [Bool.or_eq_false_iff, decide_eq_false_iff_not, Bool.not_eq_false'] at hc
  obtain ⟨⟨⟨f1, f2⟩, f3⟩, f4⟩ := hc
  obtain ⟨a1, a2⟩ := few_ok ha f1
  obtain ⟨b1, b2⟩ := few_ok hb f2
  obtain ⟨m1, m2⟩ := few_ok hm f3
  have l4 : l.length ≤ 40 := by omega
  have o1 := okL_app a1 (okL_one hl l4)
  have o2 := okL_app a1 m1
  have o3 := okL_app b1 m1
  have e1 : (chainS ([] ++ a ++ [l]) == nextS (chainS a) ([(l.length : Int)] ++ l)) = true := by
    rw [List.nil_append, chain_snoc]; exact beq_iff_eq.2 rfl
  have e2 : (chainS a != chainS b || chainS ([] ++ a ++ m) == chainS ([] ++ b ++ m)) = true := by
    rw [List.nil_append, List.nil_append, chain_append, chain_append]
    by_cases h : chainS a = chainS b
    · rw [h]; simp
    · rw [bne_iff_ne.2 h]; rfl
  refine ⟨(by first | rfl | trivial), by omega, by simp, by omega, fun _ => ⟨(by first | rfl | trivial), by omega, fun _ => o1, fun _ => a1, fun _ => ok_len ⟨hl, by omega⟩, (by first | rfl | trivial), by omega, by simp, by omega, (by first | rfl | trivial), by omega, by simp, by omega, fun _ => a1, fun _ => b1, fun _ => o2, fun _ => o3, ?_⟩⟩
  rw [e1, e2]; rfl
theorem p_DLast (ll : List (List Int)) (l : List Int) (w b : Int) (hll : allLL ll) (hl : allI l) (hl8 : l.length * 8 ≤ 140737488355328) (hw0 : 0 ≤ w) (hw1 : w ≤ 65535) (hb0 : 0 ≤ b) (hb1 : b ≤ 255) : P_DLast ll l w b := by
  refine ⟨hw0, hw1, hb0, hb1, hl8, fun _ => ⟨fun _ => (by first | rfl | trivial), fun hc => ?_⟩⟩
  simp only [Bool.or_eq_false_iff, decide_eq_false_iff_not, Bool.not_eq_false'] at hc
  obtain ⟨⟨f1, f2⟩, f3⟩ := hc
  obtain ⟨a1, a2⟩ := few_ok hll f1
  have l4 : l.length ≤ 40 := by omega
  obtain ⟨t1, t2⟩ := turned_all hl hw0 hb0 f3
  have o1 := okL_app a1 (okL_one hl l4)
  have o2 := okL_app a1 (okL_one t1 (by omega))
  have hne : chainS ([] ++ ll ++ [l]) ≠ chainS ([] ++ ll ++ [(turnS l w b).1]) := by
    rw [List.nil_append, chain_snoc, chain_snoc]
    obtain ⟨k, hk, h0, h1, e⟩ := turn_cases hw0 hb0 f3
    obtain ⟨g1, g2, g3, g4⟩ := turn_ok h0 hb0
    have e2 : lenL (turnS l w b).1 = (lenL l).set (k + 1) (turnI (l.getD k 0) b) := by
      unfold lenL; rw [t2, e, List.set_cons_succ]
    have eg : (lenL l).getD (k + 1) 0 = l.getD k 0 := rfl
    rw [e2]
    exact next_turn _ (by unfold lenL; simp; omega) (by rw [eg]; exact h0) g1 (by rw [eg]; exact g3) (by rw [eg]; exact g4)
  exact ⟨(by first | rfl | trivial), by omega, by simp, by omega, o1, (by first | rfl | trivial), by omega, by simp, by omega, o2, by rw [bne_iff_ne.2 hne]; rfl⟩
theorem p_DOne (l : List Int) (w b : Int) (hb : bytesB l) (hw0 : 0 ≤ w) (hw1 : w ≤ 65535) (hb0 : 0 ≤ b) (hb1 : b ≤ 255) : P_DOne l w b := by
  refine fun _ _ => ⟨fun _ => (by first | rfl | trivial), fun hc => ?_⟩
  simp only [Bool.or_eq_false_iff, decide_eq_false_iff_not, beq_eq_false_iff_ne, ne_eq] at hc
  obtain ⟨h0, h5⟩ := hc
  have h0' : l.length ≠ 0 := by omega
  simp only [Nat.zero_add, List.nil_append, d0U]
  have hp : (0 : Int) < l.length := Int.natCast_pos.2 (Nat.pos_of_ne_zero h0')
  have hlt : Int.tmod w l.length < l.length := Int.tmod_lt_of_pos _ hp
  have hge : 0 ≤ Int.tmod w l.length := Int.tmod_nonneg _ hw0
  have hk : (Int.tmod w l.length).toNat < l.length := by omega
  have hu := hb _ (memDg 0 hk)
  obtain ⟨x1, x2⟩ := xor_u8 hu ⟨hb0, hb1⟩
  obtain ⟨e1, e2⟩ := set_split hk (xorW .u8 (l.getD (Int.tmod w l.length).toNat 0) b)
  have hls : l.length = (l.set (Int.tmod w l.length).toNat (xorW .u8 (l.getD (Int.tmod w l.length).toNat 0) b)).length := by simp
  have hs : ((sumS l == sumS (l.set (Int.tmod w l.length).toNat (xorW .u8 (l.getD (Int.tmod w l.length).toNat 0) b))) == (b == 0)) = true := by
    have h1 : (sumS l = sumS (l.set (Int.tmod w l.length).toNat (xorW .u8 (l.getD (Int.tmod w l.length).toNat 0) b))) ↔ l.getD (Int.tmod w l.length).toNat 0 = xorW .u8 (l.getD (Int.tmod w l.length).toNat 0) b := by
      have h2 := sum_one (p := l.take (Int.tmod w l.length).toNat) (s := l.drop ((Int.tmod w l.length).toNat + 1)) (u := l.getD (Int.tmod w l.length).toNat 0) (v := xorW .u8 (l.getD (Int.tmod w l.length).toNat 0) b) (by omega) x1
      rw [← e1, ← e2] at h2
      exact h2
    rw [beq_iff_eq]
    by_cases hb2 : b = 0
    · rw [beq_iff_eq.2 (h1.2 (x2.2 hb2)), beq_iff_eq.2 hb2]
    · rw [beq_eq_false_iff_ne.2 fun e => hb2 (x2.1 (h1.1 e)), beq_eq_false_iff_ne.2 hb2]
  exact ⟨(by first | rfl | trivial), by omega, by unfold InI64; omega, fun _ => ⟨by omega, hge, hlt, (by first | rfl | trivial), (by first | rfl | trivial), hk, hge, hlt, (by first | rfl | trivial), (by first | rfl | trivial), hk, fun _ => ⟨hls, (by first | rfl | trivial)⟩, by rw [Bool.true_and]; exact hs⟩⟩

end Go.Proofs.YtiejdafjjneaeaaDoor
