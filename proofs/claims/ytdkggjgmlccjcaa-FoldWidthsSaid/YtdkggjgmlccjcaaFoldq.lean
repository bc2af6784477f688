/- The plain proofs. Written by a program (wip/tools/gen.py). -/
import Derived.Test.YtdkggjgmlccjcaaFoldp
import Derived.Test.YtdkggjgmlccjcaaFq
namespace Go.Proofs.Ytdkggjgmlccjcaa
open Go.Sy Go.RatLaw
set_option linter.unusedVariables false
set_option linter.unusedSimpArgs false
theorem d0M : (MT.d0 : MT.T) = ms0 := rfl
theorem d0K : (KT.d0 : KT.T) = bk0 := rfl
theorem d0I : ((Ty.ti .i64).d0 : (Ty.ti .i64).T) = (0 : Int) := rfl
theorem tn (x : Nat) : ((x : Int)).toNat = x := Int.toNat_natCast x
theorem wr_nat {x : Nat} (h : (x : Int) + 1 ≤ 9223372036854775807) : IntKind.i64.wrap ((x : Int) + 1) = ((x + 1 : Nat) : Int) := by
  rw [wrap_i64 (by unfold InI64; omega)]; omega
theorem p_within (a b c : Int) : P_within a b c := rfl
theorem p_rin (a b c : Int) : P_rin a b c := rfl
theorem p_ofM (b k n d : Int) (l : List Wr) : P_ofM b k n d l := fun _ => ⟨rfl, rfl, rfl, len_dec l⟩
theorem p_isLength (n d : Int) : P_isLength n d := by
  refine ⟨fun h => ?_, fun h => ?_, ?_⟩
  · rw [Bool.and_eq_true] at h
    have := vld_iff.1 h.1
    unfold InI64; omega
  · rw [Bool.and_eq_true, Bool.and_eq_true] at h
    exact (vld_bd h.1.1).2.2.1
  · have key : (vld n d = true ∧ n > 0 ∧ n ≤ 24 * d ∧ Int.tmod 1680 d = 0) ↔ (1 ≤ tks n d ∧ tks n d ≤ 40320) := by
      constructor
      · rintro ⟨v, h1, h2, h3⟩
        have hs : sdur n d = true := by unfold sdur; rw [v, h3]; rfl
        have hd := sdur_dur hs (by omega)
        obtain ⟨_, hpos, e⟩ := sdur_spec hs
        rw [tks_dur hd]
        have hz := (tk_sign hs).2
        have h0 := (dur_spec hd).2.2.2.2.2
        refine ⟨by omega, ?_⟩
        have : tk n d * d ≤ 40320 * d := by rw [e]; omega
        exact Int.le_of_mul_le_mul_right this hpos
      · rintro ⟨h1, h2⟩
        have hd := tks_nonneg.1 (show 0 ≤ tks n d by omega)
        rw [tks_dur hd] at h1 h2
        have hs := dur_sdur hd
        obtain ⟨v, hpos, e⟩ := sdur_spec hs
        have hz := (tk_sign hs).2
        have h0 := (dur_spec hd).2.1
        have h3 : Int.tmod 1680 d = 0 := by
          unfold sdur at hs; rw [Bool.and_eq_true] at hs; simpa using hs.2
        have : tk n d * d ≤ 40320 * d := Int.mul_le_mul_of_nonneg_right h2 (by omega)
        exact ⟨v, by omega, by omega, h3⟩
    unfold lenB
    rw [Bool.eq_iff_iff]
    simp only [Bool.and_eq_true, decide_eq_true_eq, beq_iff_eq]
    rw [← key]
    simp only [and_assoc]
theorem okM_eq (m : Ms) : okM m = (lenB m.2.2.1.1 m.2.2.1.2 && (decide (-7 ≤ m.2.1) && decide (m.2.1 ≤ 7))) := by
  unfold okM; rw [Bool.eq_iff_iff]; simp
theorem p_folds (p : Int) (ms : List Ms) : P_folds p ms := by
  intro hlen
  refine ⟨fun h => ?_, fun h _ => ⟨⟨0, ⟨Nat.zero_le _, fun m hm => by simp at hm⟩, rfl, rfl⟩, fun x ⟨hx, hok⟩ => ⟨fun hlt => ?_, fun hge => ?_⟩⟩⟩
  · rw [eq_comm, Bool.eq_false_iff]; intro hv
    have := (viewB_iff.1 hv).1
    have := of_decide_eq_true h; omega
  · have hlt' : x < ms.length := by have := of_decide_eq_true hlt; omega
    rw [d0M, tn]
    refine ⟨by omega, by omega, fun hl => ⟨fun hb => viewB_bad hlt' ?_, fun hb => ⟨x + 1, ⟨hlt', ok_next hlt' hok ?_⟩, by omega, wr_nat (by omega), (nsW_take hlt').symm, rfl, rfl, rfl, rfl, rfl, rfl, rfl⟩⟩⟩
    · rw [okM_eq, ← Bool.not_eq_true', Bool.not_and]; exact hb
    · rw [okM_eq]
      rw [← Bool.not_and] at hb
      simpa only [Bool.not_eq_false'] using hb
  · have hx' : x = ms.length := by have := of_decide_eq_false hge; omega
    subst hx'
    rw [List.take_length] at hok ⊢
    have := of_decide_eq_false h
    rw [Bool.eq_iff_iff, viewB_iff, decide_eq_true_iff]
    exact ⟨fun h => ⟨by omega, hok, h⟩, fun h => h.2.2⟩
theorem lenB_eq (n d : Int) : lenB n d = (decide (1 ≤ tks n d) && decide (tks n d ≤ 40320)) := by unfold lenB; rw [Bool.eq_iff_iff]; simp
theorem p_rView (p : Int) (ms : List Ms) : P_rView p ms := by
  intro hlen
  refine ⟨fun h => ?_, fun h => ⟨⟨0, ⟨Nat.zero_le _, fun m hm => by simp at hm⟩, rfl, rfl⟩, fun x ⟨hx, hok⟩ _ => ⟨fun hlt => ?_, fun hge => ?_⟩⟩⟩
  · rw [eq_comm, Bool.eq_false_iff]; intro hv
    have := (viewB_iff.1 hv).1
    have := of_decide_eq_true h; omega
  · have hlt' : x < ms.length := by have := of_decide_eq_true hlt; omega
    rw [d0M, tn]
    refine ⟨by omega, by omega, fun hl => ⟨fun hb => viewB_bad hlt' ?_, fun hb => ⟨x + 1, ⟨hlt', ok_next hlt' hok ?_⟩, by omega, wr_nat (by omega), (nsW_take hlt').symm, rfl, rfl, rfl, rfl, rfl⟩⟩⟩
    · rw [okM_eq, lenB_eq, ← Bool.not_eq_true', Bool.not_and]; exact hb
    · rw [okM_eq, lenB_eq]
      rw [← Bool.not_and] at hb
      simpa only [Bool.not_eq_false'] using hb
  · have hx' : x = ms.length := by have := of_decide_eq_false hge; omega
    subst hx'
    rw [List.take_length] at hok ⊢
    have := of_decide_eq_false h
    rw [Bool.eq_iff_iff, viewB_iff, decide_eq_true_iff]
    exact ⟨fun h => ⟨by omega, hok, h⟩, fun h => h.2.2⟩
theorem p_fewV (p : Int) (ms : List Ms) : P_fewV p ms := by
  refine ⟨⟨0, ⟨Nat.zero_le _, by omega⟩, rfl, rfl⟩, fun x ⟨hx, hx2⟩ hlen => ⟨fun hlt => ?_, fun hge _ => ?_⟩⟩
  · simp only [Bool.and_eq_true, decide_eq_true_eq] at hlt
    have hlt' : x < ms.length := by omega
    rw [d0M, tn]
    exact ⟨by omega, by omega, fun hl => ⟨x + 1, ⟨hlt', by omega⟩, by omega, wr_nat (by omega), (nsW_take hlt').symm, rfl, rfl, rfl, rfl, rfl⟩⟩
  · have e : ms.take x = ms.take 100 := by
      simp only [Bool.and_eq_false_iff, decide_eq_false_iff_not] at hge
      by_cases h : x = 100
      · rw [h]
      · rw [List.take_of_length_le (by omega), List.take_of_length_le (by omega)]
    rw [e]
    unfold fewB
    congr 1
    rw [decide_eq_decide]; omega
theorem p_bend (f r : Int) (h : InI64 (endB (f, r))) : P_bend f r := ⟨h, rfl⟩
theorem p_rEnd (f r : Int) (h : InI64 (endB (f, r))) : P_rEnd f r := ⟨h, rfl⟩
theorem end_in {b : Bk} (h1 : -1000000000 ≤ b.1) (h2 : b.1 ≤ 4000) (h3 : b.2 ≤ 4000) : InI64 (endB b) := by unfold endB InI64; split <;> omega
theorem blk_bad {l : List Bk} {x : Nat} (h : x < l.length) (he : blkB l = blkFrom (lastB l x) (l.drop x)) (hb : blk1 (lastB l x) (l.getD x bk0) = false) : false = blkB l := by
  rw [he, blk_step h, hb]; rfl
theorem blk_good {l : List Bk} {x : Nat} (h : x < l.length) (he : blkB l = blkFrom (lastB l x) (l.drop x)) (hb : blk1 (lastB l x) (l.getD x bk0) = true) : blkB l = blkFrom (lastB l (x + 1)) (l.drop (x + 1)) := by
  rw [he, blk_step h, hb]; rfl
theorem cnd_a (q : Int) (b : Bk) : (!(decide (q ≤ b.1) && decide (b.1 ≤ 4000)) || !(decide (0 ≤ b.2) && decide (b.2 ≤ 4000)) || decide (endB b > 4000)) = !blk1 q b := by
  rw [Bool.eq_iff_iff, Bool.not_eq_true', ← Bool.not_eq_true, blk1_iff]
  simp only [Bool.or_eq_true, Bool.not_eq_true', Bool.and_eq_false_iff, decide_eq_true_eq, decide_eq_false_iff_not]; omega
theorem cnd_r (q : Int) (b : Bk) : (decide (b.1 < q) || !(decide (0 ≤ b.2) && decide (b.2 ≤ 4000)) || decide (b.1 > 4000) || decide (endB b > 4000)) = !blk1 q b := by
  rw [Bool.eq_iff_iff, Bool.not_eq_true', ← Bool.not_eq_true, blk1_iff]
  simp only [Bool.or_eq_true, Bool.not_eq_true', Bool.and_eq_false_iff, decide_eq_true_eq, decide_eq_false_iff_not]; omega
theorem last_next {l : List Bk} {x : Nat} (h0 : 0 ≤ lastB l x) (hb : blk1 (lastB l x) (l.getD x bk0) = true) : 0 ≤ lastB l (x + 1) ∧ lastB l (x + 1) ≤ 4000 := by
  rw [lastB_succ]; have := blk1_iff.1 hb; have := end_ge (l.getD x bk0); omega
theorem pairB (b : Int × Int) : (b.1, b.2) = b := rfl
theorem pairM (b : Ms) : (b.1, (b.2.1, ((b.2.2.1.1, b.2.2.1.2), b.2.2.2))) = b := rfl

theorem p_areBlocks (l : List Bk) : P_areBlocks l := by
  intro hlen
  refine ⟨⟨0, ⟨Nat.zero_le _, (by first | rfl | trivial), by simp [lastB]⟩, (by first | rfl | trivial), by simp [lastB]⟩, fun x ⟨hx, he, h0, h1⟩ => ⟨fun hlt => ?_, fun hge => ?_⟩⟩
  · have hlt' : x < l.length := by have := of_decide_eq_true hlt; omega
    simp only [d0K, tn, pairB, cnd_a]
    refine ⟨by omega, by omega, fun h => ?_, fun h => ?_, fun h => ?_⟩
    · simp only [Bool.or_eq_false_iff, Bool.not_eq_false', Bool.and_eq_true, decide_eq_true_eq] at h
      exact end_in (by omega) (by omega) (by omega)
    · exact blk_bad hlt' he (by simpa using h)
    · have hb : blk1 (lastB l x) (l.getD x bk0) = true := by simpa using h
      have h2 := blk1_iff.1 hb
      exact ⟨end_in (by omega) (by omega) (by omega), by unfold InI64; omega, x + 1, ⟨hlt', blk_good hlt' he hb, last_next h0 hb⟩, by omega, (by first | rfl | trivial), (lastB_succ l x).symm, (by first | rfl | trivial), (by first | rfl | trivial), (by first | rfl | trivial)⟩
  · have hx' : x = l.length := by have := of_decide_eq_false hge; omega
    rw [he, hx', List.drop_length]; rfl
theorem p_rBlocks (l : List Bk) : P_rBlocks l := by
  refine ⟨⟨0, ⟨Nat.zero_le _, (by first | rfl | trivial), by simp [lastB]⟩, (by first | rfl | trivial), by simp [lastB]⟩, fun x ⟨hx, he, h0, h1⟩ hlen => ⟨fun hlt => ?_, fun hge => ?_⟩⟩
  · have hlt' : x < l.length := by have := of_decide_eq_true hlt; omega
    simp only [d0K, tn, pairB, cnd_r]
    refine ⟨by omega, by omega, fun _ => by omega, fun _ => by omega, fun _ => by omega, fun h => ?_, fun h => ?_, fun h => ?_⟩
    · simp only [Bool.or_eq_false_iff, Bool.not_eq_false', Bool.and_eq_true, decide_eq_true_eq, decide_eq_false_iff_not] at h
      exact end_in (by omega) (by omega) (by omega)
    · exact blk_bad hlt' he (by simpa using h)
    · have hb : blk1 (lastB l x) (l.getD x bk0) = true := by simpa using h
      have h2 := blk1_iff.1 hb
      exact ⟨by omega, by omega, end_in (by omega) (by omega) (by omega), by unfold InI64; omega, x + 1, ⟨hlt', blk_good hlt' he hb, last_next h0 hb⟩, by omega, (by first | rfl | trivial), (lastB_succ l x).symm, (by first | rfl | trivial)⟩
  · have hx' : x = l.length := by have := of_decide_eq_false hge; omega
    rw [he, hx', List.drop_length]; rfl
theorem p_hasI (l : List Int) (n : Int) : P_hasI l n := by
  refine ⟨⟨0, ⟨Nat.zero_le _, by simp⟩, (by first | rfl | trivial)⟩, fun x ⟨hx, hn⟩ hlen => ⟨fun hlt => ?_, fun hge => ?_⟩⟩
  · have hlt' : x < l.length := by have := of_decide_eq_true hlt; omega
    simp only [d0I, tn]
    refine ⟨by omega, by omega, fun h => ?_, fun h => ⟨by unfold InI64; omega, x + 1, ⟨hlt', ?_⟩, by omega, (by first | rfl | trivial), (by first | rfl | trivial), (by first | rfl | trivial)⟩⟩
    · have : n ∈ l := by rw [← eq_of_beq h]; exact memD 0 hlt'
      unfold inL; simp [this]
    · rw [takeD 0 hlt']; intro hm
      rcases List.mem_append.1 hm with hm | hm
      · exact hn hm
      · rw [List.mem_singleton.1 hm] at h; simp at h
  · have hx' : x = l.length := by have := of_decide_eq_false hge; omega
    rw [hx', List.take_length] at hn
    unfold inL; simp [hn]
theorem p_joins (b k n d : Int) (l : List Wr) (b' k' n' d' : Int) (l' : List Wr) : P_joins b k n d l b' k' n' d' l' := fun _ _ => by
  unfold joinsB notesM; rw [len_dec, len_dec]
theorem p_wrong (n q : Int) (ms : List Ms) : P_wrong n q ms := fun h => ⟨by unfold InI64; omega, (by first | rfl | trivial), (by first | rfl | trivial), (by first | rfl | trivial)⟩
theorem p_idxI (l : List Int) (q : Int) (ms : List Ms) : P_idxI l q ms := by
  intro hlen
  refine ⟨⟨0, ⟨Nat.zero_le _, fun k hk => absurd hk (Nat.not_lt_zero _)⟩, (by first | rfl | trivial)⟩, fun x ⟨hx, hn⟩ => ⟨fun hlt => ?_, fun hge => ?_⟩⟩
  · have hlt' : x < l.length := by have := of_decide_eq_true hlt; omega
    simp only [d0I, tn]
    refine ⟨by omega, by omega, fun h => ⟨(idx_some 0 hlt' hn h).symm, (by first | rfl | trivial), (by first | rfl | trivial)⟩, fun h => ⟨by unfold InI64; omega, x + 1, ⟨hlt', fun k hk => ?_⟩, by omega, (by first | rfl | trivial), (by first | rfl | trivial), (by first | rfl | trivial), (by first | rfl | trivial), (by first | rfl | trivial), (by first | rfl | trivial)⟩⟩
    rcases Nat.lt_succ_iff_lt_or_eq.1 hk with hk | hk
    · exact hn k hk
    · rw [hk]; exact h
  · have hx' : x = l.length := by have := of_decide_eq_false hge; omega
    exact ⟨(idx_none 0 (fun k hk => hn k (by omega))).symm, (by first | rfl | trivial), (by first | rfl | trivial)⟩
theorem p_conI (l : List Int) (q : Int) (ms : List Ms) : P_conI l q ms := ⟨idx_any _ _, (by first | rfl | trivial), (by first | rfl | trivial)⟩
theorem len_pos {α : Type} (l : List α) : decide ((l.length : Int) > 0) = !l.isEmpty := by cases l <;> simp <;> omega
theorem p_sounds (b k n d : Int) (l : List Wr) : P_sounds b k n d l := fun _ => len_pos l
theorem p_idxM (l : List Ms) : P_idxM l := by
  intro hlen
  refine ⟨⟨0, ⟨Nat.zero_le _, fun k hk => absurd hk (Nat.not_lt_zero _)⟩, (by first | rfl | trivial)⟩, fun x ⟨hx, hn⟩ => ⟨fun hlt => ?_, fun hge => ?_⟩⟩
  · have hlt' : x < l.length := by have := of_decide_eq_true hlt; omega
    simp only [d0M, tn, pairM]
    refine ⟨by omega, by omega, fun h => (idx_some ms0 hlt' hn h).symm, fun h => ⟨by unfold InI64; omega, x + 1, ⟨hlt', fun k hk => ?_⟩, by omega, (by first | rfl | trivial), (by first | rfl | trivial), (by first | rfl | trivial), (by first | rfl | trivial)⟩⟩
    rcases Nat.lt_succ_iff_lt_or_eq.1 hk with hk | hk
    · exact hn k hk
    · rw [hk]; exact h
  · have hx' : x = l.length := by have := of_decide_eq_false hge; omega
    exact (idx_none ms0 (fun k hk => hn k (by omega))).symm
theorem p_conM (l : List Ms) : P_conM l := idx_any _ _
theorem len_ne {α : Type} {l m : List α} (h : ((l.length : Int) != m.length) = true) : ¬ l = m := by
  intro e; rw [e] at h; simp at h
theorem len_eq {α : Type} {l m : List α} (h : ((l.length : Int) != m.length) = false) : l.length = m.length := by
  simp only [bne_eq_false_iff_eq] at h; omega
theorem at_ne {α : Type} {l m : List α} (d : α) {x : Nat} (h : ¬ l.getD x d = m.getD x d) : ¬ l = m := fun e => h (by rw [e])
theorem p_same (l m : List Bk) : P_same l m := by
  refine fun hl hm => ⟨fun h => by unfold sameL; simp [len_ne h], fun h => ⟨⟨0, ⟨Nat.zero_le _, (by first | rfl | trivial)⟩, (by first | rfl | trivial)⟩, fun x ⟨hx, ht⟩ _ => ⟨fun hlt => ?_, fun hge => ?_⟩⟩⟩
  · have hlt' : x < l.length := by have := of_decide_eq_true hlt; omega
    have he := len_eq h
    simp only [d0K, tn]
    refine ⟨by omega, by omega, by omega, by omega, fun hn => ?_, fun hn => ⟨by unfold InI64; omega, x + 1, ⟨hlt', ?_⟩, by omega, (by first | rfl | trivial), (by first | rfl | trivial), (by first | rfl | trivial), (by first | rfl | trivial)⟩⟩
    · have : ¬ l = m := at_ne bk0 (x := x) (fun e => by rw [e] at hn; simp at hn)
      unfold sameL; simp [this]
    · simp only [Bool.not_eq_false', Bool.and_eq_true, beq_iff_eq] at hn
      exact same_at bk0 he hlt' ht (Prod.ext hn.1 hn.2)
  · have hx' : x = l.length := by have := of_decide_eq_false hge; omega
    have he := len_eq h
    rw [hx', List.take_length, he, List.take_length] at ht
    unfold sameL; simp [ht]
theorem p_sameI (l m : List Int) : P_sameI l m := by
  refine fun hl hm => ⟨fun h => by unfold sameIL; simp [len_ne h], fun h => ⟨⟨0, ⟨Nat.zero_le _, (by first | rfl | trivial)⟩, (by first | rfl | trivial)⟩, fun x ⟨hx, ht⟩ _ => ⟨fun hlt => ?_, fun hge => ?_⟩⟩⟩
  · have hlt' : x < l.length := by have := of_decide_eq_true hlt; omega
    have he := len_eq h
    simp only [d0I, tn]
    refine ⟨by omega, by omega, by omega, by omega, fun hn => ?_, fun hn => ⟨by unfold InI64; omega, x + 1, ⟨hlt', ?_⟩, by omega, (by first | rfl | trivial), (by first | rfl | trivial), (by first | rfl | trivial), (by first | rfl | trivial)⟩⟩
    · have : ¬ l = m := at_ne 0 (x := x) (fun e => by rw [e] at hn; simp at hn)
      unfold sameIL; simp [this]
    · exact same_at 0 he hlt' ht (by simpa using hn)
  · have hx' : x = l.length := by have := of_decide_eq_false hge; omega
    have he := len_eq h
    rw [hx', List.take_length, he, List.take_length] at ht
    unfold sameIL; simp [ht]
theorem p_unfold (l : List Bk) : P_unfold l := by
  refine ⟨fun h => ?_, fun h hlen => ⟨⟨0, Nat.zero_le _, (by first | rfl | trivial), (by first | rfl | trivial), (by first | rfl | trivial)⟩, fun x hx => ⟨fun hlt => ?_, fun hge => ?_⟩⟩⟩
  · have hb : blkB l = false := by simpa using h
    unfold unfoldS; rw [hb]; exact ⟨(by first | rfl | trivial), (by first | rfl | trivial)⟩
  · have hb : blkB l = true := by simpa using h
    have hlt' : x < l.length := by have := of_decide_eq_true hlt; omega
    simp only [d0K, tn, pairB]
    have hbd := blk_all hb (Int.le_refl _) _ (memD bk0 hlt')
    have hpre := unfB_pre hb (x + 1)
    rw [unfB_take hlt', List.length_append] at hpre
    have hsl := @span_len (l.getD x bk0)
    have hge := end_ge (l.getD x bk0)
    refine ⟨by omega, by omega, ⟨0, Nat.zero_le _, by omega, by simp, by simp⟩, fun y hy => ⟨end_in (by omega) (by omega) (by omega), fun hc => ?_, fun hc => ?_⟩⟩
    · have hc' := of_decide_eq_true hc
      have hy' : y < (spanB (l.getD x bk0)).length := by rw [hsl]; omega
      have e : unfB (List.take x l) ++ List.take y (spanB (l.getD x bk0)) ++ [(l.getD x bk0).1 + (y : Int)] = unfB (List.take x l) ++ List.take (y + 1) (spanB (l.getD x bk0)) := by
        rw [List.append_assoc, takeD 0 hy', span_get hy']
      refine ⟨(by first | rfl | trivial), ?_, by unfold InI64; omega, y + 1, hy', by omega, by omega, e, (by first | rfl | trivial), (by first | rfl | trivial), (by first | rfl | trivial), (by first | rfl | trivial), (by first | rfl | trivial), (by first | rfl | trivial), (by first | rfl | trivial), (by first | rfl | trivial), ?_, (by first | rfl | trivial), (by first | rfl | trivial), (by first | rfl | trivial)⟩
      · rw [List.length_append, List.length_take]; omega
      · rw [← e]; simp only [List.length_append, List.length_singleton]
    · have hc' := of_decide_eq_false hc
      have hy' : y = (spanB (l.getD x bk0)).length := by rw [hsl] at hy ⊢; omega
      have e : unfB (List.take x l) ++ List.take y (spanB (l.getD x bk0)) = unfB (List.take (x + 1) l) := by
        rw [hy', List.take_length, unfB_take hlt']
      exact ⟨by unfold InI64; omega, x + 1, hlt', by omega, (by first | rfl | trivial), e, (by first | rfl | trivial), (by first | rfl | trivial), (by first | rfl | trivial), (by first | rfl | trivial), (by first | rfl | trivial), (by first | rfl | trivial), by rw [e], (by first | rfl | trivial)⟩
  · have hb : blkB l = true := by simpa using h
    have hx' : x = l.length := by have := of_decide_eq_false hge; omega
    unfold unfoldS; rw [hb, hx', List.take_length]; exact ⟨(by first | rfl | trivial), (by first | rfl | trivial)⟩
theorem histB_snoc (l : List Bk) (b : Bk) : histB (l ++ [b]) = histB l ++ [(b, ())] := by unfold histB; simp
theorem unH_hist (l : List Bk) : unH (histB l) = l := by
  unfold unH histB; rw [List.map_map]; exact List.map_id l
theorem unH_snoc (l : List (Bk × Unit)) (x : Bk × Unit) : unH (l ++ [x]) = unH l ++ [x.1] := by unfold unH; simp
theorem p_blocks (p : Int) (ms : List Ms) (l : List (Int × Bool)) : P_blocks p ms l := ⟨rfl, rfl, rfl, rfl⟩
theorem take_pre {α : Type} {l a b : List α} (h : l = a ++ b) : a = l.take a.length := by rw [h]; simp
theorem foldTo_pre (ms : List Ms) (stop : Int → Bool) : ∀ (d x : Nat), opensB ms stop x = true ∨ d = 0 → ∃ t, foldTo ms stop (x + d) = foldTo ms stop x ++ t ∧ (0 < d → t ≠ [])
  | 0, x, _ => ⟨[], by simp, fun h => absurd h (by omega)⟩
  | d + 1, x, ho => by
    replace ho : opensB ms stop x = true := ho.resolve_right (by omega)
    obtain ⟨t, e, hne⟩ := foldTo_pre ms stop d x (.inl ho)
    by_cases hd : opensB ms stop (x + d) = true
    · exact ⟨t ++ [_], by rw [← Nat.add_assoc, step_open hd, e, List.append_assoc], fun _ h => by simp at h⟩
    · obtain ⟨b1, b2, b3, b4⟩ := step_join (by simpa using hd)
      have hd0 : 0 < d := by
        rcases Nat.eq_zero_or_pos d with h | h
        · subst h; exact absurd ho hd
        · exact h
      have hne := hne hd0
      refine ⟨t.set (t.length - 1) ((foldTo ms stop (x + d)).getD ((foldTo ms stop (x + d)).length - 1) bk0 |>.1, ((foldTo ms stop (x + d)).getD ((foldTo ms stop (x + d)).length - 1) bk0).2 + 1), ?_, fun _ h => ?_⟩
      · rw [← Nat.add_assoc, foldTo, stepB, if_neg (by rw [b1]; simp), if_pos ⟨b2, b3, b4⟩]
        have hp := List.length_pos_iff.2 hne
        generalize hv : ((foldTo ms stop (x + d)).getD ((foldTo ms stop (x + d)).length - 1) bk0 |>.1, ((foldTo ms stop (x + d)).getD ((foldTo ms stop (x + d)).length - 1) bk0).2 + 1) = v
        rw [e, List.length_append, List.set_append_right _ _ (by omega)]
        congr 2; omega
      · have := congrArg List.length h
        simp at this; exact hne this
theorem p_blocks1 (q : Int) (ms : List Ms) (l : List (Int × Bool)) (go : Lp (Bk × Unit)) (hlen : ms.length ≤ 4000) (hok : ∀ k, go.ok ((histB (foldTo ms (getM l) ms.length)).take k)) (hgo : ∀ h, go h = true) : P_blocks1 q ms l go := by
  intro _
  have hgo' : ∀ h, go.1 h = true := hgo
  have hlive : ∀ x y (b : Bk), x ≤ y → y ≤ ms.length → opensB ms (getM l) x = true → foldTo ms (getM l) y = foldTo ms (getM l) x ++ [b] → (y < ms.length → opensB ms (getM l) y = true) → liveX go (histB (foldTo ms (getM l) x)) (b, ()) := by
    intro x y b hxy hy hox e hoy
    refine ⟨.inr (hgo _), ?_⟩
    show go.ok (histB (foldTo ms (getM l) x) ++ [(b, ())])
    rw [← histB_snoc, ← e]
    have : ∃ t, foldTo ms (getM l) ms.length = foldTo ms (getM l) y ++ t := by
      rcases Nat.lt_or_ge y ms.length with h | h
      · obtain ⟨t, et, _⟩ := foldTo_pre ms (getM l) (ms.length - y) y (.inl (hoy h))
        exact ⟨t, by rw [← et]; congr 1; omega⟩
      · exact ⟨[], by rw [List.append_nil]; congr 1; omega⟩
    obtain ⟨t, et⟩ := this
    have := hok (foldTo ms (getM l) y).length
    rw [et] at this
    unfold histB at this ⊢
    rwa [List.map_append, List.take_append_of_le_length (by simp), List.take_of_length_le (by simp)] at this
  refine ⟨⟨0, ⟨Nat.zero_le _, fun _ => by unfold opensB; simp⟩, rfl, rfl, rfl⟩, fun x ⟨hx, ho⟩ => ⟨fun hlt => ?_, fun hge => ?_⟩⟩
  · have hlt' : x < ms.length := by have := of_decide_eq_true hlt; omega
    have ho := ho hlt'
    simp only [d0M, tn]
    refine ⟨by omega, by omega, fun hr => ?_, fun hr => ?_⟩
    · have hr : (notesM (ms.getD x ms0)).isEmpty = false := by simpa [notesM] using hr
      have e : foldTo ms (getM l) (x + 1) = foldTo ms (getM l) x ++ [((x : Int), 0)] := by rw [step_open ho, hr]; rfl
      have hox : opensB ms (getM l) (x + 1) = true := by
        rw [← Bool.not_eq_false]; intro h
        obtain ⟨_, _, h3, _⟩ := step_join h
        have := (join_iff.1 h3).1
        rw [Nat.add_sub_cancel, hr] at this; cases this
      refine ⟨hlive x (x + 1) _ (by omega) (by omega) ho e fun _ => hox, fun h => ?_, fun h => ⟨by unfold InI64; omega, x + 1, ⟨hlt', fun _ => hox⟩, by omega, (by first | rfl | trivial), (by first | rfl | trivial), ?_, (by first | rfl | trivial), (by first | rfl | trivial), (by first | rfl | trivial), (by first | rfl | trivial)⟩⟩
      · rw [hgo'] at h; cases h
      · rw [e, histB_snoc]
    · have hr : (notesM (ms.getD x ms0)).isEmpty = true := by simpa [notesM] using hr
      refine ⟨by unfold InI64; omega, ⟨x + 1, run_first hlt' ho hr, (by first | rfl | trivial)⟩, fun y hy => ?_⟩
      have hy1 := hy.1
      have hy2 := hy.2.1
      refine ⟨fun h => ?_, fun h => ?_, fun h => ?_⟩
      · have := of_decide_eq_true h; omega
      · simp only [Bool.and_eq_true, beq_iff_eq, decide_eq_true_eq, Bool.not_eq_true'] at h
        obtain ⟨⟨h0, h1, h2, h3, h4⟩, h5⟩ := h
        have hyl : y < ms.length := by omega
        exact ⟨by unfold InI64; omega, y + 1, run_next hy hr hyl (Prod.ext h1 h2) h3 h4 h5, by omega, (by first | rfl | trivial), (by first | rfl | trivial), (by first | rfl | trivial), (by first | rfl | trivial), (by first | rfl | trivial), (by first | rfl | trivial), (by first | rfl | trivial), (by first | rfl | trivial), (by first | rfl | trivial), (by first | rfl | trivial), (by first | rfl | trivial), (by first | rfl | trivial), (by first | rfl | trivial), (by first | rfl | trivial)⟩
      · have e := hy.2.2.1
        have hoy : y < ms.length → opensB ms (getM l) y = true := fun hyl => by
          refine run_end hy hr fun ⟨h1, h2, h3, h4⟩ => ?_
          have h4' : (mget (Ty.ti IntKind.i64).beq ((y : Int) : (Ty.ti IntKind.i64).T) l).getD Ty.tb.d0 = false := h4
          have h3' : List.isEmpty (ms.getD y ms0).snd.snd.snd = List.isEmpty (ms.getD x ms0).snd.snd.snd := h3
          rw [h1, h2, h3', h4'] at h
          have : (y : Int) < ms.length := by omega
          simp [this] at h
        refine ⟨by unfold InI64; omega, hlive x y _ (by omega) hy2 ho e hoy, fun h => ?_, fun h => ⟨y, ⟨hy2, hoy⟩, by omega, (by first | rfl | trivial), (by first | rfl | trivial), ?_, (by first | rfl | trivial), (by first | rfl | trivial), (by first | rfl | trivial), (by first | rfl | trivial)⟩⟩
        · rw [hgo'] at h; cases h
        · rw [e, histB_snoc]
  · have hx' : x = ms.length := by have := of_decide_eq_false hge; omega
    rw [hx']; exact ⟨rfl, rfl, rfl, rfl, rfl⟩
theorem p_fold (p : Int) (ms : List Ms) (st : List Int) : P_fold p ms st := by
  refine ⟨fun h => ?_, fun h hlen => ⟨fun h2 => ?_, fun h2 => ⟨fun h3 => ?_, fun h3 _ => ⟨⟨0, Nat.zero_le _, rfl, rfl⟩, fun x hx => ⟨fun hlt => ?_, fun hge => ?_⟩⟩⟩⟩⟩
  · rw [not_fold ms st (by simpa using h)]; exact ⟨rfl, rfl⟩
  · have h2' := of_decide_eq_true h2
    have : st.length > 4000 := by omega
    have h : viewB ms = true := by simpa using h
    unfold foldS; rw [h, if_neg (by simp), if_pos this]; exact ⟨rfl, rfl⟩
  · have h2' := of_decide_eq_false h2
    have : ¬ st.length > 4000 := by omega
    have h : viewB ms = true := by simpa using h
    unfold foldS; rw [h, if_neg (by simp), if_neg this, if_pos h3]; exact ⟨rfl, rfl⟩
  · have hlt' : x < st.length := by have := of_decide_eq_true hlt; omega
    simp only [d0I, tn]
    exact ⟨by omega, by omega, by unfold InI64; omega, x + 1, hlt', by omega, (by first | rfl | trivial), (by first | rfl | trivial), (by first | rfl | trivial), (by first | rfl | trivial), (by first | rfl | trivial), (by first | rfl | trivial), (by first | rfl | trivial), (by first | rfl | trivial), (by first | rfl | trivial), (by first | rfl | trivial), (by first | rfl | trivial), (by first | rfl | trivial), by rw [takeD 0 hlt', stopsM_snoc], (by first | rfl | trivial), (by first | rfl | trivial), (by first | rfl | trivial)⟩
  · have hx' : x = st.length := by have := of_decide_eq_false hge; omega
    have h2' := of_decide_eq_false h2
    have h2n : ¬ st.length > 4000 := by omega
    have h : viewB ms = true := by simpa using h
    have hl := (viewB_iff.1 h).1
    rw [hx', List.take_length]
    refine ⟨⟨hl, fun k => ?_, fun _ => rfl⟩, (by first | rfl | trivial), trivial, ⟨(by first | rfl | trivial), (by first | rfl | trivial)⟩, fun hist _ z hz => ?_, fun _ => ⟨fun _ => ?_, trivial⟩⟩
    · rw [List.length_take]
      have := foldTo_len ms (getM (stopsM st)) ms.length
      unfold histB; rw [List.length_map]; omega
    · have : (hist ++ [z]).length ≤ 4000 := hz.2
      rw [List.length_append, List.length_singleton] at this
      exact ⟨by unfold unH; simp, by omega, (by first | rfl | trivial), trivial, (unH_snoc _ _).symm, by simp, (by first | rfl | trivial), (by first | rfl | trivial), (by first | rfl | trivial)⟩
    · rw [unH_hist, getM_stops]
      unfold foldS; rw [h, if_neg (by simp), if_neg h2n, if_neg (by rw [h3]; simp)]
      exact ⟨rfl, rfl⟩
theorem d0W : (WT.d0 : WT.T) = wr0 := rfl

theorem p_rUnfold (l : List Bk) : P_rUnfold l := by
  refine ⟨fun h => ?_, fun h => ⟨⟨0, Nat.zero_le _, rfl, rfl, rfl⟩, fun x hx hlen => ⟨fun hlt => ?_, fun hge => ?_⟩⟩⟩
  · have hb : blkB l = false := by simpa using h
    unfold unfoldS; rw [hb]; exact ⟨rfl, rfl⟩
  · have hb : blkB l = true := by simpa using h
    have hlt' : x < l.length := by have := of_decide_eq_true hlt; omega
    simp only [d0K, tn, pairB]
    have hbd := blk_all hb (Int.le_refl _) _ (memD bk0 hlt')
    have hpre := unfB_pre hb (x + 1)
    rw [unfB_take hlt', List.length_append] at hpre
    have hsl := @span_len (l.getD x bk0)
    have hge := end_ge (l.getD x bk0)
    refine ⟨by omega, by omega, ⟨0, Nat.zero_le _, by omega, by simp, by simp⟩, fun y hy => ⟨by omega, by omega, end_in (by omega) (by omega) (by omega), fun hc => ?_, fun hc => ?_⟩⟩
    · have hc' := of_decide_eq_true hc
      have hy' : y < (spanB (l.getD x bk0)).length := by rw [hsl]; omega
      have e : unfB (List.take x l) ++ List.take y (spanB (l.getD x bk0)) ++ [(l.getD x bk0).1 + (y : Int)] = unfB (List.take x l) ++ List.take (y + 1) (spanB (l.getD x bk0)) := by
        rw [List.append_assoc, takeD 0 hy', span_get hy']
      have e2 : (unfB (List.take x l) ++ List.take y (spanB (l.getD x bk0))).length + (0 + 1) = (unfB (List.take x l) ++ List.take (y + 1) (spanB (l.getD x bk0))).length := by
        rw [← e]; simp only [List.length_append, List.length_singleton]
      refine ⟨(by first | rfl | trivial), ?_, by unfold InI64; omega, y + 1, hy', by omega, by omega, e, by (repeat' (first | rfl | trivial | apply And.intro))⟩
      · rw [List.length_append, List.length_take]; omega
    · have hc' := of_decide_eq_false hc
      have hy' : y = (spanB (l.getD x bk0)).length := by rw [hsl] at hy ⊢; omega
      have e : unfB (List.take x l) ++ List.take y (spanB (l.getD x bk0)) = unfB (List.take (x + 1) l) := by
        rw [hy', List.take_length, unfB_take hlt']
      have e2 : (unfB (List.take x l) ++ List.take y (spanB (l.getD x bk0))).length = (unfB (List.take (x + 1) l)).length := by rw [e]
      exact ⟨by unfold InI64; omega, x + 1, hlt', by omega, (by first | rfl | trivial), e, by (repeat' (first | rfl | trivial | apply And.intro))⟩
  · have hb : blkB l = true := by simpa using h
    have hx' : x = l.length := by have := of_decide_eq_false hge; omega
    unfold unfoldS; rw [hb, hx', List.take_length]; exact ⟨rfl, rfl⟩
theorem p_width (b k n d : Int) (l : List Wr) : P_width b k n d l := by
  intro hlen
  refine ⟨⟨0, Nat.zero_le _, rfl, rfl⟩, fun x hx => ⟨fun hlt => ?_, fun hge => ?_⟩⟩
  · have hlt' : x < l.length := by have := of_decide_eq_true hlt; omega
    simp only [d0W, tn]
    have e := distM_snoc (startsW (l.take x)) (startW (l.getD x wr0))
    rw [← startsW_take hlt'] at e
    exact ⟨by omega, by omega, x + 1, hlt', by omega, wr_nat (by omega), (by first | rfl | trivial), (by first | rfl | trivial), (by first | rfl | trivial), (by first | rfl | trivial), (by first | rfl | trivial), (by first | rfl | trivial), (by first | rfl | trivial), (by first | rfl | trivial), e.symm, by (repeat' (first | rfl | trivial | apply And.intro))⟩
  · have hx' : x = l.length := by have := of_decide_eq_false hge; omega
    rw [hx', List.take_length, distM_len]; rfl
theorem p_starts (l : List Wr) : P_starts l := by
  refine ⟨⟨0, Nat.zero_le _, rfl, rfl⟩, fun x hx hlen => ⟨fun hlt => ?_, fun hge => ?_⟩⟩
  · have hlt' : x < l.length := by have := of_decide_eq_true hlt; omega
    simp only [d0W, tn]
    have hdl := dist_len (startsW (l.take x))
    have hsl : (startsW (l.take x)).length = x := by unfold startsW; rw [List.length_map, List.length_take]; omega
    refine ⟨⟨0, Nat.zero_le _, (by first | rfl | trivial), by simp [startsW]⟩, fun y hy => ⟨fun hc => ?_, fun hc => ⟨fun hn => ?_, fun hn => ?_⟩⟩⟩
    · have hc' : y < x := by have := of_decide_eq_true hc; omega
      have hyl : y < l.length := by omega
      refine ⟨by omega, by omega, by omega, by omega, fun he => ⟨by unfold InI64; omega, y + 1, hc', by omega, (by first | rfl | trivial), ?_, by (repeat' (first | rfl | trivial | apply And.intro))⟩, fun he => ⟨by unfold InI64; omega, y + 1, hc', by omega, (by first | rfl | trivial), ?_, by (repeat' (first | rfl | trivial | apply And.intro))⟩⟩
      · rw [Bool.and_eq_true, beq_iff_eq, beq_iff_eq] at he
        have : startW (l.getD x wr0) = startW (l.getD y wr0) := (Prod.ext he.1 he.2).symm
        rw [startsW_take hyl, this]; simp
      · have : ¬ startW (l.getD x wr0) = startW (l.getD y wr0) := fun e => by
          have e1 : (l.getD y wr0).2.2.2.1 = (l.getD x wr0).2.2.2.1 := e.symm
          rw [e1] at he; simp at he
        rw [startsW_take hyl]; simp only [List.mem_append, List.mem_singleton, this, or_false]
    · have hyx : y = x := by have := of_decide_eq_false hc; omega
      subst hyx
      have hm : startW (l.getD y wr0) ∉ dist (startsW (l.take y)) := by rw [mem_dist]; simpa using hn
      refine ⟨by unfold InI64; omega, by unfold InI64; omega, y + 1, hlt', by omega, (by first | rfl | trivial), ?_, by (repeat' (first | rfl | trivial | apply And.intro))⟩
      rw [startsW_take hlt', dist_snoc, if_neg hm, List.length_append]; simp
    · have hyx : y = x := by have := of_decide_eq_false hc; omega
      subst hyx
      have hm : startW (l.getD y wr0) ∈ dist (startsW (l.take y)) := by rw [mem_dist]; simpa using hn
      refine ⟨by unfold InI64; omega, y + 1, hlt', by omega, (by first | rfl | trivial), ?_, by (repeat' (first | rfl | trivial | apply And.intro))⟩
      rw [startsW_take hlt', dist_snoc, if_pos hm]
  · have hx' : x = l.length := by have := of_decide_eq_false hge; omega
    rw [hx', List.take_length]
theorem p_widths (p : Int) (ms : List Ms) (l : List Bk) : P_widths p ms l := by
  refine ⟨fun h => ?_, fun h hlen => ⟨⟨0, ⟨Nat.zero_le _, rfl⟩, rfl, rfl, rfl⟩, fun x ⟨hx, ha⟩ => ⟨fun hlt => ?_, fun hge => ?_⟩⟩⟩
  · rw [wid_none h]; exact ⟨rfl, rfl⟩
  · have hlt' : x < l.length := by have := of_decide_eq_true hlt; omega
    have hb : blkB l = true := by have := (Bool.or_eq_false_iff.1 h).2; simpa using this
    have hbd := blk_all hb (Int.le_refl _) _ (memD bk0 hlt')
    have hl4 := blk_len hb (by omega)
    have hge := end_ge (l.getD x bk0)
    have e := @wid_map ms l x hlt'
    have hml : ((l.take x).map (widB ms)).length = x := by rw [List.length_map, List.length_take]; omega
    have e2 : ((l.take x).map (widB ms)).length + (0 + 1) = ((l.take (x + 1)).map (widB ms)).length := by rw [e]; simp
    have hI : InI64 (endB (l.getD x bk0)) := end_in (by omega) (by omega) (by omega)
    simp only [d0K, d0M, tn, pairB, wid_cnd]
    refine ⟨by omega, by omega, hI, fun _ => hI, fun hc => ?_, fun hms => ⟨fun hw => ?_, fun hw => ?_⟩⟩
    · have := of_decide_eq_false hc.2; exact ⟨by omega, by omega, by omega⟩
    · rw [wid_bad hlt' (by simpa using hw)]; exact ⟨(by first | rfl | trivial), (by first | rfl | trivial)⟩
    · have hw : widOk ms (l.getD x bk0) = true := by simpa using hw
      have hwe : endB (l.getD x bk0) ≤ ms.length := by unfold widOk at hw; rw [Bool.and_eq_true] at hw; exact of_decide_eq_true hw.1
      have hn := wid_next hlt' ha hw
      refine ⟨fun hz => ⟨by omega, by omega, (by first | rfl | trivial), by omega, by unfold InI64; omega, x + 1, ⟨hlt', hn⟩, by omega, (by first | rfl | trivial), ?_, by (repeat' (first | rfl | trivial | apply And.intro))⟩, fun hz => ⟨fun hz2 => ⟨(by first | rfl | trivial), by omega, by unfold InI64; omega, x + 1, ⟨hlt', hn⟩, by omega, (by first | rfl | trivial), ?_, by (repeat' (first | rfl | trivial | apply And.intro))⟩, fun hz2 => ⟨(by first | rfl | trivial), by omega, by unfold InI64; omega, x + 1, ⟨hlt', hn⟩, by omega, (by first | rfl | trivial), ?_, by (repeat' (first | rfl | trivial | apply And.intro))⟩⟩⟩
      · have hz : (l.getD x bk0).2 = 0 := by simpa using hz
        rw [e]; unfold widB atM; rw [hz]; rfl
      · have hz : (l.getD x bk0).2 = 1 := by simpa using hz2
        rw [e]; unfold widB; rw [hz]; rfl
      · have hz : ¬ (l.getD x bk0).2 = 0 := by simpa using hz
        have hz2 : ¬ (l.getD x bk0).2 = 1 := by simpa using hz2
        rw [e]; unfold widB; rw [if_pos (by omega)]
  · have hx' : x = l.length := by have := of_decide_eq_false hge; omega
    rw [hx', List.take_length] at ha ⊢
    rw [wid_done h ha]; exact ⟨rfl, rfl⟩
theorem p_rWidths (p : Int) (ms : List Ms) (l : List Bk) : P_rWidths p ms l := by
  refine ⟨fun h => ?_, fun h => ⟨⟨0, ⟨Nat.zero_le _, rfl⟩, rfl, rfl, rfl⟩, fun x ⟨hx, ha⟩ hlen => ⟨fun hlt => ?_, fun hge => ?_⟩⟩⟩
  · rw [wid_none h]; exact ⟨rfl, rfl⟩
  · have hlt' : x < l.length := by have := of_decide_eq_true hlt; omega
    have hb : blkB l = true := by have := (Bool.or_eq_false_iff.1 h).2; simpa using this
    have hbd := blk_all hb (Int.le_refl _) _ (memD bk0 hlt')
    have hl4 := blk_len hb (by omega)
    have hge := end_ge (l.getD x bk0)
    have e := @wid_map ms l x hlt'
    have hml : ((l.take x).map (widB ms)).length = x := by rw [List.length_map, List.length_take]; omega
    have e2 : ((l.take x).map (widB ms)).length + (0 + 1) = ((l.take (x + 1)).map (widB ms)).length := by rw [e]; simp
    have hI : InI64 (endB (l.getD x bk0)) := end_in (by omega) (by omega) (by omega)
    have hsl := @span_len (l.getD x bk0)
    simp only [d0K, d0M, tn, pairB]
    refine ⟨by omega, by omega, hI, fun hms => ⟨fun hc => ?_, fun hc => ?_⟩⟩
    · have hc' := of_decide_eq_true hc
      have : widOk ms (l.getD x bk0) = false := by
        unfold widOk; rw [Bool.and_eq_false_iff]; left; exact decide_eq_false (by omega)
      rw [wid_bad hlt' this]; exact ⟨(by first | rfl | trivial), (by first | rfl | trivial)⟩
    · have hc' := of_decide_eq_false hc
      refine ⟨by omega, by omega, ⟨0, ⟨Nat.zero_le _, fun j hj => absurd hj (Nat.not_lt_zero _)⟩, by omega⟩, fun y ⟨hy, hno⟩ => ⟨by omega, by omega, hI, fun hd => ?_, fun hd => ?_⟩⟩
      · have hd' := of_decide_eq_true hd
        have ht : ((l.getD x bk0).1 + (y : Int)).toNat = (l.getD x bk0).1.toNat + y := by omega
        simp only [ht, len_pos]
        refine ⟨by omega, by omega, fun _ => ⟨by omega, by omega⟩, fun _ => ⟨fun hs => ?_, fun hs => ⟨y + 1, ⟨by omega, fun j hj => ?_⟩, by omega, ?_, by (repeat' (first | rfl | trivial | apply And.intro))⟩⟩⟩
        · rw [Bool.and_eq_true] at hs
          rw [wid_bad hlt' (sound_bad (y := y) (by omega) (by omega) (of_decide_eq_true hs.1) hs.2 (by omega))]; exact ⟨(by first | rfl | trivial), (by first | rfl | trivial)⟩
        · rcases Nat.lt_succ_iff_lt_or_eq.1 hj with hj | hj
          · exact hno j hj
          · rw [hj]; rintro ⟨q1, q2⟩
            have q2 : (!List.isEmpty (ms.getD ((l.getD x bk0).1.toNat + y) ms0).2.2.2) = true := q2
            rw [q2, decide_eq_true q1] at hs; cases hs
        · rw [wrap_i64 (by unfold InI64; omega)]; omega
      · have hd' := of_decide_eq_false hd
        have hw : widOk ms (l.getD x bk0) = true := sound_ok (by omega) (by omega) fun j hj => hno j (by omega)
        have hn := wid_next hlt' ha hw
        refine ⟨by omega, by omega, fun hz => ⟨(by first | rfl | trivial), by omega, x + 1, ⟨hlt', hn⟩, by omega, wr_nat (by omega), ?_, by (repeat' (first | rfl | trivial | apply And.intro))⟩, fun hz => ⟨by omega, by omega, fun hz2 => ⟨(by first | rfl | trivial), by omega, x + 1, ⟨hlt', hn⟩, by omega, wr_nat (by omega), ?_, by (repeat' (first | rfl | trivial | apply And.intro))⟩, fun hz2 => ⟨by omega, by omega, by omega, by omega, (by first | rfl | trivial), by omega, x + 1, ⟨hlt', hn⟩, by omega, wr_nat (by omega), ?_, by (repeat' (first | rfl | trivial | apply And.intro))⟩⟩⟩
        · rw [e]; unfold widB; rw [if_pos (of_decide_eq_true hz)]
        · have hz2 : (l.getD x bk0).2 = 1 := by simpa using hz2
          rw [e]; unfold widB; rw [hz2]; rfl
        · have hz := of_decide_eq_false hz
          have hz2 : ¬ (l.getD x bk0).2 = 1 := by simpa using hz2
          rw [e]; unfold widB; rw [if_neg hz, if_neg hz2]; rfl
  · have hx' : x = l.length := by have := of_decide_eq_false hge; omega
    rw [hx', List.take_length] at ha ⊢
    rw [wid_done h ha]; exact ⟨rfl, rfl⟩
theorem p_rFold (p : Int) (ms : List Ms) (st : List Int) : P_rFold p ms st := by
  refine ⟨fun h => ?_, fun h hlen => ⟨fun h2 => ?_, fun h2 => ⟨⟨0, ⟨Nat.zero_le _, fun k hk => absurd hk (Nat.not_lt_zero _)⟩, rfl⟩, fun x ⟨hx, hn⟩ _ => ⟨fun hlt => ?_, fun hge => ?_⟩⟩⟩⟩
  · rw [not_fold ms st (by simpa using h)]; exact ⟨rfl, rfl⟩
  · have h2' := of_decide_eq_true h2
    have : st.length > 4000 := by omega
    have h : viewB ms = true := by simpa using h
    unfold foldS; rw [h, if_neg (by simp), if_pos this]; exact ⟨rfl, rfl⟩
  · have hlt' : x < st.length := by have := of_decide_eq_true hlt; omega
    simp only [d0I, tn]
    have h2' := of_decide_eq_false h2
    have hn2 : ¬ st.length > 4000 := by omega
    have h : viewB ms = true := by simpa using h
    have hl := (viewB_iff.1 h).1
    refine ⟨by omega, by omega, by unfold InI64; omega, fun _ => ⟨fun hw => ?_, fun hw => ⟨by unfold InI64; omega, x + 1, ⟨hlt', fun k hk => ?_⟩, by omega, (by first | rfl | trivial), by (repeat' (first | rfl | trivial | apply And.intro))⟩⟩⟩
    · have : st.any (wrongS ms) = true := any_one 0 hlt' hw
      unfold foldS; rw [h, if_neg (by simp), if_neg hn2, if_pos this]; exact ⟨(by first | rfl | trivial), (by first | rfl | trivial)⟩
    · rcases Nat.lt_succ_iff_lt_or_eq.1 hk with hk | hk
      · exact hn k hk
      · rw [hk]; exact hw
  · have hx' : x = st.length := by have := of_decide_eq_false hge; omega
    have h2' := of_decide_eq_false h2
    have hn2 : ¬ st.length > 4000 := by omega
    have h : viewB ms = true := by simpa using h
    have hl := (viewB_iff.1 h).1
    have hany : st.any (wrongS ms) = false := any_all 0 fun k hk => hn k (by omega)
    refine ⟨⟨0, Nat.zero_le _, rfl, rfl, rfl⟩, fun y hy _ => ⟨fun hc hfl => ?_, fun hc => ?_⟩⟩
    · have hc' : y < ms.length := by have := of_decide_eq_true hc; omega
      have hfl' := foldTo_len ms (inL st) y
      have ht : ((y : Int) - 1).toNat = y - 1 := by omega
      simp only [d0M, d0K, tn, pairM, len_pos, ht]
      refine ⟨by omega, by omega, fun _ => ⟨fun hr => ?_, fun hr => ⟨fun h1 => by have := of_decide_eq_true h1; unfold InI64; omega, fun h1 => by have := of_decide_eq_true h1; omega, fun h1 => by omega, fun hj => ?_, fun hj => ?_⟩⟩⟩
      · have hr : (notesM (ms.getD y ms0)).isEmpty = false := by simpa [notesM] using hr
        have e := step_note (stop := inL st) hr
        have e2 : (foldTo ms (inL st) y).length + (0 + 1) = (foldTo ms (inL st) (y + 1)).length := by rw [e]; simp
        have e' := e.symm
        exact ⟨(by first | rfl | trivial), by omega, by unfold InI64; omega, y + 1, hc', by omega, (by first | rfl | trivial), e2, by (repeat' (first | rfl | trivial | apply And.intro))⟩
      · have hr : (notesM (ms.getD y ms0)).isEmpty = true := by simpa [notesM] using hr
        rw [Bool.and_eq_true, Bool.and_eq_true, Bool.not_eq_true'] at hj
        have hy0 : 0 < y := by have := of_decide_eq_true hj.1.1; omega
        have hp := List.length_pos_iff.2 (foldTo_pos (ms := ms) (stop := inL st) hy0)
        have e := step_more hr hy0 hj.1.2 hj.2
        have ht2 : (((foldTo ms (inL st) y).length : Int) - 1).toNat = (foldTo ms (inL st) y).length - 1 := by omega
        have hre := foldTo_rest (x := y) _ (memD bk0 (show (foldTo ms (inL st) y).length - 1 < (foldTo ms (inL st) y).length by omega))
        have e2 : (foldTo ms (inL st) y).length = (foldTo ms (inL st) (y + 1)).length := by rw [e, List.length_set]
        have e' := e.symm
        simp only [ht2]
        exact ⟨by unfold InI64; omega, by unfold InI64; omega, by omega, by omega, (by first | rfl | trivial), (by first | rfl | trivial), by omega, (by first | rfl | trivial), by omega, by unfold InI64; omega, by omega, by omega, (by first | rfl | trivial), (by first | rfl | trivial), by omega, (by first | rfl | trivial), by omega, by unfold InI64; omega, y + 1, hc', by omega, (by first | rfl | trivial), e2, by (repeat' (first | rfl | trivial | apply And.intro))⟩
      · have hr : (notesM (ms.getD y ms0)).isEmpty = true := by simpa [notesM] using hr
        have e := step_rest (stop := inL st) hr (by
          rintro ⟨q1, q2, q3⟩
          have q1 : (y : Int) > 0 := by omega
          rw [q2, q3, decide_eq_true q1] at hj; cases hj)
        have e2 : (foldTo ms (inL st) y).length + (0 + 1) = (foldTo ms (inL st) (y + 1)).length := by rw [e]; simp
        have e' := e.symm
        exact ⟨(by first | rfl | trivial), by omega, by unfold InI64; omega, y + 1, hc', by omega, (by first | rfl | trivial), e2, by (repeat' (first | rfl | trivial | apply And.intro))⟩
    · have hy' : y = ms.length := by have := of_decide_eq_false hc; omega
      rw [hy']
      unfold foldS; rw [h, if_neg (by simp), if_neg hn2, if_neg (by rw [hany]; simp)]; exact ⟨rfl, rfl, rfl⟩

end Go.Proofs.Ytdkggjgmlccjcaa
