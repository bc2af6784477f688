/- The plain proofs. Written by a program (wip/tools/gen.py). -/
import Derived.Test.YtjghgdccaakfmaaTempop
import Derived.Test.YtjghgdccaakfmaaTq
namespace Go.Proofs.Ytjghgdccaakfmaa
open Go.Sy Go.RatLaw
set_option linter.unusedVariables false
set_option linter.unusedSimpArgs false
theorem p_isTempo (n d : Int) : P_isTempo n d := by
  refine ⟨fun h => ?_, fun h => ?_, ?_⟩
  · rw [Bool.and_eq_true] at h
    have := vld_iff.1 h.1
    unfold InI64; omega
  · simp only [Bool.and_eq_true] at h
    have := vld_iff.1 h.1.1
    omega
  · unfold isTm; rw [beqD]
theorem p_scale (n d : Int) : P_scale n d := by
  have e : (!vld n d || decide (n < 1) || decide (n > 10 * d) || Int.tmod 60 d != 0) = !isTm n d := by
    unfold isTm
    rw [Bool.eq_iff_iff]
    by_cases h : vld n d = true
    · rw [h]; simp; omega
    · simp only [Bool.not_eq_true] at h; rw [h]; simp
  refine ⟨fun h => ?_, fun h => ?_, fun h => ?_, fun h => ?_⟩
  · simp only [Bool.or_eq_false_iff, Bool.not_eq_false'] at h
    have := vld_iff.1 h.1
    unfold InI64; omega
  · simp only [Bool.or_eq_false_iff, Bool.not_eq_false'] at h
    have := vld_iff.1 h.1.1
    omega
  · rw [e] at h
    unfold sclT; rw [if_neg (by simpa using h)]
  · rw [e, Bool.not_eq_false'] at h
    have h1 := isTm_div h
    have h2 := scl_bd h
    rw [scl_eq h] at h2 ⊢
    have h3 := vld_iff.1 (isTm_iff.1 h).1
    refine ⟨by omega, ?_, by unfold InI64; omega, rfl⟩
    have := Int.tdiv_le_self (a := 60) d (by omega)
    have h4 := Int.tdiv_nonneg (a := 60) (b := d) (by omega) (by omega)
    unfold InI64; omega
theorem tm_head {bars : List Bar} {l : List T3} (h : (!okBars bars || (l.length : Int) == 0 || decide ((l.length : Int) > 1000) || (l.getD (Int.toNat (0 : Int)) T3T.d0).1 != 0) = false) :
    okBars bars = true ∧ 1 ≤ l.length ∧ l.length ≤ 1000 ∧ (l.getD 0 t30).1 = 0 := by
  simp only [Bool.or_eq_false_iff, Bool.not_eq_false', beq_eq_false_iff_ne, bne_eq_false_iff_eq, decide_eq_false_iff_not] at h
  exact ⟨h.1.1.1, by omega, by omega, h.2⟩
theorem tm_cond {nb : Int} {l : List T3} {x : Nat} (h : x < l.length) (h0 : (l.getD 0 t30).1 = 0) : (!isTm (l.getD x t30).2.1 (l.getD x t30).2.2 || decide ((l.getD x t30).1 ≥ nb) || decide ((x : Int) > 0) && decide ((l.getD x t30).1 ≤ (l.getD ((x : Int) - 1).toNat t30).1)) = tmBad nb (tmLast l x) (l.getD x t30) := by
  unfold tmBad tmLast
  cases x with
  | zero => rw [h0]; simp
  | succ x =>
    rw [show (((x + 1 : Nat) : Int) - 1).toNat = x by omega, if_neg (by omega), Nat.add_sub_cancel]
    rw [show decide (((x + 1 : Nat) : Int) > 0) = true from decide_eq_true (by omega), Bool.true_and]
theorem p_tValid (bars : List Bar) (l : List T3) : P_tValid bars l := by
  intro _ _
  refine ⟨fun h => ?_, fun h => ?_, fun h hlen => ⟨⟨0, ⟨Nat.zero_le _, rfl⟩, rfl⟩, fun x hx => ⟨fun hlt => ?_, fun hge => ?_⟩⟩⟩
  · simp only [Bool.or_eq_false_iff, beq_eq_false_iff_ne, decide_eq_false_iff_not] at h
    omega
  · rw [eq_comm, Bool.eq_false_iff]; intro hok
    have ⟨h1, h2, h3, h4, h5⟩ := okTm_iff.1 hok
    have h4' : (l.getD (Int.toNat (0 : Int)) T3T.d0).1 = 0 := h4
    have : 1 ≤ l.length := h2
    rw [h1, h4'] at h; simp at h; rcases h with h | h
    · rw [h] at h2; simp at h2
    · omega
  · have hd := tm_head h
    have hlt' : x < l.length := by have := of_decide_eq_true hlt; omega
    simp only [d0T, tnG]
    have hb := (okBars_iff.1 hd.1).2.1
    refine ⟨by omega, by omega, fun q => ?_, fun q => ?_, fun _ => ⟨fun hbad => ?_, fun hgood => ?_⟩⟩
    · unfold InI64; omega
    · have := of_decide_eq_true q.1; omega
    · rw [tm_cond hlt' hd.2.2.2] at hbad
      rw [eq_comm, Bool.eq_false_iff]; intro hok
      have ⟨h1, h2, h3, h4, h5⟩ := okTm_iff.1 hok
      rw [hx.2, tms_step hlt', hbad] at h5; simp at h5
    · rw [tm_cond hlt' hd.2.2.2] at hgood
      refine ⟨by unfold InI64; omega, x + 1, ⟨by omega, ?_⟩, by omega, by omega, by (repeat' (first | rfl | trivial | apply And.intro))⟩
      rw [hx.2, tms_step hlt', hgood]; rfl
  · have hd := tm_head h
    have hlt' : ¬ x < l.length := by have := of_decide_eq_false hge; omega
    rw [eq_comm]
    exact okTm_iff.2 ⟨hd.1, hd.2.1, hd.2.2.1, hd.2.2.2, by rw [hx.2, tms_end hlt']⟩
theorem tm_lt1 (l : List T3) : decide ((l.length : Int) < 1) = ((l.length : Int) == 0) := by rw [beqD]; exact decide_eq_decide.2 (by omega)
theorem p_rTValid (bars : List Bar) (l : List T3) : P_rTValid bars l := by
  unfold P_rTValid
  rw [tm_lt1]
  intro _ _
  refine ⟨fun h => ?_, fun h => ?_, fun h => ⟨⟨0, ⟨Nat.zero_le _, rfl⟩, rfl⟩, fun x hx hlen => ⟨fun hlt => ?_, fun hge => ?_⟩⟩⟩
  · simp only [Bool.or_eq_false_iff, beq_eq_false_iff_ne, decide_eq_false_iff_not] at h
    omega
  · rw [eq_comm, Bool.eq_false_iff]; intro hok
    have ⟨h1, h2, h3, h4, h5⟩ := okTm_iff.1 hok
    have h4' : (l.getD (Int.toNat (0 : Int)) T3T.d0).1 = 0 := h4
    have : 1 ≤ l.length := h2
    rw [h1, h4'] at h; simp at h; rcases h with h | h
    · rw [h] at h2; simp at h2
    · omega
  · have hd := tm_head h
    have hlt' : x < l.length := by have := of_decide_eq_true hlt; omega
    simp only [d0T, tnG, scl_neg]
    have hb := (okBars_iff.1 hd.1).2.1
    refine ⟨by omega, by omega, fun q => ⟨by omega, by omega⟩, fun q => ⟨by omega, by omega⟩, fun q => ?_, fun q => ?_, fun _ => ⟨fun hbad => ?_, fun hgood => ?_⟩⟩
    · unfold InI64; omega
    · have := of_decide_eq_true q.1; omega
    · rw [tm_cond hlt' hd.2.2.2] at hbad
      rw [eq_comm, Bool.eq_false_iff]; intro hok
      have ⟨h1, h2, h3, h4, h5⟩ := okTm_iff.1 hok
      rw [hx.2, tms_step hlt', hbad] at h5; simp at h5
    · rw [tm_cond hlt' hd.2.2.2] at hgood
      refine ⟨by unfold InI64; omega, x + 1, ⟨by omega, ?_⟩, by omega, by omega, by (repeat' (first | rfl | trivial | apply And.intro))⟩
      rw [hx.2, tms_step hlt', hgood]; rfl
  · have hd := tm_head h
    have hlt' : ¬ x < l.length := by have := of_decide_eq_false hge; omega
    rw [eq_comm]
    exact okTm_iff.2 ⟨hd.1, hd.2.1, hd.2.2.1, hd.2.2.2, by rw [hx.2, tms_end hlt']⟩
theorem p_later1 (x b : Int) (l : List T3) (h0 : 0 ≤ x) (h1 : x < l.length) : P_later1 x b l := ⟨h0, h1, rfl, rfl, rfl⟩
theorem half_sum {i j : Nat} (h : i < j) (hj : j ≤ 1000) : shrW IntKind.u64 (IntKind.u64.wrap ((i : Int) + j)) 1 = (((i + j) / 2 : Nat) : Int) := by
  have e : IntKind.u64.wrap ((i : Int) + j) = (i : Int) + j := by
    rw [show ((i : Int) + j) = ((i + j : Nat) : Int) by omega]
    unfold IntKind.wrap
    simp [IntKind.bits, IntKind.signed]
    omega
  rw [e]
  unfold shrW
  rw [show (2 : Int) ^ (min (1 : Int).toNat IntKind.u64.bits) = 2 from rfl, Int.fdiv_eq_ediv_of_nonneg _ (by omega)]
  omega
theorem p_search (m b : Int) (l : List T3) (hm : m = l.length) (hl : l.length ≤ 1000) (hr : riseT l) : P_search m b l := by
  refine ⟨⟨(0, l.length), ⟨Nat.zero_le _, Nat.le_refl _, fun k hk => absurd hk (Nat.not_lt_zero _), fun k h1 h2 => by omega⟩, rfl, hm⟩, fun x ⟨h1, h2, h3, h4⟩ => ⟨fun hlt => ?_, fun hge => ?_⟩⟩
  · have hlt' : x.1 < x.2 := by have := of_decide_eq_true hlt; omega
    rw [half_sum hlt' (by omega)]
    simp only [tnG]
    refine ⟨by unfold InI64; omega, by omega, by unfold InI64; omega, by omega, by omega, fun q => ⟨by unfold InI64; omega, ((x.1 + x.2) / 2 + 1, x.2), ⟨by simp only; omega, h2, fun k hk => ?_, h4⟩, by simp only; omega, by simp only; omega, rfl, by (repeat' (first | rfl | trivial | apply And.intro))⟩, fun q => ⟨(x.1, (x.1 + x.2) / 2), ⟨by simp only; omega, by simp only; omega, h3, fun k hk hk' => ?_⟩, by simp only; omega, rfl, rfl, by (repeat' (first | rfl | trivial | apply And.intro))⟩⟩
    · have q' : (l.getD ((x.1 + x.2) / 2) t30).1 ≤ b := by simpa using q
      simp only at hk
      rcases Nat.lt_or_ge k ((x.1 + x.2) / 2) with e | e
      · have := rise_get hr e (by omega); omega
      · rw [show k = (x.1 + x.2) / 2 by omega]; exact q'
    · have q' : b < (l.getD ((x.1 + x.2) / 2) t30).1 := by simpa using q
      simp only at hk
      rcases Nat.lt_or_ge ((x.1 + x.2) / 2) k with e | e
      · have := rise_get hr e (by omega); omega
      · rw [show k = (x.1 + x.2) / 2 by omega]; exact q'
  · have hge' : x.1 = x.2 := by have := of_decide_eq_false hge; omega
    rw [tmN_eq (n := x.1) (by omega) h3 (fun q => h4 _ (by omega) q)]
    exact ⟨rfl, rfl, rfl⟩
theorem p_tAt (l : List T3) (b : Int) (h1 : l.length ≤ 1000) (h2 : riseT l) (h3 : 0 < tmN l b) : P_tAt l b := by
  intro _
  have := tmN_le l b
  have e : ((tmN l b : Int) - 1).toNat = tmN l b - 1 := by omega
  rw [e]
  exact ⟨rfl, h1, h2, by unfold InI64; omega, by omega, by omega, rfl, rfl⟩
theorem p_tadd (n t a d : Int) (l : List T3) (h : isTm a d = true) (hn : -1000000000000 ≤ n ∧ n ≤ 1000000000000) (ht : -100000 ≤ t ∧ t ≤ 100000) : P_tadd n t a d l := by
  have h1 := isTm_div h
  have h2 := scl_bd h
  have h3 := vld_iff.1 (isTm_iff.1 h).1
  have h4 := isTm_iff.1 h
  have e : t * a * Int.tdiv 60 d = t * sclT a d := by rw [scl_eq h]; grind
  have h5 := Int.tdiv_nonneg (a := 60) (b := d) (by omega) (by omega)
  have h6 := Int.tdiv_le_self (a := 60) d (by omega)
  have b1 := mulb (x := t) (y := a) (A := 100000) (B := 1000000000) (by omega) (by omega)
  have b2 := mulb (x := t) (y := sclT a d) (A := 100000) (B := 600) (by omega) (by omega)
  refine ⟨by unfold InI64; omega, by omega, by unfold InI64; omega, ?_, ?_, ?_, rfl⟩
  · rw [e]; unfold InI64; omega
  · rw [e]; unfold InI64; omega
  · rw [e]
theorem p_tTake (n b x y s : Int) (l : List T3) (h1 : l.length ≤ 1000) (h2 : riseT l) (h3 : 0 < tmN l b) (h4 : isTm (tmAt l b).1 (tmAt l b).2 = true) (h5 : dur x y = true) (h6 : tk x y ≤ 40320) (h7 : s = 1 ∨ s = -1) (h8 : -1000000000000 ≤ n ∧ n ≤ 1000000000000) : P_tTake n b x y s l := by
  have ⟨a1, a2, a3, a4, a5, a6⟩ := dur_spec h5
  have v := vld_iff.1 a1
  have e : s * x * Int.tdiv 1680 y = s * tk x y := by unfold tk; grind
  have h9 := Int.tdiv_nonneg (a := 1680) (b := y) (by omega) (by omega)
  have h10 := Int.tdiv_le_self (a := 1680) y (by omega)
  have hs : -40320 ≤ s * tk x y ∧ s * tk x y ≤ 40320 := by rcases h7 with rfl | rfl <;> omega
  have hx : -1000000000 ≤ s * x ∧ s * x ≤ 1000000000 := by rcases h7 with rfl | rfl <;> omega
  refine ⟨by unfold InI64; omega, by omega, by unfold InI64; omega, by rw [e]; unfold InI64; omega, h1, h2, h3, h4, h8, by rw [e]; omega, ?_, rfl⟩
  rw [e]; rfl
theorem p_seconds (n : Int) (l : List T3) : P_seconds n l := ⟨rfl, rfl, rfl, rfl, rfl⟩
theorem p_tIsPos (bars : List Bar) (b n d : Int) (h : okBars bars = true) : P_tIsPos bars b n d := by
  unfold P_tIsPos timeS
  rw [h, Bool.true_and]
  by_cases hp : posS bars b n d = true
  · rw [if_pos hp, hp]; rfl
  · rw [if_neg hp]; simp only [Bool.not_eq_true] at hp; rw [hp]; rfl
theorem p_tLater (b n d b' n' d' : Int) : P_tLater b n d b' n' d' := by
  refine ⟨fun h => ?_, fun h => ?_⟩
  · rw [if_neg (by simpa using h)]
  · rw [if_pos (by simpa using h)]
theorem at_cond {bars : List Bar} {l : List T3} {b : Int} : (!okTm bars l || decide (b < 0) || decide (b ≥ bars.length)) = !(okTm bars l && decide (0 ≤ b) && decide (b < bars.length)) := by
  rw [Bool.eq_iff_iff]
  by_cases h : okTm bars l = true
  · rw [h]; simp <;> omega
  · simp only [Bool.not_eq_true] at h; rw [h]; simp
theorem p_tAt0 (bars : List Bar) (l : List T3) (b : Int) : P_tAt0 bars l b := by
  unfold P_tAt0
  rw [at_cond]
  intro _
  refine ⟨fun h => ?_, fun h => ?_⟩
  · unfold tmAtS
    rw [Bool.not_eq_true'] at h
    rw [h]; (repeat' (first | rfl | trivial | apply And.intro))
  · rw [Bool.not_eq_false'] at h
    unfold tmAtS
    rw [if_pos h]
    simp only [Bool.and_eq_true, decide_eq_true_iff] at h
    have hk := okTm_ok h.1.1
    exact ⟨hk.le, hk.rise, tmN_pos hk h.1.2, rfl, rfl, rfl⟩
theorem sec_cond {bars : List Bar} {l : List T3} {b n d b' n' d' : Int} : (!okTm bars l || !posS bars b n d || !posS bars b' n' d' || if b = b' then decide ((compareR n d n' d').1 > 0) else decide (b > b')) = !(okTm bars l && posS bars b n d && posS bars b' n' d' && !earlS b' n' d' b n d) := by
  by_cases h1 : okTm bars l = true
  · by_cases h2 : posS bars b n d = true
    · by_cases h3 : posS bars b' n' d' = true
      · rw [h1, h2, h3, later_eq h2 h3]; simp
      · simp only [Bool.not_eq_true] at h3; rw [h3]; simp
    · simp only [Bool.not_eq_true] at h2; rw [h2]; simp
  · simp only [Bool.not_eq_true] at h1; rw [h1]; simp
structure SecOk (bars : List Bar) (l : List T3) (b n d b' n' d' : Int) : Prop where
  ok : TmOk bars l
  p : posS bars b n d = true
  q : posS bars b' n' d' = true
  le : b ≤ b'
  eq : secS bars l b n d b' n' d' = make (secN bars l b n d b' n' d') 100800
theorem sec_ok {bars : List Bar} {l : List T3} {b n d b' n' d' : Int} (h : (okTm bars l && posS bars b n d && posS bars b' n' d' && !earlS b' n' d' b n d) = true) : SecOk bars l b n d b' n' d' := by
  simp only [Bool.and_eq_true, Bool.not_eq_true'] at h
  refine ⟨okTm_ok h.1.1.1, h.1.1.2, h.1.2, ?_, secS_ok h.1.1.1 h.1.1.2 h.1.2 h.2⟩
  have : ¬ _ := fun q => absurd (earl_iff.2 q) (by rw [h.2]; simp)
  omega
theorem p_tSeconds (bars : List Bar) (l : List T3) (b n d b' n' d' : Int) : P_tSeconds bars l b n d b' n' d' := by
  unfold P_tSeconds
  rw [sec_cond]
  refine ⟨fun h => ?_, fun h => ?_, fun h => ?_, fun h => ?_⟩
  · exact (okTm_ok (by simpa using h)).okb
  · simp only [Bool.or_eq_false_iff, Bool.not_eq_false'] at h; exact (okTm_ok h.1).okb
  · rw [secS_no (by simpa only [Bool.not_eq_true'] using h)]; (repeat' (first | rfl | trivial | apply And.intro))
  · rw [Bool.not_eq_false'] at h
    have ⟨hk, hp, hq, hle, he⟩ := sec_ok h
    have ⟨h1, h2, h3, h4, h5, h6, h7⟩ := pos_dur hp
    have ⟨k1, k2, k3, k4, k5, k6, k7⟩ := pos_dur hq
    have hu := upT_bd hk hp
    have hv := upT_bd hk hq
    have hn := (okBars_iff.1 hk.okb).2.1
    refine ⟨⟨b.toNat, ⟨Nat.le_refl _, by omega⟩, by omega, by omega, rfl⟩, fun x hx => ⟨fun hlt => ?_, fun hge _ => ?_⟩⟩
    · have hlt' := of_decide_eq_true hlt
      simp only [tnG]
      have e0 : ∀ k, bars.getD k BT.d0 = bars.getD k bar0 := fun _ => rfl
      simp only [e0]
      have hb := tb_at hk.okb (k := x) (by omega)
      have hs := sumT_bd hk (k := x) (by omega)
      have hs0 := sumT_bd hk (k := b.toNat) (by omega)
      have hm := sumT_mono hk hx.1 (by omega)
      refine ⟨by omega, by omega, hk.le, hk.rise, tmN_pos hk (by omega), tmAt_ok hk (by omega), hb.1, by omega, by simp, by omega, by unfold InI64; omega, x + 1, by omega, by omega, by omega, (by first | rfl | trivial), (by first | rfl | trivial), (by first | rfl | trivial), (by first | rfl | trivial), (by first | rfl | trivial), (by first | rfl | trivial), (by first | rfl | trivial), (by first | rfl | trivial), (by first | rfl | trivial), (by first | rfl | trivial), (by first | rfl | trivial), ?_, by (repeat' (first | rfl | trivial | apply And.intro))⟩
      rw [takeT_one, hb.2.1, sumT]; omega
    · have hx' : x = b'.toNat := by have := of_decide_eq_false hge; omega
      subst hx'
      have hs := sumT_bd hk (k := b'.toNat) (by omega)
      have hs0 := sumT_bd hk (k := b.toNat) (by omega)
      rw [he, takeT_neg, takeT_one]
      unfold secN upT at *
      refine ⟨fun hb => ?_, fun hb _ => ?_⟩
      · have hb := of_decide_eq_true hb
        rw [if_pos hb] at hu ⊢
        refine ⟨hk.le, hk.rise, tmN_pos hk h3, tmAt_ok hk h3, h1, (hu.2.2.2 hb).2, .inr rfl, by omega, fun _ => ⟨fun hb' => ?_, fun hb' => ?_⟩⟩
        · have hb' := of_decide_eq_true hb'
          rw [if_pos hb'] at hv ⊢
          rw [show ∀ a b c d : Int, a - b + -c + d = a + d - (b + c) by intros; omega]
          exact ⟨hk.le, hk.rise, tmN_pos hk k3, tmAt_ok hk k3, k1, (hv.2.2.2 hb').2, .inl rfl, by omega, rfl, rfl, rfl⟩
        · have hb' := of_decide_eq_false hb'
          rw [if_neg hb', Int.add_zero]
          rw [show ∀ a b c : Int, a - b + -c = a - (b + c) by intros; omega]
          exact ⟨rfl, rfl, rfl⟩
      · have hb := of_decide_eq_false hb
        rw [if_neg hb, Int.add_zero] at hu ⊢
        refine ⟨fun hb' => ?_, fun hb' => ?_⟩
        · have hb' := of_decide_eq_true hb'; omega
        · have hb' := of_decide_eq_false hb'
          rw [if_neg hb', Int.add_zero]
          exact ⟨rfl, rfl, rfl⟩
theorem p_tPlayed (bars : List Bar) (l : List T3) (b : Int) (r e : List T3) (j t n : Int) (c : List T3) (x y : Int) : P_tPlayed bars l b r e j t n c x y := by
  unfold P_tPlayed
  have hc : ∀ f : Fm, List.drop x.toNat (List.take y.toNat (unfoldS f).1) = cutV (unfoldS f).1 x y := fun _ => rfl
  simp only [hc]
  have hq := play_cond (bars := bars) (l := l) (f := (b, (r, (e, ((j, (t, n)), c))))) (x := x) (y := y)
  simp only at hq
  rw [hq]
  intro _ _
  refine ⟨fun h => ?_, fun h => ?_⟩
  · rw [play_no (by simpa only [Bool.not_eq_true'] using h)]; (repeat' (first | rfl | trivial | apply And.intro))
  · rw [Bool.not_eq_false'] at h
    have hp := play_ok h
    have hl := cutV_len hp.h0 hp.h1 hp.h2
    refine ⟨hp.h0, hp.h1, hp.h2, fun _ => ⟨⟨0, Nat.zero_le _, rfl, rfl, (by first | rfl | trivial)⟩, fun k hk => ⟨fun hlt => ?_, fun hge => ?_⟩⟩⟩
    · have hlt' : k < (y - x).toNat := by have := of_decide_eq_true hlt; omega
      simp only [tnG, d0V]
      have e0 : ∀ k, bars.getD k BT.d0 = bars.getD k bar0 := fun _ => rfl
      simp only [e0]
      have ⟨s1, s2, s3⟩ := play_step hp hlt'
      have hb := tb_at hp.ok.okb (k := ((cutV (unfoldS (b, (r, (e, ((j, (t, n)), c))))).1 x y).getD k vi0).1.toNat) (by omega)
      have hd := play_bd hp k
      refine ⟨by omega, by omega, s1, s2, hp.ok.le, hp.ok.rise, tmN_pos hp.ok s1, tmAt_ok hp.ok s1, hb.1, by omega, by simp, by omega, by unfold InI64; omega, k + 1, by omega, by omega, by omega, (by first | rfl | trivial), (by first | rfl | trivial), (by first | rfl | trivial), (by first | rfl | trivial), (by first | rfl | trivial), (by first | rfl | trivial), (by first | rfl | trivial), (by first | rfl | trivial), (by first | rfl | trivial), (by first | rfl | trivial), (by first | rfl | trivial), (by first | rfl | trivial), (by first | rfl | trivial), (by first | rfl | trivial), (by first | rfl | trivial), (by first | rfl | trivial), (by first | rfl | trivial), ?_, by (repeat' (first | rfl | trivial | apply And.intro))⟩
      rw [takeT_one, hb.2.1, s3]
    · have hge' : ¬ k < (y - x).toNat := by have := of_decide_eq_false hge; omega
      rw [hp.eq, play_all hp hge']
      exact ⟨rfl, rfl, rfl⟩
end Go.Proofs.Ytjghgdccaakfmaa
