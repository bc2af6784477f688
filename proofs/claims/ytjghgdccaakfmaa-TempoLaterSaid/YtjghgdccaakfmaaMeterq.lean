/- The plain proofs. Written by a program (wip/tools/gen.py). -/
import Derived.Test.YtjghgdccaakfmaaMeterp
import Derived.Test.YtjghgdccaakfmaaMq
namespace Go.Proofs.Ytjghgdccaakfmaa
open Go.Sy Go.RatLaw
set_option linter.unusedVariables false
set_option linter.unusedSimpArgs false
theorem p_none : P_none := ⟨rfl, rfl⟩
theorem p_isDuration (n d : Int) : P_isDuration n d := by
  refine ⟨fun h => ?_, rfl⟩
  rw [Bool.and_eq_true] at h
  exact (vld_bd h.1).2.2.1
theorem p_less (a b c d : Int) : P_less a b c d := rfl
theorem p_begins (l : List Bar) : P_begins l := ⟨rfl, rfl⟩
theorem p_Ticks (n d : Int) : P_Ticks n d := by
  unfold P_Ticks
  refine ⟨fun h => ?_, fun h => ?_, fun h => ?_, fun h => ?_⟩
  · have := of_decide_eq_false h; omega
  · simp only [Bool.or_eq_false_iff, decide_eq_false_iff_not] at h; omega
  · refine (tks_no ?_).symm
    rw [Bool.eq_false_iff]
    intro hd
    obtain ⟨v, hn, hpos, e, _, _⟩ := dur_spec hd
    have hv := vld_iff.1 v
    have h2 : (1680 : Int).tmod d = 0 := by have := Int.mul_tdiv_add_tmod 1680 d; omega
    simp only [Bool.or_eq_true, decide_eq_true_eq, bne_iff_ne] at h
    rcases h with (((h | h) | h) | h) | h
    · omega
    · exact h h2
    · omega
    · omega
    · rw [hv.2.2.2.2] at h; exact h rfl
  · simp only [Bool.or_eq_false_iff, decide_eq_false_iff_not, bne_eq_false_iff_eq] at h
    obtain ⟨⟨⟨⟨h1, h2⟩, h3⟩, h4⟩, h5⟩ := h
    have hd : dur n d = true := by
      unfold dur
      have hle : d ≤ 1680 := Int.le_of_dvd (by decide) (Int.dvd_of_tmod_eq_zero h2)
      have hv : vld n d = true := vld_iff.2 ⟨by omega, by omega, by omega, by omega, by exact_mod_cast h5⟩
      rw [hv]; simp [h2]; omega
    rw [tks_dur hd]
    have hb := tk_bound hd
    have h0 := (dur_spec hd).2.2.2.2.2
    have h6 : 0 ≤ (1680 : Int).tdiv d := Int.tdiv_nonneg (by decide) (by omega)
    have h7 : (1680 : Int).tdiv d ≤ 1680 := Int.le_of_dvd (by decide) ⟨d, by rw [Int.mul_comm]; exact (dur_spec hd).2.2.2.1.symm⟩
    refine ⟨by omega, by unfold InI64; omega, ?_, rfl⟩
    show InI64 (tk n d)
    unfold InI64; omega
theorem d0B : (BT.d0 : BT.T) = bar0 := rfl
theorem toNat_cast (x : Nat) : ((x : Int)).toNat = x := Int.toNat_natCast x
theorem p_begins1 (l : List Bar) (go : Lp (Int × (Int × Int) × Unit)) (hok : ∀ k, go.ok ((items 0 (0, 1) l).take k)) : P_begins1 l go := by
  intro hlen
  have hl := items_len l 0 (0, 1)
  have hlive : ∀ x, x ≤ l.length → (∀ k, 0 < k → k ≤ x → go.1 ((items 0 (0, 1) l).take k) = true) → liveX go ((items 0 (0, 1) l).take x) ((x : Int), ((itB l x).1, (itB l x).2), ()) := by
    intro x hx hg
    refine ⟨?_, ?_⟩
    · cases x with
      | zero => exact .inl rfl
      | succ x => exact .inr (hg _ (by omega) (Nat.le_refl _))
    · have := hok (x + 1)
      rw [items_take l hx] at this
      exact this
  refine ⟨⟨0, ⟨Nat.zero_le _, fun k h1 h2 => by omega⟩, rfl, rfl, rfl, by rw [itB_zero], by rw [itB_zero]⟩, fun x ⟨hx, hg⟩ => ⟨fun hlt => ?_, fun hge => ?_⟩⟩
  · have hlt' : x < l.length := by have := of_decide_eq_true hlt; omega
    have ht : List.take x (items 0 (0, 1) l) ++ [((x : Int), ((itB l x).fst, (itB l x).snd), ())] = (items 0 (0, 1) l).take (x + 1) := (items_take l hx).symm
    refine ⟨by omega, by omega, hlive x hx hg, fun hs => ⟨?_, rfl, rfl⟩, fun hs => ⟨by unfold InI64; omega, x + 1, ⟨hlt', fun k h1 h2 => ?_⟩, by omega, by omega, rfl, rfl, ht, rfl, ?_, ?_, rfl⟩⟩
    · rw [ht] at hs ⊢
      exact (fed_stop go.1 (items 0 (0, 1) l) [] x (by omega) (fun j hj => hg _ (by omega) (by omega)) (by simpa using hs)).symm
    · by_cases e : k = x + 1
      · subst e; rw [ht] at hs; simpa using hs
      · exact hg k h1 (by omega)
    · rw [d0B, toNat_cast, itB_next hlt']
    · rw [d0B, toNat_cast, itB_next hlt']
  · intro _
    have hx' : x = l.length := by have := of_decide_eq_false hge; omega
    subst hx'
    have ht := items_take l hx
    rw [show (items 0 (0, 1) l).take (l.length + 1) = items 0 (0, 1) l by rw [← hl, List.take_length]] at ht
    refine ⟨hlive l.length hx hg, ?_, rfl, rfl⟩
    refine (ht.symm).trans ?_
    have := fed_last go.1 (items 0 (0, 1) l) [] l.length (by omega) (fun j hj => hg _ (by omega) (by omega)) hl.symm
    exact this.symm
theorem p_beginning (l : List Bar) (b : Int) : P_beginning l b := by
  refine ⟨fun _ => trivial, rfl, trivial, ⟨rfl, rfl⟩, fun hist _ x hl => ⟨fun h => ?_, fun h => ?_⟩, fun _ => ⟨fun h => ?_, fun h _ => ?_, trivial⟩⟩
  · have h : x.1 = b := by simpa using h
    rw [notAt_concat, resAt_concat, if_pos h]
    simp [h]
  · have h : x.1 ≠ b := by simpa using h
    have hh : resAt b hist = (0, 0) := by
      rcases hl.1 with e | e
      · rw [e]; rfl
      · unfold resAt
        have e : notAt b hist = true := e
        unfold notAt at e
        cases hq : hist.getLast? with
        | none => rfl
        | some y =>
          rw [hq] at e
          have : y.1 ≠ b := by simpa using e
          simp only; rw [if_neg this]
    rw [notAt_concat, resAt_concat, if_neg h, hh]
    simp [h]
  · rcases fed_beg l b with ⟨h1, h2, e⟩ | ⟨h1, h2⟩
    · have h : fed (notAt b) [] (items 0 (0, 1) l) = [] ∨ notAt b (fed (notAt b) [] (items 0 (0, 1) l)) = true := h
      rw [e] at h
      rcases h with h | h
      · simp at h
      · have h : notAt b ((items 0 (0, 1) l).take b.toNat ++ [(b, begAt l b, ())]) = true := h
        rw [notAt_concat] at h; simp at h
    · rw [begAt_out h1]; exact ⟨rfl, rfl⟩
  · rcases fed_beg l b with ⟨h1, h2, e⟩ | ⟨h1, hh, t, e⟩
    · show (resAt b (fed (notAt b) [] (items 0 (0, 1) l))).1 = _ ∧ (resAt b (fed (notAt b) [] (items 0 (0, 1) l))).2 = _
      rw [e, resAt_concat, if_pos rfl]; exact ⟨rfl, rfl⟩
    · exfalso
      apply h
      show fed (notAt b) [] (items 0 (0, 1) l) = [] ∨ notAt b (fed (notAt b) [] (items 0 (0, 1) l)) = true
      rw [e]
      refine .inr ?_
      rw [notAt_concat]; simp; omega
theorem p_isPosition (l : List Bar) (b n d : Int) (hl : okBars l = true) : P_isPosition l b n d := by
  intro _
  refine ⟨fun h => ?_, fun h _ => ⟨fun h2 => ?_, fun h2 => ?_⟩⟩
  · simp only [Bool.and_eq_true, beq_iff_eq] at h
    obtain ⟨h1, h2, h3⟩ := h
    rw [eq_comm, posS_iff, h2, h3, tks_dur dur01, tk01]
    omega
  · rw [eq_comm, Bool.eq_false_iff]
    intro hp
    have hd := tks_nonneg.1 (posS_iff.1 hp).2.1
    obtain ⟨h3, h4, h5⟩ := posS_iff.1 hp
    rw [hd] at h2
    have hb : b ≥ l.length := by simp at h2; omega
    have h6 : b = l.length ∧ tks n d = 0 := by omega
    rw [tks_dur hd] at h6
    have := dur_eq hd
    rw [h6.2, ofT0] at this
    injection this with e1 e2
    subst e1 e2
    simp [h6.1] at h
  · simp only [Bool.or_eq_false_iff, decide_eq_false_iff_not, Bool.not_eq_false'] at h2
    obtain ⟨⟨h3, h4⟩, hd⟩ := h2
    refine ⟨by omega, by omega, ?_⟩
    have hm : barAt l b ∈ l := barAt_mem (by omega) (by omega)
    obtain ⟨d1, d2⟩ := okBar_dur ((okBars_iff.1 hl).2.2.1 _ hm)
    rw [d0B]
    show lessR n d (barAt l b).2.1.1 (barAt l b).2.1.2 = posS l b n d
    rw [less_dur hd d1, d2, Bool.eq_iff_iff, posS_iff, tks_dur hd]
    have := (dur_spec hd).2.2.2.2.2
    simp; omega
theorem p_Position (l : List Bar) (b n d : Int) : P_Position l b n d := by
  intro _
  refine ⟨fun h => ?_, fun h _ => ⟨fun h2 => ?_, fun h2 => ?_⟩⟩
  · rw [eq_comm, Bool.eq_false_iff]
    intro hp
    obtain ⟨h3, h4, h5⟩ := posS_iff.1 hp
    simp at h; omega
  · rw [Bool.eq_iff_iff, posS_iff]
    simp at h h2 ⊢; omega
  · rw [d0B, Bool.eq_iff_iff, posS_iff]
    simp only [Bool.or_eq_false_iff, decide_eq_false_iff_not, beq_eq_false_iff_ne] at h h2
    refine ⟨by omega, by omega, ?_⟩
    simp only [decide_eq_true_eq]
    show tks n d < tb (barAt l b) ↔ _
    omega
theorem p_mTime (l : List Bar) (b n d : Int) : P_mTime l b n d := by
  refine ⟨fun h => by simpa using h, fun h => ?_, fun h => ?_⟩
  · unfold timeS
    have : (okBars l && posS l b n d) = false := by rw [Bool.eq_false_iff]; intro hh; rw [Bool.and_eq_true] at hh; rw [hh.1, hh.2] at h; simp at h
    rw [this]; exact ⟨rfl, rfl, rfl⟩
  · simp only [Bool.or_eq_false_iff, Bool.not_eq_false'] at h
    obtain ⟨h1, h2⟩ := h
    obtain ⟨hd, h3, h4, h5, h6, h7, h8⟩ := posS_ahead h1 h2
    have hb := bef_take h1 b.toNat
    unfold timeS
    rw [h1, h2, begAt_ok h1 ⟨h3, h4⟩, add_dur (dur_ofT hb.1 (by omega)) hd (by rw [tk_ofT hb.1 (by omega)]; omega), tk_ofT hb.1 (by omega)]
    exact ⟨rfl, rfl, rfl⟩
theorem preB_zero (l : List Bar) : preB l 0 := ⟨Nat.zero_le _, (fun b h => by simp at h), by simp [ids]⟩
theorem preB_bad {l : List Bar} {x : Nat} (hx : x < l.length) (h : okBar (l.getD x bar0) = false) : false = okBars l := by
  rw [eq_comm, Bool.eq_false_iff]
  intro hl
  have := (okBars_iff.1 hl).2.2.1 _ (mem_getD hx)
  rw [h] at this; cases this
theorem ids_get {l : List Bar} {k : Nat} (h : k < l.length) : (l.getD k bar0).1 = (ids l)[k]'(by simpa [ids] using h) := by
  simp [ids, List.getD_eq_getElem?_getD, List.getElem?_eq_getElem h]
theorem twice_bad {l : List Bar} {x y : Nat} (hx : x < l.length) (hy : y < x) (h : (l.getD y bar0).1 = (l.getD x bar0).1) : false = okBars l := by
  rw [eq_comm, Bool.eq_false_iff]
  intro hl
  have hn := (okBars_iff.1 hl).2.2.2
  rw [ids_get (by omega), ids_get hx] at h
  exact (List.pairwise_iff_getElem.1 hn) y x (by simp [ids]; omega) (by simpa [ids] using hx) hy h
theorem preB_next {l : List Bar} {x : Nat} (hx : x < l.length) (h : preB l x) (hb : okBar (l.getD x bar0) = true) (hn : ∀ k, k < x → (l.getD k bar0).1 ≠ (l.getD x bar0).1) : preB l (x + 1) := by
  refine ⟨hx, fun b hb' => ?_, ?_⟩
  · rw [take_at hx] at hb'
    rcases List.mem_append.1 hb' with hb' | hb'
    · exact h.2.1 b hb'
    · rw [List.mem_singleton.1 hb']; exact hb
  · rw [take_at hx]
    unfold ids
    rw [List.map_append, List.nodup_append]
    refine ⟨h.2.2, by simp, fun a ha c hc => ?_⟩
    simp only [List.map_cons, List.map_nil, List.mem_singleton] at hc
    rw [hc]
    obtain ⟨q, hq, rfl⟩ := List.mem_map.1 ha
    obtain ⟨k, hk, rfl⟩ := List.mem_iff_getElem.1 hq
    have hk' : k < x := by rw [List.length_take] at hk; omega
    have := hn k hk'
    rw [List.getD_eq_getElem?_getD, List.getElem?_eq_getElem (by omega)] at this
    simpa using this
theorem preB_end {l : List Bar} (h : preB l l.length) (h1 : 1 ≤ l.length) (h2 : l.length ≤ 4000) : okBars l = true := by
  obtain ⟨_, h3, h4⟩ := h
  rw [List.take_length] at h3 h4
  exact okBars_iff.2 ⟨h1, h2, h3, h4⟩
theorem seen_get (l : List Bar) (i : Int) : (mget (Ty.ti .i64).beq i (seenB l)).getD Ty.tb.d0 = decide (i ∈ ids l) := by
  induction l with
  | nil => simp [seenB, ids, mget]; rfl
  | cons b r ih =>
    unfold seenB ids at *
    simp only [List.map_cons, mget]
    by_cases h : i = b.1
    · rw [if_pos (by simp [Ty.beq, h])]; simp [h]; rfl
    · rw [if_neg (by simpa [Ty.beq] using h)]
      rw [ih]; simp [h]
theorem seen_put (l : List Bar) (b : Bar) (h : b.1 ∉ ids l) : mput (Ty.ti .i64).beq b.1 true (seenB l) = seenB (l ++ [b]) := by
  induction l with
  | nil => rfl
  | cons a r ih =>
    have h1 : b.1 ≠ a.1 := fun e => h (by simp [ids, e])
    have h2 : b.1 ∉ ids r := fun e => h (by simp [ids] at e ⊢; exact .inr e)
    have := ih h2
    unfold seenB ids at *
    simp only [List.map_cons, List.cons_append, mput]
    rw [if_neg (by simpa [Ty.beq] using h1), this]; rfl
theorem ids_take_mem {l : List Bar} {x : Nat} {i : Int} (hx : x ≤ l.length) : i ∈ ids (l.take x) ↔ ∃ k, k < x ∧ (l.getD k bar0).1 = i := by
  unfold ids
  rw [List.mem_map]
  constructor
  · rintro ⟨b, hb, rfl⟩
    obtain ⟨k, hk, rfl⟩ := List.mem_iff_getElem.1 hb
    have hk' : k < x := by rw [List.length_take] at hk; omega
    refine ⟨k, hk', ?_⟩
    rw [List.getD_eq_getElem?_getD, List.getElem?_eq_getElem (by omega)]; simp
  · rintro ⟨k, hk, rfl⟩
    refine ⟨l.getD k bar0, ?_, rfl⟩
    rw [List.getD_eq_getElem?_getD, List.getElem?_eq_getElem (by omega)]
    exact List.mem_iff_getElem.2 ⟨k, by rw [List.length_take]; omega, by simp⟩
theorem p_rValid (l : List Bar) : P_rValid l := by
  intro _ _
  refine ⟨fun h => ?_, fun h0 => ⟨⟨0, preB_zero l, rfl⟩, fun x hp _ => ⟨fun hlt => ?_, fun hge => ?_⟩⟩⟩
  · rw [eq_comm, Bool.eq_false_iff]
    intro hl
    have := okBars_iff.1 hl
    simp at h; omega
  · have hlt' : x < l.length := by have := of_decide_eq_true hlt; omega
    simp only [d0B, toNat_cast]
    have e : tks (l.getD x bar0).2.1.1 (l.getD x bar0).2.1.2 = tb (l.getD x bar0) := rfl
    rw [e]
    refine ⟨by omega, by omega, by omega, by omega, fun _ => ⟨by omega, by omega⟩, fun _ => ⟨by omega, by omega⟩, fun _ => ⟨by omega, by omega⟩, fun hb => ?_, fun hb => ⟨⟨0, ⟨Nat.zero_le _, fun k hk => by omega⟩, rfl⟩, fun y hy => ⟨fun hyx => ?_, fun hyx => ?_⟩⟩⟩
    · refine preB_bad hlt' ?_
      rw [Bool.eq_false_iff, Ne, okBar_iff]
      simp [-List.getD_eq_getElem?_getD] at hb; omega
    · have hyx' : y < x := by have := of_decide_eq_true hyx; omega
      have ex : (barAt l (x : Int)) = l.getD x bar0 := by unfold barAt; rw [toNat_cast]
      refine ⟨by omega, by omega, by omega, by omega, fun h => twice_bad hlt' hyx' (by simpa using h), fun h => ⟨by unfold InI64; omega, y + 1, ⟨by omega, fun k hk => ?_⟩, by omega, by omega, trivial, trivial, trivial, trivial, trivial, trivial⟩⟩
      by_cases hky : k = y
      · rw [hky, ex]; simpa using h
      · exact hy.2 k (by omega)
    · have hyx' : y = x := by have := of_decide_eq_false hyx; have := hy.1; omega
      have ex : (barAt l (x : Int)) = l.getD x bar0 := by unfold barAt; rw [toNat_cast]
      refine ⟨by unfold InI64; omega, x + 1, preB_next hlt' hp ?_ fun k hk => ?_, by omega, by omega, trivial, trivial⟩
      · rw [okBar_iff]; simp [-List.getD_eq_getElem?_getD] at hb; omega
      · have := hy.2 k (by omega); rwa [ex] at this
  · have hx' : x = l.length := by have := of_decide_eq_false hge; have := hp.1; omega
    subst hx'
    simp at h0
    exact (preB_end hp (by omega) (by omega)).symm
theorem less24 {a b : Int} (h : dur a b = true) : decide ((compareR 24 1 a b).1 < 0) = decide (40320 < tk a b) := by
  have := less_dur (a := 24) (b := 1) (by decide) h
  rw [show tk 24 1 = 40320 by decide] at this
  exact this
theorem p_mValid (l : List Bar) : P_mValid l := by
  intro _
  refine ⟨⟨0, preB_zero l, rfl, rfl⟩, fun x hp => ⟨fun hlt => ?_, fun hge => ?_⟩⟩
  · have hlt' : x < l.length := by have := of_decide_eq_true hlt; omega
    simp only [d0B, toNat_cast, seen_get]
    refine ⟨by omega, by omega, fun hb => ?_, fun hb => ⟨fun hc => ?_, fun hc => ?_⟩⟩
    · by_cases hm : (l.getD x bar0).1 ∈ ids (l.take x)
      · obtain ⟨k, hk, he⟩ := (ids_take_mem hp.1).1 hm
        exact twice_bad hlt' hk he
      · refine preB_bad hlt' ?_
        rw [Bool.eq_false_iff, Ne, okBar_iff]
        simp [hm, -List.getD_eq_getElem?_getD] at hb; omega
    · refine preB_bad hlt' ?_
      rw [Bool.eq_false_iff, Ne, okBar_iff]
      intro hok
      obtain ⟨d1, d2⟩ := okBar_dur (okBar_iff.2 hok)
      rw [less24 d1, d1, d2] at hc
      have hz := (tk_sign (dur_sdur d1)).2
      rw [d2] at hz
      simp [-List.getD_eq_getElem?_getD] at hc
      omega
    · have hm : (l.getD x bar0).1 ∉ ids (l.take x) := by simp [-List.getD_eq_getElem?_getD] at hb; exact hb.1.1.2
      have hd : dur (l.getD x bar0).2.1.1 (l.getD x bar0).2.1.2 = true := by simp [-List.getD_eq_getElem?_getD] at hc; exact hc.1.1
      have e : tb (l.getD x bar0) = tk (l.getD x bar0).2.1.1 (l.getD x bar0).2.1.2 := tks_dur hd
      have h0 := (dur_spec hd).2.2.2.2.2
      have hz := (tk_sign (dur_sdur hd)).2
      rw [less24 hd] at hc
      refine ⟨by unfold InI64; omega, x + 1, preB_next hlt' hp ?_ fun k hk he => hm ((ids_take_mem hp.1).2 ⟨k, hk, he⟩), by omega, by omega, trivial, trivial, trivial, ?_⟩
      · rw [okBar_iff, e]
        simp [hm, -List.getD_eq_getElem?_getD] at hb hc
        omega
      · have hs : _ = seenB (l.take (x + 1)) := (seen_put (l.take x) (l.getD x bar0) hm).trans (by rw [← take_at hlt'])
        first | exact congrArg (fun q : List (Int × Bool) => HO.mp (.ti .i64) .tb q) hs | exact hs | exact hs.symm
  · intro _ _
    have hx' : x = l.length := by have := of_decide_eq_false hge; have := hp.1; omega
    subst hx'
    rw [Bool.eq_iff_iff]
    constructor
    · intro h
      simp at h
      exact preB_end hp (by omega) (by omega)
    · intro h
      have := okBars_iff.1 h
      simp; omega

end Go.Proofs.Ytjghgdccaakfmaa
