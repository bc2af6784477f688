/- The plain proofs. Written by a program (wip/tools/gen.py). -/
import Derived.Test.YthnboahemgmfnaaMeterp
import Derived.Test.YthnboahemgmfnaaMq
namespace Go.Proofs.Ythnboahemgmfnaa
open Go.Sy Go.RatLaw
set_option linter.unusedVariables false
theorem p_none : P_none := ⟨rfl, rfl⟩
theorem p_isDuration (n d : Int) : P_isDuration n d := by
  refine ⟨fun h => ?_, rfl⟩
  rw [Bool.and_eq_true] at h
  exact (vld_bd h.1).2.2.1
theorem p_less (a b c d : Int) : P_less a b c d := rfl
theorem p_begins (l : List Bar) : P_begins l := ⟨rfl, rfl⟩
theorem p_behind (a b c d n k : Int) : P_behind a b c d n k := ⟨rfl, rfl, rfl⟩
theorem p_Duration (n d : Int) : P_Duration n d := by
  unfold P_Duration
  rw [Bool.eq_iff_iff, ← tks_nonneg]
  simp
theorem p_Ticks (n d : Int) : P_Ticks n d := by
  unfold P_Ticks
  refine ⟨fun h => ?_, fun h => ?_, fun h => ?_, fun h => ?_⟩
  · have := of_decide_eq_false h; omega
  · simp only [Bool.or_eq_false_iff, decide_eq_false_iff_not] at h; omega
  · refine (tks_no ?_).symm
    rw [Bool.eq_false_iff]
    intro hd
    obtain ⟨v, hn, hpos, e, _, _⟩ := dur_spec hd
    have hv := vld_iff.1 v
    have h2 : (1680 : Int).tmod d = 0 := by have := Int.mul_tdiv_add_tmod 1680 d; omega
    simp only [Bool.or_eq_true, decide_eq_true_eq, bne_iff_ne] at h
    rcases h with (((h | h) | h) | h) | h
    · omega
    · exact h h2
    · omega
    · omega
    · rw [hv.2.2.2.2] at h; exact h rfl
  · simp only [Bool.or_eq_false_iff, decide_eq_false_iff_not, bne_eq_false_iff_eq] at h
    obtain ⟨⟨⟨⟨h1, h2⟩, h3⟩, h4⟩, h5⟩ := h
    have hd : dur n d = true := by
      unfold dur
      have hle : d ≤ 1680 := Int.le_of_dvd (by decide) (Int.dvd_of_tmod_eq_zero h2)
      have hv : vld n d = true := vld_iff.2 ⟨by omega, by omega, by omega, by omega, by exact_mod_cast h5⟩
      rw [hv]; simp [h2]; omega
    rw [tks_dur hd]
    have hb := tk_bound hd
    have h0 := (dur_spec hd).2.2.2.2.2
    have h6 : 0 ≤ (1680 : Int).tdiv d := Int.tdiv_nonneg (by decide) (by omega)
    have h7 : (1680 : Int).tdiv d ≤ 1680 := Int.le_of_dvd (by decide) ⟨d, by rw [Int.mul_comm]; exact (dur_spec hd).2.2.2.1.symm⟩
    refine ⟨by omega, by unfold InI64; omega, ?_, rfl⟩
    show InI64 (tk n d)
    unfold InI64; omega
theorem p_Of (n : Int) (h0 : 0 ≤ n) (h1 : n ≤ 1000000000000000000) : P_Of n := by
  have hg := gcd_pos (n := n) (d := 1680) (by decide)
  have a := natAbs_tdiv_le n (Int.gcd n 1680)
  have b := natAbs_tdiv_le 1680 (Int.gcd n 1680)
  obtain ⟨e1, e2⟩ := red_pos (n := n) (d := 1680) (by decide)
  exact ⟨h0, by decide, by omega, by unfold InI64; omega, by omega, by unfold InI64; omega, e1, e2⟩
theorem p_rFew (l : List Bar) : P_rFew l := by
  intro _ _ _
  have e1 : decide ((l.length : Int) ≤ 60) = decide (l.length ≤ 60) := by rw [decide_eq_decide]; omega
  have e2 : decide ((l.length : Int) > 4000) = decide (l.length > 4000) := by rw [decide_eq_decide]; omega
  have e3 : decide ((l.length : Int) < 5000) = decide (l.length < 5000) := by rw [decide_eq_decide]; omega
  rw [e1, e2, e3]
theorem d0B : (BT.d0 : BT.T) = bar0 := rfl
theorem toNat_cast (x : Nat) : ((x : Int)).toNat = x := Int.toNat_natCast x
theorem p_begins1 (l : List Bar) (go : Lp (Int × (Int × Int) × Unit)) (hok : ∀ k, go.ok ((items 0 (0, 1) l).take k)) : P_begins1 l go := by
  intro hlen
  have hl := items_len l 0 (0, 1)
  have hlive : ∀ x, x ≤ l.length → (∀ k, 0 < k → k ≤ x → go.1 ((items 0 (0, 1) l).take k) = true) → liveX go ((items 0 (0, 1) l).take x) ((x : Int), ((itB l x).1, (itB l x).2), ()) := by
    intro x hx hg
    refine ⟨?_, ?_⟩
    · cases x with
      | zero => exact .inl rfl
      | succ x => exact .inr (hg _ (by omega) (Nat.le_refl _))
    · have := hok (x + 1)
      rw [items_take l hx] at this
      exact this
  refine ⟨⟨0, ⟨Nat.zero_le _, fun k h1 h2 => by omega⟩, rfl, rfl, rfl, by rw [itB_zero], by rw [itB_zero]⟩, fun x ⟨hx, hg⟩ => ⟨fun hlt => ?_, fun hge => ?_⟩⟩
  · have hlt' : x < l.length := by have := of_decide_eq_true hlt; omega
    have ht : List.take x (items 0 (0, 1) l) ++ [((x : Int), ((itB l x).fst, (itB l x).snd), ())] = (items 0 (0, 1) l).take (x + 1) := (items_take l hx).symm
    refine ⟨by omega, by omega, hlive x hx hg, fun hs => ⟨?_, rfl, rfl⟩, fun hs => ⟨by unfold InI64; omega, x + 1, ⟨hlt', fun k h1 h2 => ?_⟩, by omega, by omega, rfl, rfl, ht, rfl, ?_, ?_, rfl⟩⟩
    · rw [ht] at hs ⊢
      exact (fed_stop go.1 (items 0 (0, 1) l) [] x (by omega) (fun j hj => hg _ (by omega) (by omega)) (by simpa using hs)).symm
    · by_cases e : k = x + 1
      · subst e; rw [ht] at hs; simpa using hs
      · exact hg k h1 (by omega)
    · rw [d0B, toNat_cast, itB_next hlt']
    · rw [d0B, toNat_cast, itB_next hlt']
  · intro _
    have hx' : x = l.length := by have := of_decide_eq_false hge; omega
    subst hx'
    have ht := items_take l hx
    rw [show (items 0 (0, 1) l).take (l.length + 1) = items 0 (0, 1) l by rw [← hl, List.take_length]] at ht
    refine ⟨hlive l.length hx hg, ?_, rfl, rfl⟩
    refine (ht.symm).trans ?_
    have := fed_last go.1 (items 0 (0, 1) l) [] l.length (by omega) (fun j hj => hg _ (by omega) (by omega)) hl.symm
    exact this.symm
theorem p_beginning (l : List Bar) (b : Int) : P_beginning l b := by
  refine ⟨fun _ => trivial, rfl, trivial, ⟨rfl, rfl⟩, fun hist _ x hl => ⟨fun h => ?_, fun h => ?_⟩, fun _ => ⟨fun h => ?_, fun h _ => ?_, trivial⟩⟩
  · have h : x.1 = b := by simpa using h
    rw [notAt_concat, resAt_concat, if_pos h]
    simp [h]
  · have h : x.1 ≠ b := by simpa using h
    have hh : resAt b hist = (0, 0) := by
      rcases hl.1 with e | e
      · rw [e]; rfl
      · unfold resAt
        have e : notAt b hist = true := e
        unfold notAt at e
        cases hq : hist.getLast? with
        | none => rfl
        | some y =>
          rw [hq] at e
          have : y.1 ≠ b := by simpa using e
          simp only; rw [if_neg this]
    rw [notAt_concat, resAt_concat, if_neg h, hh]
    simp [h]
  · rcases fed_beg l b with ⟨h1, h2, e⟩ | ⟨h1, h2⟩
    · have h : fed (notAt b) [] (items 0 (0, 1) l) = [] ∨ notAt b (fed (notAt b) [] (items 0 (0, 1) l)) = true := h
      rw [e] at h
      rcases h with h | h
      · simp at h
      · have h : notAt b ((items 0 (0, 1) l).take b.toNat ++ [(b, begAt l b, ())]) = true := h
        rw [notAt_concat] at h; simp at h
    · rw [begAt_out h1]; exact ⟨rfl, rfl⟩
  · rcases fed_beg l b with ⟨h1, h2, e⟩ | ⟨h1, hh, t, e⟩
    · show (resAt b (fed (notAt b) [] (items 0 (0, 1) l))).1 = _ ∧ (resAt b (fed (notAt b) [] (items 0 (0, 1) l))).2 = _
      rw [e, resAt_concat, if_pos rfl]; exact ⟨rfl, rfl⟩
    · exfalso
      apply h
      show fed (notAt b) [] (items 0 (0, 1) l) = [] ∨ notAt b (fed (notAt b) [] (items 0 (0, 1) l)) = true
      rw [e]
      refine .inr ?_
      rw [notAt_concat]; simp; omega
theorem bet {P Q : Prop} (hp : P) (hq : P → Q) : P ∧ Q := ⟨hp, hq hp⟩
theorem lenC (l : List Bar) {b : Int} : ¬ (decide (b < 0) || decide (b ≥ (l.length : Int)) || false) = true ↔ 0 ≤ b ∧ b < l.length := by simp
theorem p_isPosition (l : List Bar) (b n d : Int) (hl : okBars l = true) : P_isPosition l b n d := by
  intro _
  refine ⟨fun h => ?_, fun h _ => ⟨fun h2 => ?_, fun h2 => ?_⟩⟩
  · simp only [Bool.and_eq_true, beq_iff_eq] at h
    obtain ⟨h1, h2, h3⟩ := h
    rw [eq_comm, posS_iff, h2, h3, tks_dur dur01, tk01]
    omega
  · rw [eq_comm, Bool.eq_false_iff]
    intro hp
    have hd := tks_nonneg.1 (posS_iff.1 hp).2.1
    obtain ⟨h3, h4, h5⟩ := posS_iff.1 hp
    rw [hd] at h2
    have hb : b ≥ l.length := by simp at h2; omega
    have h6 : b = l.length ∧ tks n d = 0 := by omega
    rw [tks_dur hd] at h6
    have := dur_eq hd
    rw [h6.2, ofT0] at this
    injection this with e1 e2
    subst e1 e2
    simp [h6.1] at h
  · simp only [Bool.or_eq_false_iff, decide_eq_false_iff_not, Bool.not_eq_false'] at h2
    obtain ⟨⟨h3, h4⟩, hd⟩ := h2
    refine ⟨by omega, by omega, ?_⟩
    have hm : barAt l b ∈ l := barAt_mem (by omega) (by omega)
    obtain ⟨d1, d2⟩ := okBar_dur ((okBars_iff.1 hl).2.2.1 _ hm)
    rw [d0B]
    show lessR n d (barAt l b).2.1.1 (barAt l b).2.1.2 = posS l b n d
    rw [less_dur hd d1, d2, Bool.eq_iff_iff, posS_iff, tks_dur hd]
    have := (dur_spec hd).2.2.2.2.2
    simp; omega
theorem p_Position (l : List Bar) (b n d : Int) : P_Position l b n d := by
  intro _
  refine ⟨fun h => ?_, fun h _ => ⟨fun h2 => ?_, fun h2 => ?_⟩⟩
  · rw [eq_comm, Bool.eq_false_iff]
    intro hp
    obtain ⟨h3, h4, h5⟩ := posS_iff.1 hp
    simp at h; omega
  · rw [Bool.eq_iff_iff, posS_iff]
    simp at h h2 ⊢; omega
  · rw [d0B, Bool.eq_iff_iff, posS_iff]
    simp only [Bool.or_eq_false_iff, decide_eq_false_iff_not, beq_eq_false_iff_ne] at h h2
    refine ⟨by omega, by omega, ?_⟩
    simp only [decide_eq_true_eq]
    show tks n d < tb (barAt l b) ↔ _
    omega
theorem p_mTotal (l : List Bar) : P_mTotal l := by
  refine ⟨fun h => ?_, fun h _ => ?_⟩
  · have h : okBars l = false := by simpa using h
    unfold totS; rw [h]; exact ⟨rfl, rfl, rfl⟩
  · have h : okBars l = true := by simpa using h
    rw [begAt_ok h ⟨by omega, Int.le_refl _⟩, Int.toNat_natCast, List.take_length]
    unfold totS; rw [h]; exact ⟨rfl, rfl, rfl⟩
theorem p_rTotal (l : List Bar) : P_rTotal l := by
  refine ⟨fun h => ?_, fun h _ => ?_⟩
  · have h : okBars l = false := by simpa using h
    unfold totS; rw [h]; exact ⟨rfl, rfl, rfl⟩
  · have h : okBars l = true := by simpa using h
    have h1 := okBars_iff.1 h
    have h2 := bef_all h
    rw [Int.toNat_natCast, List.take_length]
    unfold totS; rw [h]; exact ⟨by omega, by omega, by omega, by omega, by omega, rfl, rfl, rfl⟩
theorem p_Before (l : List Bar) (b : Int) (h0 : 0 ≤ b) (h1 : b ≤ l.length) (h2 : l.length ≤ 10000) : P_Before l b := by
  have hbd : ∀ x, -10000 ≤ bef (l.take x) ∧ bef (l.take x) ≤ 16800000000000000 := by
    intro x
    have : ∀ m : List Bar, -(m.length : Int) ≤ bef m ∧ bef m ≤ 1680000000000 * m.length := by
      intro m
      induction m with
      | nil => simp [bef]
      | cons a r ih => rw [bef_cons, List.length_cons]; have := tks_bound (n := a.2.1.1) (d := a.2.1.2); unfold tb; omega
    have h3 := this (l.take x)
    have : (l.take x).length ≤ l.length := by rw [List.length_take]; omega
    omega
  refine ⟨⟨0, Nat.zero_le _, rfl, rfl⟩, fun x hx => ⟨fun hlt => ?_, fun hge => ?_⟩⟩
  · have hlt' : x < b.toNat := by have := of_decide_eq_true hlt; omega
    have := bef_succ (l := l) (x := x) (by omega)
    have h3 := hbd (x + 1)
    rw [d0B, toNat_cast]
    have e : bef (l.take x) + tks (l.getD x bar0).2.1.1 (l.getD x bar0).2.1.2 = bef (l.take (x + 1)) := this.symm
    rw [e]
    exact ⟨by omega, by omega, by unfold InI64; omega, by unfold InI64; omega, x + 1, by omega, by omega, by omega, rfl, rfl, rfl, rfl⟩
  · have : x = b.toNat := by have := of_decide_eq_false hge; omega
    rw [this]
theorem p_mTime (l : List Bar) (b n d : Int) : P_mTime l b n d := by
  refine ⟨fun h => by simpa using h, fun h => ?_, fun h => ?_⟩
  · unfold timeS
    have : (okBars l && posS l b n d) = false := by rw [Bool.eq_false_iff]; intro hh; rw [Bool.and_eq_true] at hh; rw [hh.1, hh.2] at h; simp at h
    rw [this]; exact ⟨rfl, rfl, rfl⟩
  · simp only [Bool.or_eq_false_iff, Bool.not_eq_false'] at h
    obtain ⟨h1, h2⟩ := h
    obtain ⟨hd, h3, h4, h5, h6, h7, h8⟩ := posS_ahead h1 h2
    have hb := bef_take h1 b.toNat
    unfold timeS
    rw [h1, h2, begAt_ok h1 ⟨h3, h4⟩, add_dur (dur_ofT hb.1 (by omega)) hd (by rw [tk_ofT hb.1 (by omega)]; omega), tk_ofT hb.1 (by omega)]
    exact ⟨rfl, rfl, rfl⟩
theorem p_rTime (l : List Bar) (b n d : Int) : P_rTime l b n d := by
  refine ⟨fun h => ?_, fun h => ?_⟩
  · unfold timeS
    have : (okBars l && posS l b n d) = false := by rw [Bool.eq_false_iff]; intro hh; rw [Bool.and_eq_true] at hh; rw [hh.1, hh.2] at h; simp at h
    rw [this]; exact ⟨rfl, rfl, rfl⟩
  · simp only [Bool.or_eq_false_iff, Bool.not_eq_false'] at h
    obtain ⟨h1, h2⟩ := h
    obtain ⟨hd, h3, h4, h5, h6, h7, h8⟩ := posS_ahead h1 h2
    have hb := bef_take h1 b.toNat
    have h9 := okBars_iff.1 h1
    unfold timeS
    rw [h1, h2, tks_dur hd]
    unfold aheadB at h7 h8
    exact ⟨h3, h4, by omega, by unfold InI64; omega, by omega, by omega, rfl, rfl, rfl⟩
theorem p_mat (l : List Bar) (n d : Int) (hl : okBars l = true) (hd : dur n d = true) : P_mat l n d := by
  have hil := items_len l 0 (0, 1)
  obtain ⟨h, z, e1, e2, e3⟩ := fed_at hl hd
  refine ⟨fun k => ⟨k, rfl⟩, rfl, trivial, ⟨rfl, rfl, rfl, rfl⟩, fun hist _ x hx => ?_, fun _ => ⟨fun hv => ?_, fun _ _ => ?_, trivial⟩⟩
  · have hh : outAt l n d hist = (0, 0, 0, 0) := by
      rcases hx.1 with e | e
      · rw [e]; rfl
      · have e : goAt l n d hist = true := e
        unfold goAt at e
        unfold outAt
        cases hq : hist.getLast? with
        | none => rfl
        | some y => rw [hq] at e; simp only at e ⊢; rw [if_pos e]
    obtain ⟨k, hk⟩ := hx.2
    have hxs : ∃ j : Nat, j ≤ l.length ∧ x.1 = j := by
      have hm : x ∈ items 0 (0, 1) l := List.mem_of_mem_take (show x ∈ (items 0 (0, 1) l).take k from by rw [← hk]; simp)
      obtain ⟨j, hj, hjx⟩ := List.mem_iff_getElem.1 hm
      have := items_at l (x := j) (by omega)
      rw [List.getElem?_eq_getElem hj, hjx] at this
      injection this with this
      exact ⟨j, by omega, by rw [this]⟩
    obtain ⟨j, hj, hjx⟩ := hxs
    show (lessR n d x.2.1.1 x.2.1.2 = true → goAt l n d (hist ++ [x]) = false ∧ _) ∧ (lessR n d x.2.1.1 x.2.1.2 = false → _)
    rw [hh, goAt_concat, outAt_concat, d0B]
    have eg : goOn l n d x = (!lessR n d x.2.1.1 x.2.1.2 && (decide (x.1 < l.length) && behS n d x.2.1.1 x.2.1.2 (l.getD x.1.toNat bar0).2.1.1 (l.getD x.1.toNat bar0).2.1.2)) := rfl
    refine ⟨fun h => ?_, fun h => ⟨fun h1 => ?_, fun _ => ⟨fun h2 => ?_, fun h2 _ => ⟨fun h3 => ⟨fun _ => ?_, fun h => by cases h⟩, fun h3 => ⟨fun h4 => ?_, fun h4 => ?_⟩⟩⟩⟩⟩
    · rw [eg, h]; simp [stopAt, h]
    · have := of_decide_eq_true h1; omega
    · rw [eg, h, h2]; simp
    · rw [eg, h, h2]
      have : stopAt l n d x = (0, 0, 0, 3) := by
        unfold stopAt; rw [h, if_neg (by simp), if_pos]
        simp only [Bool.and_eq_true, beq_iff_eq, Bool.not_eq_true', Bool.and_eq_false_iff, beq_eq_false_iff_ne] at h3
        refine .inl ⟨h3.1, fun hc => ?_⟩
        rcases h3.2 with h5 | h5
        · exact h5 hc.1
        · exact h5 hc.2
      rw [this]; simp
    · rw [eg, h, h2]
      have : stopAt l n d x = (0, 0, 0, 3) := by
        unfold stopAt; rw [h, if_neg (by simp), if_pos]
        exact .inr (by simpa using h4)
      rw [this]; simp
    · rw [eg, h, h2]
      have : stopAt l n d x = (x.1, (subR n d x.2.1.1 x.2.1.2).1, (subR n d x.2.1.1 x.2.1.2).2.1, 0) := by
        unfold stopAt; rw [h, if_neg (by simp), if_neg]
        rintro (⟨h5, h6⟩ | h5)
        · simp only [Bool.and_eq_false_iff, beq_eq_false_iff_ne, Bool.not_eq_false', Bool.and_eq_true, beq_iff_eq] at h3
          rcases h3 with h3 | h3
          · exact h3 h5
          · exact h6 h3
        · exact h5 (by simpa using h4)
      rw [this]; simp
  · exfalso
    have hv : fed (goAt l n d) [] (items 0 (0, 1) l) = [] ∨ goAt l n d (fed (goAt l n d) [] (items 0 (0, 1) l)) = true := hv
    rw [e1, goAt_concat, e2] at hv
    simp at hv
  · show (outAt l n d (fed (goAt l n d) [] (items 0 (0, 1) l))).1 = _ ∧ (outAt l n d (fed (goAt l n d) [] (items 0 (0, 1) l))).2.1 = _ ∧ (outAt l n d (fed (goAt l n d) [] (items 0 (0, 1) l))).2.2.1 = _ ∧ (outAt l n d (fed (goAt l n d) [] (items 0 (0, 1) l))).2.2.2 = _
    rw [e1, outAt_concat, e2, e3]
    exact ⟨rfl, rfl, rfl, rfl⟩
theorem p_mWhere (l : List Bar) (n d : Int) : P_mWhere l n d := by
  refine ⟨fun h => ?_, fun h => ?_⟩
  · unfold whereS
    have : (okBars l && dur n d) = false := by rw [Bool.eq_false_iff]; intro hh; rw [Bool.and_eq_true] at hh; rw [hh.1, hh.2] at h; simp at h
    rw [this]; exact ⟨rfl, rfl, rfl, rfl⟩
  · simp only [Bool.or_eq_false_iff, Bool.not_eq_false'] at h
    obtain ⟨h1, h2⟩ := h
    unfold whereS; rw [h1, h2]; exact ⟨rfl, rfl, rfl, rfl, rfl, rfl⟩
theorem posOf_err {m : Option (Int × Int)} : ((posOf 1 m).2.2.2 == 0) = m.isSome ∧ (m.isSome = true → posOf 1 m = posOf 3 m) ∧ (m.isSome = false → posOf 3 m = (0, 0, 0, 3)) := by
  cases m with
  | none => exact ⟨rfl, (fun h => by cases h), fun _ => rfl⟩
  | some y => exact ⟨rfl, (fun _ => rfl), fun h => by cases h⟩
theorem p_rWhere (l : List Bar) (n d : Int) : P_rWhere l n d := by
  refine ⟨fun h => ?_, fun h => ?_⟩
  · unfold whereS
    have : (okBars l && dur n d) = false := by rw [Bool.eq_false_iff]; intro hh; rw [Bool.and_eq_true] at hh; rw [hh.1, hh.2] at h; simp at h
    rw [this]; exact ⟨rfl, rfl, rfl, rfl⟩
  · simp only [Bool.or_eq_false_iff, Bool.not_eq_false'] at h
    obtain ⟨h1, h2⟩ := h
    have hb := tk_bound h2
    have h0 := (dur_spec h2).2.2.2.2.2
    obtain ⟨q1, q2, q3⟩ := posOf_err (m := find l (tk n d))
    unfold whereS; rw [h1, h2, tks_dur h2, q1]
    refine ⟨rfl, by omega, by omega, fun h => ?_, fun h => ?_⟩
    · rw [Bool.and_true, if_pos rfl, q3 (by simpa using h)]; exact ⟨rfl, rfl, rfl, rfl⟩
    · have hs : (find l (tk n d)).isSome = true := by simpa using h
      rw [Bool.and_true, if_pos rfl, q2 hs]
      cases hf : find l (tk n d) with
      | none => rw [hf] at hs; cases hs
      | some y => exact ⟨rfl, rfl, rfl, rfl⟩
theorem p_rat6 (l : List Bar) (n : Int) (hl : okBars l = true) (h0 : -1000000000000000 ≤ n) (h1 : n ≤ 1000000000000000) : P_rat6 l n := by
  refine ⟨⟨0, atR_zero l n, rfl, by simp [bef]⟩, fun x hx _ => ⟨fun hlt => ?_, fun hge => ?_⟩⟩
  · have hlt' : x < l.length := by have := of_decide_eq_true hlt; omega
    have hb := bef_take hl x
    have hob := okBar_iff.1 ((okBars_iff.1 hl).2.2.1 _ (mem_getD hlt'))
    rw [d0B, toNat_cast]
    have e : tks (l.getD x bar0).2.1.1 (l.getD x bar0).2.1.2 = tb (l.getD x bar0) := rfl
    rw [e]
    refine ⟨by omega, by omega, fun h => ?_, fun h => ?_⟩
    · simp only [Bool.and_eq_true, decide_eq_true_eq] at h
      rw [atR_in hx hlt' ⟨by omega, h.2⟩]
      exact ⟨by omega, by omega, rfl, rfl, rfl, rfl⟩
    · have hn : ¬(0 ≤ n - bef (l.take x) ∧ n - bef (l.take x) < tb (l.getD x bar0)) := by
        intro hc
        simp only [Bool.and_eq_false_iff, decide_eq_false_iff_not] at h
        omega
      have hs := bef_succ hlt'
      exact ⟨by unfold InI64; omega, by unfold InI64; omega, x + 1, atR_next hx hlt' hn, by omega, by omega, by omega, rfl, rfl, rfl, rfl⟩
  · have hx' : x = l.length := by have := of_decide_eq_false hge; have := hx.1; omega
    subst hx'
    rw [List.take_length]
    have he := atR_end hx
    refine ⟨fun h _ => ?_, fun h => ?_⟩
    · have h : n - bef l = 0 := by simpa using h
      rw [he, if_pos h]
      exact ⟨by decide, by decide, rfl, rfl, rfl, rfl⟩
    · have h : n - bef l ≠ 0 := by simpa using h
      rw [he, if_neg h]; exact ⟨rfl, rfl, rfl, rfl⟩
theorem dur_negW {x y : Int} (hx : InI64 x) : dur (negW x) y = dur (-x) y := by
  by_cases h : x = -9223372036854775808
  · subst h
    rw [show negW (-9223372036854775808) = -9223372036854775808 by decide]
    have a : dur (-9223372036854775808) y = false := by unfold dur vld; simp
    have b : dur (- -9223372036854775808) y = false := by unfold dur vld; simp
    rw [a, b]
  · rw [negW_eq (by unfold InI64 at *; omega)]
theorem p_rShift (l : List Bar) (b n d x y : Int) (hx : InI64 x) : P_rShift l b n d x y := by
  unfold P_rShift
  rw [dur_negW hx]
  refine ⟨fun h => ?_, fun h => ?_⟩
  · unfold shiftS
    have : (okBars l && posS l b n d && (dur x y || dur (-x) y)) = false := by
      rw [Bool.eq_false_iff]; intro hh; rw [Bool.and_eq_true, Bool.and_eq_true] at hh; rw [hh.1.1, hh.1.2] at h
      rw [← Bool.not_or, hh.2] at h
      simp at h
    rw [this]; exact ⟨rfl, rfl, rfl, rfl⟩
  · simp only [Bool.or_eq_false_iff, Bool.not_eq_false'] at h
    obtain ⟨⟨h1, h2⟩, h3⟩ := h
    have h3 : (dur x y || dur (-x) y) = true := by rw [← Bool.not_or] at h3; simpa only [Bool.not_eq_false'] using h3
    obtain ⟨hd, h4, h5, h6, h7, h8, h9⟩ := posS_ahead h1 h2
    have hlen := okBars_iff.1 h1
    have key : ∀ s : Int, s = tk x y → -1680000000000 ≤ s → s ≤ 1680000000000 → InI64 (bef (List.take b.toNat l) + tks n d + s) ∧ okBars l = true ∧ -1000000000000000 ≤ bef (List.take b.toNat l) + tks n d + s ∧ bef (List.take b.toNat l) + tks n d + s ≤ 1000000000000000 ∧
        ((decide (bef (List.take b.toNat l) + tks n d + s < 0) || !(posOf 1 (find l (bef (List.take b.toNat l) + tks n d + s))).2.2.2 == 0) = true → 0 = (shiftS l b n d x y).1 ∧ 0 = (shiftS l b n d x y).2.1 ∧ 0 = (shiftS l b n d x y).2.2.1 ∧ 3 = (shiftS l b n d x y).2.2.2) ∧
        ((decide (bef (List.take b.toNat l) + tks n d + s < 0) || !(posOf 1 (find l (bef (List.take b.toNat l) + tks n d + s))).2.2.2 == 0) = false →
          (posOf 1 (find l (bef (List.take b.toNat l) + tks n d + s))).1 = (shiftS l b n d x y).1 ∧ (posOf 1 (find l (bef (List.take b.toNat l) + tks n d + s))).2.1 = (shiftS l b n d x y).2.1 ∧ (posOf 1 (find l (bef (List.take b.toNat l) + tks n d + s))).2.2.1 = (shiftS l b n d x y).2.2.1 ∧ 0 = (shiftS l b n d x y).2.2.2) := by
      intro s hs hs0 hs1
      have e : bef (List.take b.toNat l) + tks n d + s = aheadB l b n d + tk x y := by rw [hs, tks_dur hd]; rfl
      rw [e, ← hs]
      have esh : shiftS l b n d x y = posOf 3 (find l (aheadB l b n d + s)) := by unfold shiftS; rw [h1, h2, h3, hs]; rfl
      rw [esh]
      obtain ⟨q1, q2, q3⟩ := posOf_err (m := find l (aheadB l b n d + s))
      rw [q1]
      refine ⟨by unfold InI64; omega, h1, by omega, by omega, fun h => ?_, fun h => ?_⟩
      · have : (find l (aheadB l b n d + s)).isSome = false := by
          rcases Bool.or_eq_true _ _ ▸ h with h | h
          · rw [find_none hlen.2.2.1 (.inl (of_decide_eq_true h))]; rfl
          · simpa using h
        rw [q3 this]; exact ⟨rfl, rfl, rfl, rfl⟩
      · have hs : (find l (aheadB l b n d + s)).isSome = true := by rw [Bool.or_eq_false_iff] at h; simpa using h.2
        rw [q2 hs]
        cases hf : find l (aheadB l b n d + s) with
        | none => rw [hf] at hs; cases hs
        | some y => exact ⟨rfl, rfl, rfl, rfl⟩
    refine ⟨h4, h5, by omega, by rw [tks_dur hd]; unfold aheadB at h8 h9; unfold InI64; omega, fun hxy => ?_, fun hxy => ?_⟩
    · have := tk_bound hxy
      have := (dur_spec hxy).2.2.2.2.2
      exact key (tks x y) (tks_dur hxy) (by rw [tks_dur hxy]; omega) (by rw [tks_dur hxy]; omega)
    · rw [hxy, Bool.false_or] at h3
      have hb := tk_bound h3
      have h0 := (dur_spec h3).2.2.2.2.2
      have hne : x ≠ -9223372036854775808 := by
        intro e; subst e; have h3' : dur (- -9223372036854775808) y = false := by unfold dur vld; simp
        rw [h3'] at h3; cases h3
      rw [negW_eq (by unfold InI64 at *; omega), tks_dur h3, tk_neg, Int.sub_neg]
      rw [tk_neg] at hb h0
      exact key (tk x y) rfl (by omega) (by omega)
theorem p_mShift (l : List Bar) (b n d x y : Int) (hx : InI64 x) : P_mShift l b n d x y := by
  unfold P_mShift
  rw [dur_negW hx]
  by_cases hp : (okBars l && posS l b n d) = true
  · obtain ⟨h1, h2⟩ := Bool.and_eq_true _ _ ▸ hp
    obtain ⟨hd, h4, h5, h6, h7, h8, h9⟩ := posS_ahead h1 h2
    have ht : timeS l b n d = ((ofT (aheadB l b n d)).1, (ofT (aheadB l b n d)).2, 0) := by unfold timeS; rw [hp, if_pos rfl]
    rw [ht]
    refine ⟨fun h => ?_, fun h => ?_⟩
    · have : (dur x y || dur (-x) y) = false := by rw [← Bool.not_or] at h; simpa using h
      unfold shiftS; rw [h1, h2, this]; exact ⟨rfl, rfl, rfl, rfl⟩
    · have h3 : (dur x y || dur (-x) y) = true := by rw [← Bool.not_or, Bool.or_eq_false_iff] at h; simpa only [Bool.not_eq_false'] using h.2
      have hs : sdur x y = true := by
        rcases Bool.or_eq_true _ _ ▸ h3 with h | h
        · exact dur_sdur h
        · have := dur_sdur h; rwa [sdur_neg] at this
      have esh : shiftS l b n d x y = posOf 3 (find l (aheadB l b n d + tk x y)) := by unfold shiftS; rw [h1, h2, h3]; rfl
      have hlen := okBars_iff.1 h1
      rw [esh, sadd (dur_sdur (dur_ofT h8 (by omega))) hs, tk_ofT h8 (by omega)]
      refine ⟨fun h => ?_, fun h => ?_⟩
      · have : find l (aheadB l b n d + tk x y) = none := by
          apply find_none hlen.2.2.1
          rcases mk_cases0 (aheadB l b n d + tk x y) with e | e
          · by_cases hneg : aheadB l b n d + tk x y < 0
            · exact .inl hneg
            · by_cases hgt : bef l < aheadB l b n d + tk x y
              · exact .inr hgt
              · have ha := bef_all h1
                have := (ofT_spec (t := aheadB l b n d + tk x y) (by omega) (by omega)).2.2
                rw [this] at e; injection e with e1 e2; injection e2 with e2 e3; cases e3
          · have ho := mk_ok e
            rw [e] at h
            have hneg : (mk (aheadB l b n d + tk x y) 1680).1 < 0 := by simpa using h
            have hsg := (tk_sign ho.1).1
            rw [ho.2] at hsg
            exact .inl (by omega)
        rw [this]; exact ⟨rfl, rfl, rfl, rfl⟩
      · simp only [Bool.or_eq_false_iff, bne_eq_false_iff_eq, decide_eq_false_iff_not] at h
        have ho := mk_ok h.1
        rw [ho.2]
        exact ⟨h1, sdur_dur ho.1 (by omega), rfl, rfl, rfl, rfl⟩
  · have hp : (okBars l && posS l b n d) = false := by simpa using hp
    have ht : timeS l b n d = (0, 0, 1) := by unfold timeS; rw [hp]; rfl
    have hs : shiftS l b n d x y = (0, 0, 0, 1) := by unfold shiftS; rw [hp]; rfl
    rw [ht, hs]
    exact ⟨fun _ => ⟨rfl, rfl, rfl, rfl⟩, fun h => by simp at h⟩
theorem preB_zero (l : List Bar) : preB l 0 := ⟨Nat.zero_le _, (fun b h => by simp at h), by simp [ids]⟩
theorem preB_bad {l : List Bar} {x : Nat} (hx : x < l.length) (h : okBar (l.getD x bar0) = false) : false = okBars l := by
  rw [eq_comm, Bool.eq_false_iff]
  intro hl
  have := (okBars_iff.1 hl).2.2.1 _ (mem_getD hx)
  rw [h] at this; cases this
theorem ids_get {l : List Bar} {k : Nat} (h : k < l.length) : (l.getD k bar0).1 = (ids l)[k]'(by simpa [ids] using h) := by
  simp [ids, List.getD_eq_getElem?_getD, List.getElem?_eq_getElem h]
theorem twice_bad {l : List Bar} {x y : Nat} (hx : x < l.length) (hy : y < x) (h : (l.getD y bar0).1 = (l.getD x bar0).1) : false = okBars l := by
  rw [eq_comm, Bool.eq_false_iff]
  intro hl
  have hn := (okBars_iff.1 hl).2.2.2
  rw [ids_get (by omega), ids_get hx] at h
  exact (List.pairwise_iff_getElem.1 hn) y x (by simp [ids]; omega) (by simpa [ids] using hx) hy h
theorem preB_next {l : List Bar} {x : Nat} (hx : x < l.length) (h : preB l x) (hb : okBar (l.getD x bar0) = true) (hn : ∀ k, k < x → (l.getD k bar0).1 ≠ (l.getD x bar0).1) : preB l (x + 1) := by
  refine ⟨hx, fun b hb' => ?_, ?_⟩
  · rw [take_at hx] at hb'
    rcases List.mem_append.1 hb' with hb' | hb'
    · exact h.2.1 b hb'
    · rw [List.mem_singleton.1 hb']; exact hb
  · rw [take_at hx]
    unfold ids
    rw [List.map_append, List.nodup_append]
    refine ⟨h.2.2, by simp, fun a ha c hc => ?_⟩
    simp only [List.map_cons, List.map_nil, List.mem_singleton] at hc
    rw [hc]
    obtain ⟨q, hq, rfl⟩ := List.mem_map.1 ha
    obtain ⟨k, hk, rfl⟩ := List.mem_iff_getElem.1 hq
    have hk' : k < x := by rw [List.length_take] at hk; omega
    have := hn k hk'
    rw [List.getD_eq_getElem?_getD, List.getElem?_eq_getElem (by omega)] at this
    simpa using this
theorem preB_end {l : List Bar} (h : preB l l.length) (h1 : 1 ≤ l.length) (h2 : l.length ≤ 4000) : okBars l = true := by
  obtain ⟨_, h3, h4⟩ := h
  rw [List.take_length] at h3 h4
  exact okBars_iff.2 ⟨h1, h2, h3, h4⟩
theorem seen_get (l : List Bar) (i : Int) : (mget (Ty.ti .i64).beq i (seenB l)).getD Ty.tb.d0 = decide (i ∈ ids l) := by
  induction l with
  | nil => simp [seenB, ids, mget]; rfl
  | cons b r ih =>
    unfold seenB ids at *
    simp only [List.map_cons, mget]
    by_cases h : i = b.1
    · rw [if_pos (by simp [Ty.beq, h])]; simp [h]; rfl
    · rw [if_neg (by simpa [Ty.beq] using h)]
      rw [ih]; simp [h]
theorem seen_put (l : List Bar) (b : Bar) (h : b.1 ∉ ids l) : mput (Ty.ti .i64).beq b.1 true (seenB l) = seenB (l ++ [b]) := by
  induction l with
  | nil => rfl
  | cons a r ih =>
    have h1 : b.1 ≠ a.1 := fun e => h (by simp [ids, e])
    have h2 : b.1 ∉ ids r := fun e => h (by simp [ids] at e ⊢; exact .inr e)
    have := ih h2
    unfold seenB ids at *
    simp only [List.map_cons, List.cons_append, mput]
    rw [if_neg (by simpa [Ty.beq] using h1), this]; rfl
theorem ids_take_mem {l : List Bar} {x : Nat} {i : Int} (hx : x ≤ l.length) : i ∈ ids (l.take x) ↔ ∃ k, k < x ∧ (l.getD k bar0).1 = i := by
  unfold ids
  rw [List.mem_map]
  constructor
  · rintro ⟨b, hb, rfl⟩
    obtain ⟨k, hk, rfl⟩ := List.mem_iff_getElem.1 hb
    have hk' : k < x := by rw [List.length_take] at hk; omega
    refine ⟨k, hk', ?_⟩
    rw [List.getD_eq_getElem?_getD, List.getElem?_eq_getElem (by omega)]; simp
  · rintro ⟨k, hk, rfl⟩
    refine ⟨l.getD k bar0, ?_, rfl⟩
    rw [List.getD_eq_getElem?_getD, List.getElem?_eq_getElem (by omega)]
    exact List.mem_iff_getElem.2 ⟨k, by rw [List.length_take]; omega, by simp⟩
theorem p_rValid (l : List Bar) : P_rValid l := by
  intro _ _
  refine ⟨fun h => ?_, fun h0 => ⟨⟨0, preB_zero l, rfl⟩, fun x hp _ => ⟨fun hlt => ?_, fun hge => ?_⟩⟩⟩
  · rw [eq_comm, Bool.eq_false_iff]
    intro hl
    have := okBars_iff.1 hl
    simp at h; omega
  · have hlt' : x < l.length := by have := of_decide_eq_true hlt; omega
    simp only [d0B, toNat_cast]
    have e : tks (l.getD x bar0).2.1.1 (l.getD x bar0).2.1.2 = tb (l.getD x bar0) := rfl
    rw [e]
    refine ⟨by omega, by omega, by omega, by omega, fun _ => ⟨by omega, by omega⟩, fun _ => ⟨by omega, by omega⟩, fun _ => ⟨by omega, by omega⟩, fun hb => ?_, fun hb => ⟨⟨0, ⟨Nat.zero_le _, fun k hk => by omega⟩, rfl⟩, fun y hy => ⟨fun hyx => ?_, fun hyx => ?_⟩⟩⟩
    · refine preB_bad hlt' ?_
      rw [Bool.eq_false_iff, Ne, okBar_iff]
      simp [-List.getD_eq_getElem?_getD] at hb; omega
    · have hyx' : y < x := by have := of_decide_eq_true hyx; omega
      have ex : (barAt l (x : Int)) = l.getD x bar0 := by unfold barAt; rw [toNat_cast]
      refine ⟨by omega, by omega, by omega, by omega, fun h => twice_bad hlt' hyx' (by simpa using h), fun h => ⟨by unfold InI64; omega, y + 1, ⟨by omega, fun k hk => ?_⟩, by omega, by omega, trivial, trivial, trivial, trivial, trivial, trivial⟩⟩
      by_cases hky : k = y
      · rw [hky, ex]; simpa using h
      · exact hy.2 k (by omega)
    · have hyx' : y = x := by have := of_decide_eq_false hyx; have := hy.1; omega
      have ex : (barAt l (x : Int)) = l.getD x bar0 := by unfold barAt; rw [toNat_cast]
      refine ⟨by unfold InI64; omega, x + 1, preB_next hlt' hp ?_ fun k hk => ?_, by omega, by omega, trivial, trivial⟩
      · rw [okBar_iff]; simp [-List.getD_eq_getElem?_getD] at hb; omega
      · have := hy.2 k (by omega); rwa [ex] at this
  · have hx' : x = l.length := by have := of_decide_eq_false hge; have := hp.1; omega
    subst hx'
    simp at h0
    exact (preB_end hp (by omega) (by omega)).symm
theorem less24 {a b : Int} (h : dur a b = true) : decide ((compareR 24 1 a b).1 < 0) = decide (40320 < tk a b) := by
  have := less_dur (a := 24) (b := 1) (by decide) h
  rw [show tk 24 1 = 40320 by decide] at this
  exact this
theorem p_mValid (l : List Bar) : P_mValid l := by
  intro _
  refine ⟨⟨0, preB_zero l, rfl, rfl⟩, fun x hp => ⟨fun hlt => ?_, fun hge => ?_⟩⟩
  · have hlt' : x < l.length := by have := of_decide_eq_true hlt; omega
    simp only [d0B, toNat_cast, seen_get]
    refine ⟨by omega, by omega, fun hb => ?_, fun hb => ⟨fun hc => ?_, fun hc => ?_⟩⟩
    · by_cases hm : (l.getD x bar0).1 ∈ ids (l.take x)
      · obtain ⟨k, hk, he⟩ := (ids_take_mem hp.1).1 hm
        exact twice_bad hlt' hk he
      · refine preB_bad hlt' ?_
        rw [Bool.eq_false_iff, Ne, okBar_iff]
        simp [hm, -List.getD_eq_getElem?_getD] at hb; omega
    · refine preB_bad hlt' ?_
      rw [Bool.eq_false_iff, Ne, okBar_iff]
      intro hok
      obtain ⟨d1, d2⟩ := okBar_dur (okBar_iff.2 hok)
      rw [less24 d1, d1, d2] at hc
      have hz := (tk_sign (dur_sdur d1)).2
      rw [d2] at hz
      simp [-List.getD_eq_getElem?_getD] at hc
      omega
    · have hm : (l.getD x bar0).1 ∉ ids (l.take x) := by simp [-List.getD_eq_getElem?_getD] at hb; exact hb.1.1.2
      have hd : dur (l.getD x bar0).2.1.1 (l.getD x bar0).2.1.2 = true := by simp [-List.getD_eq_getElem?_getD] at hc; exact hc.1.1
      have e : tb (l.getD x bar0) = tk (l.getD x bar0).2.1.1 (l.getD x bar0).2.1.2 := tks_dur hd
      have h0 := (dur_spec hd).2.2.2.2.2
      have hz := (tk_sign (dur_sdur hd)).2
      rw [less24 hd] at hc
      refine ⟨by unfold InI64; omega, x + 1, preB_next hlt' hp ?_ fun k hk he => hm ((ids_take_mem hp.1).2 ⟨k, hk, he⟩), by omega, by omega, trivial, trivial, trivial, ?_⟩
      · rw [okBar_iff, e]
        simp [hm, -List.getD_eq_getElem?_getD] at hb hc
        omega
      · exact congrArg (fun q : List (Int × Bool) => HO.mp (.ti .i64) .tb q) ((seen_put (l.take x) (l.getD x bar0) hm).trans (by rw [← take_at hlt']))
  · intro _ _
    have hx' : x = l.length := by have := of_decide_eq_false hge; have := hp.1; omega
    subst hx'
    rw [Bool.eq_iff_iff]
    constructor
    · intro h
      simp at h
      exact preB_end hp (by omega) (by omega)
    · intro h
      have := okBars_iff.1 h
      simp; omega

end Go.Proofs.Ythnboahemgmfnaa
