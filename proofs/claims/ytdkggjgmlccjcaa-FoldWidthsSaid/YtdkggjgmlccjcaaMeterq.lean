/- The plain proofs. Written by a program (wip/tools/gen.py). -/
import Derived.Test.YtdkggjgmlccjcaaMeterp
import Derived.Test.YtdkggjgmlccjcaaMq
namespace Go.Proofs.Ytdkggjgmlccjcaa
open Go.Sy Go.RatLaw
set_option linter.unusedVariables false
set_option linter.unusedSimpArgs false
theorem p_Ticks (n d : Int) : P_Ticks n d := by
  unfold P_Ticks
  refine ⟨fun h => ?_, fun h => ?_, fun h => ?_, fun h => ?_⟩
  · have := of_decide_eq_false h; omega
  · simp only [Bool.or_eq_false_iff, decide_eq_false_iff_not] at h; omega
  · refine (tks_no ?_).symm
    rw [Bool.eq_false_iff]
    intro hd
    obtain ⟨v, hn, hpos, e, _, _⟩ := dur_spec hd
    have hv := vld_iff.1 v
    have h2 : (1680 : Int).tmod d = 0 := by have := Int.mul_tdiv_add_tmod 1680 d; omega
    simp only [Bool.or_eq_true, decide_eq_true_eq, bne_iff_ne] at h
    rcases h with (((h | h) | h) | h) | h
    · omega
    · exact h h2
    · omega
    · omega
    · rw [hv.2.2.2.2] at h; exact h rfl
  · simp only [Bool.or_eq_false_iff, decide_eq_false_iff_not, bne_eq_false_iff_eq] at h
    obtain ⟨⟨⟨⟨h1, h2⟩, h3⟩, h4⟩, h5⟩ := h
    have hd : dur n d = true := by
      unfold dur
      have hle : d ≤ 1680 := Int.le_of_dvd (by decide) (Int.dvd_of_tmod_eq_zero h2)
      have hv : vld n d = true := vld_iff.2 ⟨by omega, by omega, by omega, by omega, by exact_mod_cast h5⟩
      rw [hv]; simp [h2]; omega
    rw [tks_dur hd]
    have hb := tk_bound hd
    have h0 := (dur_spec hd).2.2.2.2.2
    have h6 : 0 ≤ (1680 : Int).tdiv d := Int.tdiv_nonneg (by decide) (by omega)
    have h7 : (1680 : Int).tdiv d ≤ 1680 := Int.le_of_dvd (by decide) ⟨d, by rw [Int.mul_comm]; exact (dur_spec hd).2.2.2.1.symm⟩
    refine ⟨by omega, by unfold InI64; omega, ?_, rfl⟩
    show InI64 (tk n d)
    unfold InI64; omega
theorem d0B : (BT.d0 : BT.T) = bar0 := rfl
theorem toNat_cast (x : Nat) : ((x : Int)).toNat = x := Int.toNat_natCast x
theorem bet {P Q : Prop} (hp : P) (hq : P → Q) : P ∧ Q := ⟨hp, hq hp⟩
theorem lenC (l : List Bar) {b : Int} : ¬ (decide (b < 0) || decide (b ≥ (l.length : Int)) || false) = true ↔ 0 ≤ b ∧ b < l.length := by simp
theorem posOf_err {m : Option (Int × Int)} : ((posOf 1 m).2.2.2 == 0) = m.isSome ∧ (m.isSome = true → posOf 1 m = posOf 3 m) ∧ (m.isSome = false → posOf 3 m = (0, 0, 0, 3)) := by
  cases m with
  | none => exact ⟨rfl, (fun h => by cases h), fun _ => rfl⟩
  | some y => exact ⟨rfl, (fun _ => rfl), fun h => by cases h⟩
theorem dur_negW {x y : Int} (hx : InI64 x) : dur (negW x) y = dur (-x) y := by
  by_cases h : x = -9223372036854775808
  · subst h
    rw [show negW (-9223372036854775808) = -9223372036854775808 by decide]
    have a : dur (-9223372036854775808) y = false := by unfold dur vld; simp
    have b : dur (- -9223372036854775808) y = false := by unfold dur vld; simp
    rw [a, b]
  · rw [negW_eq (by unfold InI64 at *; omega)]
theorem preB_zero (l : List Bar) : preB l 0 := ⟨Nat.zero_le _, (fun b h => by simp at h), by simp [ids]⟩
theorem preB_bad {l : List Bar} {x : Nat} (hx : x < l.length) (h : okBar (l.getD x bar0) = false) : false = okBars l := by
  rw [eq_comm, Bool.eq_false_iff]
  intro hl
  have := (okBars_iff.1 hl).2.2.1 _ (mem_getD hx)
  rw [h] at this; cases this
theorem ids_get {l : List Bar} {k : Nat} (h : k < l.length) : (l.getD k bar0).1 = (ids l)[k]'(by simpa [ids] using h) := by
  simp [ids, List.getD_eq_getElem?_getD, List.getElem?_eq_getElem h]
theorem twice_bad {l : List Bar} {x y : Nat} (hx : x < l.length) (hy : y < x) (h : (l.getD y bar0).1 = (l.getD x bar0).1) : false = okBars l := by
  rw [eq_comm, Bool.eq_false_iff]
  intro hl
  have hn := (okBars_iff.1 hl).2.2.2
  rw [ids_get (by omega), ids_get hx] at h
  exact (List.pairwise_iff_getElem.1 hn) y x (by simp [ids]; omega) (by simpa [ids] using hx) hy h
theorem preB_next {l : List Bar} {x : Nat} (hx : x < l.length) (h : preB l x) (hb : okBar (l.getD x bar0) = true) (hn : ∀ k, k < x → (l.getD k bar0).1 ≠ (l.getD x bar0).1) : preB l (x + 1) := by
  refine ⟨hx, fun b hb' => ?_, ?_⟩
  · rw [take_at hx] at hb'
    rcases List.mem_append.1 hb' with hb' | hb'
    · exact h.2.1 b hb'
    · rw [List.mem_singleton.1 hb']; exact hb
  · rw [take_at hx]
    unfold ids
    rw [List.map_append, List.nodup_append]
    refine ⟨h.2.2, by simp, fun a ha c hc => ?_⟩
    simp only [List.map_cons, List.map_nil, List.mem_singleton] at hc
    rw [hc]
    obtain ⟨q, hq, rfl⟩ := List.mem_map.1 ha
    obtain ⟨k, hk, rfl⟩ := List.mem_iff_getElem.1 hq
    have hk' : k < x := by rw [List.length_take] at hk; omega
    have := hn k hk'
    rw [List.getD_eq_getElem?_getD, List.getElem?_eq_getElem (by omega)] at this
    simpa using this
theorem preB_end {l : List Bar} (h : preB l l.length) (h1 : 1 ≤ l.length) (h2 : l.length ≤ 4000) : okBars l = true := by
  obtain ⟨_, h3, h4⟩ := h
  rw [List.take_length] at h3 h4
  exact okBars_iff.2 ⟨h1, h2, h3, h4⟩
theorem seen_get (l : List Bar) (i : Int) : (mget (Ty.ti .i64).beq i (seenB l)).getD Ty.tb.d0 = decide (i ∈ ids l) := by
  induction l with
  | nil => simp [seenB, ids, mget]; rfl
  | cons b r ih =>
    unfold seenB ids at *
    simp only [List.map_cons, mget]
    by_cases h : i = b.1
    · rw [if_pos (by simp [Ty.beq, h])]; simp [h]; rfl
    · rw [if_neg (by simpa [Ty.beq] using h)]
      rw [ih]; simp [h]
theorem seen_put (l : List Bar) (b : Bar) (h : b.1 ∉ ids l) : mput (Ty.ti .i64).beq b.1 true (seenB l) = seenB (l ++ [b]) := by
  induction l with
  | nil => rfl
  | cons a r ih =>
    have h1 : b.1 ≠ a.1 := fun e => h (by simp [ids, e])
    have h2 : b.1 ∉ ids r := fun e => h (by simp [ids] at e ⊢; exact .inr e)
    have := ih h2
    unfold seenB ids at *
    simp only [List.map_cons, List.cons_append, mput]
    rw [if_neg (by simpa [Ty.beq] using h1), this]; rfl
theorem ids_take_mem {l : List Bar} {x : Nat} {i : Int} (hx : x ≤ l.length) : i ∈ ids (l.take x) ↔ ∃ k, k < x ∧ (l.getD k bar0).1 = i := by
  unfold ids
  rw [List.mem_map]
  constructor
  · rintro ⟨b, hb, rfl⟩
    obtain ⟨k, hk, rfl⟩ := List.mem_iff_getElem.1 hb
    have hk' : k < x := by rw [List.length_take] at hk; omega
    refine ⟨k, hk', ?_⟩
    rw [List.getD_eq_getElem?_getD, List.getElem?_eq_getElem (by omega)]; simp
  · rintro ⟨k, hk, rfl⟩
    refine ⟨l.getD k bar0, ?_, rfl⟩
    rw [List.getD_eq_getElem?_getD, List.getElem?_eq_getElem (by omega)]
    exact List.mem_iff_getElem.2 ⟨k, by rw [List.length_take]; omega, by simp⟩
theorem less24 {a b : Int} (h : dur a b = true) : decide ((compareR 24 1 a b).1 < 0) = decide (40320 < tk a b) := by
  have := less_dur (a := 24) (b := 1) (by decide) h
  rw [show tk 24 1 = 40320 by decide] at this
  exact this
end Go.Proofs.Ytdkggjgmlccjcaa
