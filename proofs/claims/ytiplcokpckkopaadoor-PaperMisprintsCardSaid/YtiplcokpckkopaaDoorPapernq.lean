/- The plain proofs. Written by a program (wip/tools/gen.py). -/
import Derived.Test.YtiplcokpckkopaaDoorPapernp
namespace Go.Proofs.YtiplcokpckkopaaDoor
open Go.Sy Go.RatLaw
set_option linter.unusedVariables false
set_option linter.unusedSimpArgs false
theorem wrapu_rng (z : Int) : 0 ≤ IntKind.u64.wrap z ∧ IntKind.u64.wrap z < 18446744073709551616 := by rw [wrap_u64]; omega
theorem dig_rng : ∀ (l : List Int) (d : Int), 0 ≤ d ∧ d < 18446744073709551616 → 0 ≤ dig d l ∧ dig d l < 18446744073709551616
  | [], d, h => h
  | b :: r, d, h => dig_rng r (dstep d b) (wrapu_rng _)
theorem chain_rng : ∀ (ll : List (List Int)) (d : Int), 0 ≤ d ∧ d < 18446744073709551616 → 0 ≤ ll.foldl (fun d x => nextS d (lenL x)) d ∧ ll.foldl (fun d x => nextS d (lenL x)) d < 18446744073709551616
  | [], d, h => h
  | b :: r, d, h => chain_rng r (nextS d (lenL b)) (dig_rng _ _ (by decide))
theorem digS_rng (p : Int) (ms : List Ms) (l : List Bk) (f u ed ve : Int) : 0 ≤ digS p ms l f u ed ve ∧ digS p ms l f u ed ve < 18446744073709551616 := chain_rng _ _ (by decide)
theorem right_no {p : Int} {ms : List Ms} {l pages : List Bk} {a b c d e g : Int} (hd : arePB ms l pages = true) (h : ¬ (b = p ∧ idB c = true ∧ idB d = true ∧ 1 ≤ e ∧ e ≤ pages.length) ∨ g ≠ digS p ms l (pages.getD (e - 1).toNat bk0).1 (pages.getD (e - 1).toNat bk0).2 c d) : rightS p ms l pages a b c d e g = (false, 0) := by
  unfold rightS
  rw [if_pos hd]
  split
  · rename_i hc
    rcases h with h | h
    · exact absurd hc h
    · rw [decide_eq_false h]
  · rfl
theorem p_PMis (p : Int) (ms : List Ms) (l pages : List Bk) (wh ho g : Int) (hp : InI64 p) (hw : wfM ms) (wh0 : 0 ≤ wh) (wh1 : wh ≤ 255) (ho0 : 0 ≤ ho) (ho1 : ho ≤ 255) (g0 : 0 ≤ g) (g1 : g ≤ 18446744073709551615) : P_PMis p ms l pages wh ho g := by
  unfold P_PMis
  refine fun _ => ⟨fun _ => rfl, fun h => ?_⟩
  simp only [Bool.or_eq_false_iff, Bool.not_eq_false', beq_eq_false_iff_ne, ne_eq, Bool.and_eq_true] at h
  obtain ⟨⟨⟨hf, hd⟩, hl0⟩, hg⟩ := h
  have hpl := pages_len (are_iff.1 hd).2
  have eS : printS p ms l pages 3 4 5 = (sheetsTo p ms l pages 3 4 5 pages.length, 0) := print_yes ⟨rfl, rfl, rfl, hd⟩ (by omega)
  have hI := sheets_len p ms l pages 3 4 5 pages.length
  have gI : ∀ x, x < pages.length → (sheetsTo p ms l pages 3 4 5 pages.length).getD x sh0 = sheet p ms l 3 4 5 x (pages.getD x bk0) := fun x hx => sheets_get p ms l pages _ _ _ hx
  rw [eS]
  generalize sheetsTo p ms l pages 3 4 5 pages.length = SI at *
  dsimp only
  have hwh : IntKind.i64.wrap wh = wh := Go.RatLaw.wrap_i64 ⟨by omega, by omega⟩
  have k0 : 0 ≤ wh.tmod pages.length := Int.tmod_nonneg _ wh0
  have k1 : wh.tmod pages.length < pages.length := Int.tmod_lt_of_pos _ (by omega)
  have m0 : 0 ≤ wh.tmod 3 := Int.tmod_nonneg _ wh0
  have m1 : wh.tmod 3 < 3 := Int.tmod_lt_of_pos _ (by omega)
  have n0 : 0 ≤ ho.tmod 3 := Int.tmod_nonneg _ ho0
  have n1 : ho.tmod 3 < 3 := Int.tmod_lt_of_pos _ (by omega)
  simp only [hI, hwh, d0S]
  rw [gI (wh.tmod pages.length).toNat (by omega)]
  generalize (wh.tmod pages.length).toNat = x at *
  dsimp only [sheet]
  have hr := digS_rng p ms l (pages.getD x bk0).1 (pages.getD x bk0).2 3 4
  refine ⟨hw, hp, fun _ _ => ⟨fun hc => by simp at hc, fun _ _ => ⟨by omega, k0, k1, by decide, fun _ => ⟨hw, hp, ?_⟩, fun h0 => ⟨fun _ => ⟨hw, hp, ?_⟩, fun h1 => ⟨fun _ _ => ⟨by decide, m0, m1, hw, hp, ?_⟩, fun h2 => ?_⟩⟩⟩⟩⟩
  · rw [right_no hd (.inr (by
      rw [show ((x : Int) + 1 - 1).toNat = x by omega, wrap_u64]
      omega))]; rfl
  · rw [right_no hd (.inl (fun hc => by
      have := hc.1
      unfold InI64 at hp
      simp [IntKind.wrap, IntKind.signed, IntKind.bits] at this
      omega))]; rfl
  · have : ¬ (1 ≤ List.getD [0, -1, IntKind.i64.wrap ((pages.length : Int) + 1)] (wh.tmod 3).toNat (0 : Int) ∧ List.getD [0, -1, IntKind.i64.wrap ((pages.length : Int) + 1)] (wh.tmod 3).toNat (0 : Int) ≤ pages.length) := by
      rw [Go.RatLaw.wrap_i64 ⟨by omega, by omega⟩]
      have : (wh.tmod 3).toNat = 0 ∨ (wh.tmod 3).toNat = 1 ∨ (wh.tmod 3).toNat = 2 := by omega
      rcases this with e | e | e <;> rw [e] <;> simp <;> omega
    have hz := right_no (a := 5 + (x : Int)) (b := p) (c := 3) (d := 4) (p := p) (e := List.getD [0, -1, IntKind.i64.wrap ((pages.length : Int) + 1)] (wh.tmod 3).toNat (0 : Int)) (g := digS p ms l (pages.getD x bk0).1 (pages.getD x bk0).2 3 4) hd (.inl (fun hc => this ⟨hc.2.2.2.1, hc.2.2.2.2⟩))
    erw [hz]; rfl
  · simp only [beq_eq_false_iff_ne, ne_eq] at h0 h1 h2
    omega

end Go.Proofs.YtiplcokpckkopaaDoor
