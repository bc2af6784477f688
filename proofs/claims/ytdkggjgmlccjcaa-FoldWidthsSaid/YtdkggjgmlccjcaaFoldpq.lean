/- The plain proofs. Written by a program (wip/tools/gen.py). -/
import Derived.Test.YtdkggjgmlccjcaaFoldpp
import Derived.Test.YtdkggjgmlccjcaaFoldmq
namespace Go.Proofs.Ytdkggjgmlccjcaa
open Go.Sy Go.RatLaw
set_option linter.unusedVariables false
set_option linter.unusedSimpArgs false
theorem few_notes {ms : List Ms} (hf : fewB ms = true) (hb : ∀ m ∈ ms, (notesM m).length ≤ 140737488355328) : ∀ m ∈ ms, (notesM m).length ≤ 60 := by
  unfold fewB at hf
  simp only [Bool.and_eq_true, decide_eq_true_eq] at hf
  obtain ⟨h1, h2⟩ := hf
  rw [List.take_of_length_le (by omega)] at h2
  have hs : ∀ x, x ≤ ms.length → 0 ≤ nsW (ms.take x) ∧ nsW (ms.take x) ≤ (x : Int) * 140737488355328 := by
    intro x
    induction x with
    | zero => intro _; simp [nsW]
    | succ x ih =>
      intro hx
      have ih := ih (by omega)
      have hm := hb _ (memD ms0 (show x < ms.length by omega))
      rw [nsW_take (by omega)]
      unfold w64
      rw [wrap_i64 (by unfold InI64; omega)]
      omega
  have hst : ∀ x, x < ms.length → nsW (ms.take (x + 1)) = nsW (ms.take x) + (notesM (ms.getD x ms0)).length := by
    intro x hx
    have ih := hs x (by omega)
    have hm := hb _ (memD ms0 hx)
    rw [nsW_take hx]
    unfold w64
    rw [wrap_i64 (by unfold InI64; omega)]
  have hmono : ∀ d x, x + d = ms.length → nsW (ms.take x) ≤ nsW ms := by
    intro d
    induction d with
    | zero => intro x hx; rw [List.take_of_length_le (by omega)]; exact Int.le_refl _
    | succ d ih =>
      intro x hx
      have h3 := ih (x + 1) (by omega)
      have h4 := hst x (by omega)
      omega
  intro m hm
  obtain ⟨i, hi, e⟩ := idD ms0 hm
  have h3 := hmono (ms.length - (i + 1)) (i + 1) (by omega)
  have h4 := hst i hi
  have h5 := (hs i (by omega)).1
  rw [e] at h4
  omega
theorem use_few {ms : List Ms} {l : List Int} (h : (useS ms l).2 = true) : fewB ms = true := by
  unfold useS at h
  split at h
  · rename_i hc; simp only [Bool.and_eq_true] at hc; exact hc.1
  · cases h
theorem dist_pos {l : List (Int × Int)} (h : l ≠ []) : 1 ≤ (dist l).length := by
  cases l with
  | nil => exact absurd rfl h
  | cons a r =>
    have : a ∈ dist (a :: r) := mem_dist.2 (.head _)
    exact List.length_pos_of_mem this
theorem wid_fold {ms : List Ms} {st : List Int} (hv : viewB ms = true) (hm : ms.length ≤ 60) : widthsS ms (foldTo ms (inL st) ms.length) = ((foldTo ms (inL st) ms.length).map (widB ms), 0) := by
  obtain ⟨t, k⟩ := fold_tile (ms := ms) (stop := inL st) (Nat.le_refl _)
  have hb : blkB (foldTo ms (inL st) ms.length) = true := tile_blk (by omega) t k
  refine wid_done (by rw [hv, hb]; rfl) (List.all_eq_true.2 fun b hbm => ?_)
  have hB := k b hbm
  have hlo := hB.lo
  have hhi := hB.hi
  unfold widOk
  rw [Bool.and_eq_true, decide_eq_true_iff]
  refine ⟨hhi, ?_⟩
  rw [Bool.not_eq_true', Bool.and_eq_false_iff]
  by_cases h0 : b.2 > 0
  · right
    rw [List.any_eq_false]
    intro m hmm
    obtain ⟨i, hi, e⟩ := idD ms0 hmm
    rw [List.length_drop, List.length_take] at hi
    have er := end_rest (b := b) (by omega)
    have hg : m = ms.getD (b.1.toNat + i) ms0 := by
      rw [← e]
      simp only [List.getD_eq_getElem?_getD, List.getElem?_drop, List.getElem?_take]
      rw [if_pos (by omega)]
    have hj := blk_joins hB (k := i) (by omega)
    have := (join_iff.1 hj).2.1
    rw [hg]
    unfold soundsM
    rw [this]; simp
  · left; exact decide_eq_false h0
theorem wid_get {ms : List Ms} {L : List Bk} {x : Nat} (h : x < L.length) : (L.map (widB ms)).getD x (0 : Int) = widB ms (L.getD x bk0) := by
  simp [List.getD_eq_getElem?_getD, h]
theorem p_FWidths (p : Int) (ms : List Ms) (l : List Int) (hb : bytesB l) (hn : ∀ m ∈ ms, (notesM m).length ≤ 140737488355328) : P_FWidths p ms l := by
  refine ⟨hb, fun _ => rfl, fun h => ?_⟩
  have hfew : fewB ms = true := use_few (l := l) (by simpa using h)
  have h60 := few_notes hfew hn
  rcases use_cases (ms := ms) hb with e | ⟨e, hv, hm, hs, hin⟩
  · rw [e] at h; cases h
  · rw [e, foldS_ok hv hs hin]
    generalize stopsS ms l = st at hs hin ⊢
    have hL : ∀ x, x < (foldTo ms (inL st) ms.length).length → _ := fun x hx => blk_in hx
    have hll := foldTo_len ms (inL st) ms.length
    have hw := wid_fold (st := st) hv hm
    simp only [hw]
    generalize foldTo ms (inL st) ms.length = L at hL hll ⊢
    simp only [List.length_map]
    refine fun _ _ => ⟨fun h2 => by simp at h2, fun _ _ => ⟨⟨0, Nat.zero_le _, (by first | rfl | trivial), (by first | rfl | trivial)⟩, fun x hx => ⟨fun hlt => ?_, fun _ => (by first | rfl | trivial)⟩⟩⟩
    have hlt' : x < L.length := by have := of_decide_eq_true hlt; omega
    have hB := hL x hlt'
    have hg := wid_get (ms := ms) hlt'
    simp only [d0K, d0M, d0I, tn, hg]
    generalize L.getD x bk0 = b at hB
    have hlo := hB.lo
    have hnn := hB.nn
    have hhi := hB.hi
    have hge := end_ge b
    refine ⟨by omega, by omega, fun hc => ?_, fun hc => ⟨fun hc2 => ?_, fun hc2 _ => ⟨fun hc3 => ?_, fun _ => ?_⟩⟩⟩
    · have hc' : b.2 = 1 := by simpa using hc
      have hwid : (true && widB ms b == 20) = true := by unfold widB; rw [if_neg (by omega), if_pos hc']; rfl
      exact ⟨fun _ => ⟨by omega, by omega⟩, by unfold InI64; omega, x + 1, hlt', by omega, (by first | rfl | trivial), hwid, by (repeat' (first | rfl | trivial | apply And.intro))⟩
    · have hc' : b.2 > 1 := of_decide_eq_true hc2
      have hwid : (true && widB ms b == 30) = true := by unfold widB; rw [if_pos hc']; rfl
      exact ⟨fun _ => ⟨by omega, by omega⟩, by unfold InI64; omega, x + 1, hlt', by omega, (by first | rfl | trivial), hwid, by (repeat' (first | rfl | trivial | apply And.intro))⟩
    · exfalso
      simp only [Bool.or_eq_true, decide_eq_true_eq] at hc3
      omega
    · have h0 : b.2 = 0 := by
        have h1 : ¬ b.2 > 1 := of_decide_eq_false hc2
        have h2 : ¬ b.2 = 1 := by simpa using hc
        omega
      have hlt2 : b.1.toNat < ms.length := by omega
      have hne := hB.note h0
      have hle := h60 _ (memD ms0 hlt2)
      have hd1 : 1 ≤ (dist (startsW (notesM (ms.getD b.1.toNat ms0)))).length := dist_pos (by
        intro h1
        unfold startsW at h1
        rw [List.map_eq_nil_iff] at h1
        rw [h1] at hne; cases hne)
      have hd2 : (dist (startsW (notesM (ms.getD b.1.toNat ms0)))).length ≤ 60 := by
        have := dist_len (startsW (notesM (ms.getD b.1.toNat ms0)))
        have h2 : (startsW (notesM (ms.getD b.1.toNat ms0))).length = (notesM (ms.getD b.1.toNat ms0)).length := by unfold startsW; simp
        omega
      have hwid : widB ms b = 20 + 10 * ((dist (startsW (notesM (ms.getD b.1.toNat ms0)))).length : Int) := by
        unfold widB widthB atM min64 w64
        rw [if_neg (by omega), if_neg (by omega)]
        generalize (dist (startsW (notesM (ms.getD b.1.toNat ms0)))).length = d at hd1 hd2
        have w1 : IntKind.i64.wrap (10 * (d : Int)) = 10 * (d : Int) := wrap_i64 (by unfold InI64; omega)
        have w2 : IntKind.i64.wrap (20 + 10 * (d : Int)) = 20 + 10 * (d : Int) := wrap_i64 (by unfold InI64; omega)
        rw [w1, w2, if_pos (by omega)]
      have hE : (ms.getD b.1.toNat ms0).2.2.2 = notesM (ms.getD b.1.toNat ms0) := rfl
      rw [hE, hwid]
      generalize (dist (startsW (notesM (ms.getD b.1.toNat ms0)))).length = d at hd1 hd2
      have g1 : decide (20 + 10 * (d : Int) ≥ 30) = true := decide_eq_true (by omega)
      have g2 : decide (20 + 10 * (d : Int) ≤ 1000) = true := decide_eq_true (by omega)
      rw [g1, g2]
      exact ⟨fun _ => ⟨by omega, by omega⟩, fun _ => ⟨by omega, by omega⟩, fun _ => ⟨by omega, by omega⟩, fun _ => ⟨by omega, by omega⟩, fun _ => by unfold InI64; omega, fun _ => by unfold InI64; omega, by unfold InI64; omega, x + 1, hlt', by omega, (by first | rfl | trivial), by simp, by (repeat' (first | rfl | trivial | apply And.intro))⟩

end Go.Proofs.Ytdkggjgmlccjcaa
