/- Plain laws on measures and blocks, first part. No program in sight. -/
import Derived.Test.YtdkggjgmlccjcaaFp
namespace Go.RatLaw
set_option linter.unusedVariables false
set_option linter.unusedSimpArgs false

theorem takeD {α : Type} {l : List α} {x : Nat} (d : α) (h : x < l.length) : l.take (x + 1) = l.take x ++ [l.getD x d] := by
  rw [List.take_add_one, List.getD_eq_getElem?_getD, List.getElem?_eq_getElem h]; rfl
theorem memD {α : Type} {l : List α} {x : Nat} (d : α) (h : x < l.length) : l.getD x d ∈ l := by
  rw [List.getD_eq_getElem?_getD, List.getElem?_eq_getElem h]; exact List.getElem_mem h
theorem dropD {α : Type} {l : List α} {x : Nat} (d : α) (h : x < l.length) : l.drop x = l.getD x d :: l.drop (x + 1) := by
  rw [List.drop_eq_getElem_cons h, List.getD_eq_getElem?_getD, List.getElem?_eq_getElem h]; rfl
theorem idD {α : Type} {l : List α} (d : α) {b : α} (h : b ∈ l) : ∃ k, k < l.length ∧ l.getD k d = b := by
  obtain ⟨k, hk, e⟩ := List.mem_iff_getElem.1 h
  exact ⟨k, hk, by rw [List.getD_eq_getElem?_getD, List.getElem?_eq_getElem hk]; exact e⟩
theorem len_dec {α : Type} (l : List α) : ((l.length : Int) == 0) = l.isEmpty := by cases l <;> simp <;> omega
theorem nsW_take {ms : List Ms} {x : Nat} (h : x < ms.length) : nsW (ms.take (x + 1)) = w64 (nsW (ms.take x) + (notesM (ms.getD x ms0)).length) := by
  unfold nsW; rw [takeD ms0 h, List.foldl_append]; rfl
theorem viewB_iff {ms : List Ms} : viewB ms = true ↔ ms.length ≤ 4000 ∧ (∀ m ∈ ms, okM m = true) ∧ nsW ms ≤ 20000 := by
  unfold viewB; simp
theorem viewB_bad {ms : List Ms} {x : Nat} (h : x < ms.length) (hb : okM (ms.getD x ms0) = false) : false = viewB ms := by
  rw [eq_comm, Bool.eq_false_iff]; intro hv
  have := (viewB_iff.1 hv).2.1 _ (memD ms0 h)
  rw [hb] at this; cases this
theorem ok_next {ms : List Ms} {x : Nat} (h : x < ms.length) (hx : ∀ m ∈ ms.take x, okM m = true) (hb : okM (ms.getD x ms0) = true) : ∀ m ∈ ms.take (x + 1), okM m = true := by
  intro m hm
  rw [takeD ms0 h] at hm
  rcases List.mem_append.1 hm with hm | hm
  · exact hx m hm
  · rw [List.mem_singleton.1 hm]; exact hb
theorem lastB_succ (l : List Bk) (x : Nat) : lastB l (x + 1) = endB (l.getD x bk0) := by unfold lastB; simp
theorem blk1_iff {q : Int} {b : Bk} : blk1 q b = true ↔ q ≤ b.1 ∧ b.1 ≤ 4000 ∧ 0 ≤ b.2 ∧ b.2 ≤ 4000 ∧ endB b ≤ 4000 := by unfold blk1; exact decide_eq_true_iff
theorem blk_step {l : List Bk} {x : Nat} (h : x < l.length) : blkFrom (lastB l x) (l.drop x) = (blk1 (lastB l x) (l.getD x bk0) && blkFrom (lastB l (x + 1)) (l.drop (x + 1))) := by
  rw [dropD bk0 h, blkFrom, lastB_succ]
theorem end_ge (b : Bk) : b.1 + 1 ≤ endB b := by unfold endB; split <;> omega
theorem span_len {b : Bk} : (spanB b).length = (endB b - b.1).toNat := by unfold spanB rangeI; simp
theorem span_get {b : Bk} {y : Nat} (h : y < (spanB b).length) (d : Int) : (spanB b).getD y d = b.1 + y := by
  rw [span_len] at h
  unfold spanB rangeI
  rw [List.getD_eq_getElem?_getD, List.getElem?_map, List.getElem?_range h]; rfl
theorem unfB_append (l m : List Bk) : unfB (l ++ m) = unfB l ++ unfB m := by unfold unfB; simp
theorem unfB_take {l : List Bk} {x : Nat} (h : x < l.length) : unfB (l.take (x + 1)) = unfB (l.take x) ++ spanB (l.getD x bk0) := by
  rw [takeD bk0 h, unfB_append]; simp [unfB]
theorem blk_all : ∀ {l : List Bk} {q : Int}, blkFrom q l = true → 0 ≤ q → ∀ b ∈ l, 0 ≤ b.1 ∧ b.1 ≤ 4000 ∧ 0 ≤ b.2 ∧ b.2 ≤ 4000 ∧ endB b ≤ 4000
  | [], _, _, _, b, hb => by simp at hb
  | c :: r, q, h, hq, b, hb => by
    rw [blkFrom, Bool.and_eq_true, blk1_iff] at h
    rcases List.mem_cons.1 hb with rfl | hb
    · omega
    · have := end_ge c
      exact blk_all h.2 (by omega) b hb
/-- blocks do not overlap: few measures in all -/
theorem unfB_len : ∀ {l : List Bk} {q : Int}, blkFrom q l = true → 0 ≤ q → q ≤ 4000 → ((unfB l).length : Int) ≤ 4000 - q
  | [], q, _, _, h => by simp [unfB]; omega
  | c :: r, q, h, hq, hq2 => by
    rw [blkFrom, Bool.and_eq_true, blk1_iff] at h
    have := end_ge c
    have ih := unfB_len h.2 (by omega) (by omega)
    have e : unfB (c :: r) = spanB c ++ unfB r := by simp [unfB]
    rw [e, List.length_append, span_len]
    omega
theorem unfB_pre {l : List Bk} (h : blkB l = true) (x : Nat) : (unfB (l.take x)).length ≤ 4000 := by
  have h1 := unfB_len h (by omega) (by omega)
  have : (unfB l).length = (unfB (l.take x)).length + (unfB (l.drop x)).length := by rw [← List.length_append, ← unfB_append, List.take_append_drop]
  omega
theorem idx_none {α : Type} {p : α → Bool} {l : List α} (d : α) (h : ∀ k, k < l.length → p (l.getD k d) = false) : idxOf p l = -1 := by
  unfold idxOf
  have : l.findIdx? p = none := by
    rw [List.findIdx?_eq_none_iff]
    intro b hb
    obtain ⟨k, hk, e⟩ := idD d hb
    rw [← e]; exact h k hk
  rw [this]
theorem idx_some {α : Type} {p : α → Bool} {l : List α} (d : α) {x : Nat} (hx : x < l.length) (h : ∀ k, k < x → p (l.getD k d) = false) (hp : p (l.getD x d) = true) : idxOf p l = x := by
  unfold idxOf
  have : l.findIdx? p = some x := by
    rw [List.findIdx?_eq_some_iff_getElem]
    have e : ∀ k, (hk : k < l.length) → l.getD k d = l[k] := fun k hk => by rw [List.getD_eq_getElem?_getD, List.getElem?_eq_getElem hk]; rfl
    refine ⟨hx, by rw [← e x hx]; exact hp, fun j hj => ?_⟩
    have := h j hj
    rw [e j (by omega)] at this
    simp [this]
  rw [this]
theorem idx_any {α : Type} (p : α → Bool) (l : List α) : decide (idxOf p l ≥ 0) = l.any p := by
  unfold idxOf
  cases h : l.findIdx? p with
  | none =>
    rw [List.findIdx?_eq_none_iff] at h
    have : l.any p = false := by rw [List.any_eq_false]; intro b hb; rw [h b hb]; simp
    rw [this]; rfl
  | some i =>
    obtain ⟨hi, hp, _⟩ := List.findIdx?_eq_some_iff_getElem.1 h
    have : l.any p = true := List.any_eq_true.2 ⟨_, List.getElem_mem hi, hp⟩
    rw [this]; simp
theorem same_at {α : Type} {l m : List α} {x : Nat} (d : α) (hl : l.length = m.length) (hx : x < l.length) (h : l.take x = m.take x) (he : l.getD x d = m.getD x d) : l.take (x + 1) = m.take (x + 1) := by
  rw [takeD d hx, takeD d (by omega), h, he]
theorem step_open {ms : List Ms} {stop : Int → Bool} {x : Nat} (h : opensB ms stop x = true) : foldTo ms stop (x + 1) = foldTo ms stop x ++ [((x : Int), if (notesM (ms.getD x ms0)).isEmpty then 1 else 0)] := by
  rw [foldTo, stepB]
  unfold opensB at h
  cases hn : (notesM (ms.getD x ms0)).isEmpty
  · simp
  · rw [hn] at h
    rw [if_neg (by simp), if_neg]
    · rfl
    · rintro ⟨h1, h2, h3⟩
      rw [h2, h3, decide_eq_true h1] at h
      exact absurd h (by decide)
theorem set_last (a : List Bk) (i y : Int) : (a ++ [(i, y)]).set ((a ++ [(i, y)]).length - 1) (((a ++ [(i, y)]).getD ((a ++ [(i, y)]).length - 1) bk0).1, ((a ++ [(i, y)]).getD ((a ++ [(i, y)]).length - 1) bk0).2 + 1) = a ++ [(i, y + 1)] := by
  simp [List.getD_eq_getElem?_getD]
theorem step_join {ms : List Ms} {stop : Int → Bool} {x : Nat} (h : opensB ms stop x = false) : (notesM (ms.getD x ms0)).isEmpty = true ∧ 0 < x ∧ joinsB (ms.getD (x - 1) ms0) (ms.getD x ms0) = true ∧ stop x = false := by
  unfold opensB at h
  simp only [Bool.not_eq_false', Bool.and_eq_true, decide_eq_true_eq, Bool.not_eq_true'] at h
  exact ⟨h.1.1.1, h.1.1.2, h.1.2, h.2⟩
theorem join_iff {a b : Ms} : joinsB a b = true ↔ (notesM a).isEmpty = true ∧ (notesM b).isEmpty = true ∧ a.2.2.1 = b.2.2.1 ∧ a.2.1 = b.2.1 := by
  unfold joinsB
  simp only [Bool.and_eq_true, beq_iff_eq]
  constructor
  · rintro ⟨⟨⟨h1, h2⟩, h3, h4⟩, h5⟩; exact ⟨h1, h2, Prod.ext h3 h4, h5⟩
  · rintro ⟨h1, h2, h3, h5⟩; rw [h3]; exact ⟨⟨⟨h1, h2⟩, rfl, rfl⟩, h5⟩
theorem run_first {ms : List Ms} {stop : Int → Bool} {i : Nat} (hi : i < ms.length) (ho : opensB ms stop i = true) (hr : (notesM (ms.getD i ms0)).isEmpty = true) : runB ms stop i (i + 1) := by
  refine ⟨by omega, hi, ?_, rfl, rfl, rfl⟩
  rw [step_open ho, hr, if_pos rfl]
  have : ((i + 1 : Nat) : Int) - i = 1 := by omega
  rw [this]
theorem run_next {ms : List Ms} {stop : Int → Bool} {i y : Nat} (h : runB ms stop i y) (hr : (notesM (ms.getD i ms0)).isEmpty = true) (hy : y < ms.length)
    (h1 : (ms.getD y ms0).2.2.1 = (ms.getD i ms0).2.2.1) (h2 : (ms.getD y ms0).2.1 = (ms.getD i ms0).2.1) (h3 : (notesM (ms.getD y ms0)).isEmpty = (notesM (ms.getD i ms0)).isEmpty) (h4 : stop y = false) : runB ms stop i (y + 1) := by
  obtain ⟨a1, a2, a3, a4, a5, a6⟩ := h
  have hj : joinsB (ms.getD (y - 1) ms0) (ms.getD y ms0) = true := join_iff.2 ⟨a6.trans hr, h3.trans hr, a5.trans h1.symm, a4.trans h2.symm⟩
  refine ⟨by omega, hy, ?_, h2, h1, h3⟩
  rw [foldTo, stepB, h3, hr, if_neg (by simp), if_pos ⟨by omega, hj, h4⟩, a3, set_last]
  have : ((y + 1 : Nat) : Int) - i = (y : Int) - i + 1 := by omega
  rw [this]
theorem run_end {ms : List Ms} {stop : Int → Bool} {i y : Nat} (h : runB ms stop i y) (hr : (notesM (ms.getD i ms0)).isEmpty = true)
    (hn : ¬ ((ms.getD y ms0).2.2.1 = (ms.getD i ms0).2.2.1 ∧ (ms.getD y ms0).2.1 = (ms.getD i ms0).2.1 ∧ (notesM (ms.getD y ms0)).isEmpty = (notesM (ms.getD i ms0)).isEmpty ∧ stop y = false)) : opensB ms stop y = true := by
  obtain ⟨a1, a2, a3, a4, a5, a6⟩ := h
  rw [← Bool.not_eq_false]; intro ho
  obtain ⟨b1, b2, b3, b4⟩ := step_join ho
  obtain ⟨c1, c2, c3, c4⟩ := join_iff.1 b3
  exact hn ⟨c3.symm.trans a5, c4.symm.trans a4, b1.trans hr.symm, b4⟩
theorem foldTo_len (ms : List Ms) (stop : Int → Bool) : ∀ n, (foldTo ms stop n).length ≤ n
  | 0 => Nat.le_refl _
  | n + 1 => by
    have := foldTo_len ms stop n
    rw [foldTo, stepB]
    split
    · simp; exact this
    · split
      · rw [List.length_set]; omega
      · simp; exact this
theorem take_D {α : Type} {l : List α} {x : Nat} (d : α) (h : x < l.length) : l.take (x + 1) = l.take x ++ [l.getD x d] := takeD d h
theorem getM_put (k n : Int) : ∀ m : List (Int × Bool), getM (Go.Sy.mput (Go.Sy.Ty.beq (.ti .i64)) n true m) k = (getM m k || decide (k = n))
  | [] => by
    unfold getM; simp only [Go.Sy.mput, Go.Sy.mget, Go.Sy.Ty.beq]
    by_cases h : k = n <;> simp [h]
  | p :: r => by
    have ih := getM_put k n r
    unfold getM at ih ⊢
    simp only [Go.Sy.mput, Go.Sy.mget, Go.Sy.Ty.beq] at ih ⊢
    by_cases h1 : n = p.1
    · simp only [h1, beq_self_eq_true, if_true, Go.Sy.mget]
      by_cases h : k = p.1 <;> simp [h]
    · simp only [beq_iff_eq, h1, if_false, Go.Sy.mget]
      by_cases h : k = p.1
      · simp only [h, if_true, Option.getD_some, beq_self_eq_true]
        have : ¬ p.1 = n := fun e => h1 e.symm
        simp [this]
      · simp only [h, if_false, beq_iff_eq]
        simpa using ih
theorem stopsM_snoc (l : List Int) (n : Int) : stopsM (l ++ [n]) = Go.Sy.mput (Go.Sy.Ty.beq (.ti .i64)) n true (stopsM l) := by
  unfold stopsM; rw [List.foldl_append]; rfl
theorem getM_foldl (k : Int) : ∀ (l : List Int) (m : List (Int × Bool)), getM (l.foldl (fun m n => Go.Sy.mput (fun a b => a == b) n true m) m) k = (getM m k || decide (k ∈ l))
  | [], m => by simp
  | n :: r, m => by
    rw [List.foldl_cons, getM_foldl k r]
    have := getM_put k n m
    rw [show getM (Go.Sy.mput (fun a b : Int => a == b) n true m) k = _ from this]
    simp [List.mem_cons, Bool.or_assoc]
theorem getM_stops (l : List Int) : getM (stopsM l) = inL l := by
  funext k
  unfold stopsM inL
  rw [getM_foldl]
  simp [getM, Go.Sy.mget]
theorem not_fold (ms : List Ms) (st : List Int) (h : viewB ms = false) : foldS ms st = ([], 1) := by unfold foldS; rw [if_pos h]
theorem startsW_take {l : List Wr} {x : Nat} (h : x < l.length) : startsW (l.take (x + 1)) = startsW (l.take x) ++ [startW (l.getD x wr0)] := by
  unfold startsW; rw [takeD wr0 h, List.map_append]; rfl
theorem dist_snoc (l : List (Int × Int)) (a : Int × Int) : dist (l ++ [a]) = if a ∈ dist l then dist l else dist l ++ [a] := by
  unfold dist; rw [List.foldl_append]; rfl
theorem mem_distF (a : Int × Int) : ∀ (l acc : List (Int × Int)), a ∈ l.foldl (fun acc x => if x ∈ acc then acc else acc ++ [x]) acc ↔ a ∈ acc ∨ a ∈ l
  | [], acc => by simp
  | x :: r, acc => by
    rw [List.foldl_cons, mem_distF a r]
    by_cases h : x ∈ acc
    · rw [if_pos h]; simp only [List.mem_cons]
      exact ⟨fun h => h.elim .inl (fun h => .inr (.inr h)), fun h' => h'.elim .inl (fun h' => h'.elim (fun e => .inl (e ▸ h)) .inr)⟩
    · rw [if_neg h]; simp only [List.mem_append, List.mem_cons, List.not_mem_nil, or_false]
      rw [or_assoc]
theorem mem_dist {a : Int × Int} {l : List (Int × Int)} : a ∈ dist l ↔ a ∈ l := by unfold dist; rw [mem_distF]; simp
theorem dist_len (l : List (Int × Int)) : (dist l).length ≤ l.length := by
  unfold dist
  have : ∀ (l acc : List (Int × Int)), (l.foldl (fun acc x => if x ∈ acc then acc else acc ++ [x]) acc).length ≤ acc.length + l.length := by
    intro l
    induction l with
    | nil => intro acc; simp
    | cons x r ih =>
      intro acc
      rw [List.foldl_cons]
      have := ih (if x ∈ acc then acc else acc ++ [x])
      split at this <;> rename_i h
      · rw [if_pos h, List.length_cons]; omega
      · rw [if_neg h, List.length_cons]; rw [List.length_append, List.length_singleton] at this; omega
  simpa using this l []
theorem beqK (a b : Int × Int) : Go.Sy.Ty.beq (.tp (.ti .i64) (.ti .i64)) a b = decide (a = b) := by
  show (a.1 == b.1 && a.2 == b.2) = decide (a = b)
  rw [Bool.eq_iff_iff, Bool.and_eq_true, beq_iff_eq, beq_iff_eq, decide_eq_true_iff]
  exact ⟨fun h => Prod.ext h.1 h.2, fun h => by rw [h]; exact ⟨rfl, rfl⟩⟩
def putK (x : Int × Int) (m : List ((Int × Int) × Bool)) : List ((Int × Int) × Bool) := Go.Sy.mput (Go.Sy.Ty.beq (.tp (.ti .i64) (.ti .i64))) x true m
theorem putK_cons (x : Int × Int) (p : (Int × Int) × Bool) (r : List ((Int × Int) × Bool)) : putK x (p :: r) = if x = p.1 then (x, true) :: r else p :: putK x r := by
  have hb := beqK x p.1
  show (if Go.Sy.Ty.beq (.tp (.ti .i64) (.ti .i64)) x p.1 = true then (x, true) :: r else p :: putK x r) = _
  by_cases h : x = p.1
  · rw [if_pos h]; exact if_pos (by rw [hb]; simp [h])
  · rw [if_neg h]; exact if_neg (by rw [hb]; simp [h])
theorem mput_K (x : Int × Int) : ∀ acc : List (Int × Int), putK x (acc.map fun y => (y, true)) = (if x ∈ acc then acc else acc ++ [x]).map fun y => (y, true)
  | [] => by rw [if_neg (by simp)]; rfl
  | p :: r => by
    have ih := mput_K x r
    rw [List.map_cons, putK_cons]
    by_cases h : x = p
    · rw [if_pos h, if_pos (by rw [h]; exact .head _), h]; rfl
    · rw [if_neg h, ih]
      by_cases h2 : x ∈ r
      · rw [if_pos h2, if_pos (.tail _ h2)]; rfl
      · rw [if_neg h2, if_neg (by simp [h, h2])]; rfl
theorem distM_eq (l : List (Int × Int)) : distM l = (dist l).map fun y => (y, true) := by
  show l.foldl (fun m n => putK n m) [] = _
  unfold dist
  have : ∀ (l acc : List (Int × Int)), l.foldl (fun m n => putK n m) (acc.map fun y => (y, true)) = (l.foldl (fun acc x => if x ∈ acc then acc else acc ++ [x]) acc).map fun y => (y, true) := by
    intro l
    induction l with
    | nil => intro acc; rfl
    | cons x r ih =>
      intro acc
      rw [List.foldl_cons, List.foldl_cons, ← ih, mput_K]
  exact this l []
theorem distM_len (l : List (Int × Int)) : (distM l).length = (dist l).length := by rw [distM_eq, List.length_map]
theorem distM_snoc (l : List (Int × Int)) (a : Int × Int) : distM (l ++ [a]) = Go.Sy.mput (Go.Sy.Ty.beq (.tp (.ti .i64) (.ti .i64))) a true (distM l) := by
  unfold distM; rw [List.foldl_append]; rfl
theorem blk_len : ∀ {l : List Bk} {q : Int}, blkFrom q l = true → q ≤ 4000 → (l.length : Int) ≤ 4000 - q
  | [], q, _, h => by simp; omega
  | c :: r, q, h, hq => by
    rw [blkFrom, Bool.and_eq_true, blk1_iff] at h
    have := end_ge c
    have ih := blk_len h.2 (by omega)
    rw [List.length_cons]; omega
theorem wid_cnd (ms : List Ms) (b : Bk) : (decide (endB b > (ms.length : Int)) || decide (b.2 > 0) && ((ms.take (endB b).toNat).drop b.1.toNat).any soundsM) = !widOk ms b := by
  unfold widOk
  rw [Bool.not_and, Bool.not_not]
  congr 1
  rw [Bool.eq_iff_iff]; simp
theorem wid_bad {ms : List Ms} {l : List Bk} {x : Nat} (h : x < l.length) (hb : widOk ms (l.getD x bk0) = false) : widthsS ms l = ([], 1) := by
  unfold widthsS
  rw [if_neg]
  intro hc
  rw [Bool.and_eq_true, List.all_eq_true] at hc
  rw [hc.2 _ (memD bk0 h)] at hb; cases hb
theorem wid_next {ms : List Ms} {l : List Bk} {x : Nat} (h : x < l.length) (ha : (l.take x).all (widOk ms) = true) (hb : widOk ms (l.getD x bk0) = true) : (l.take (x + 1)).all (widOk ms) = true := by
  rw [takeD bk0 h, List.all_append, ha]; simp only [List.all_cons, List.all_nil, hb]; rfl
theorem wid_map {ms : List Ms} {l : List Bk} {x : Nat} (h : x < l.length) : (l.take (x + 1)).map (widB ms) = (l.take x).map (widB ms) ++ [widB ms (l.getD x bk0)] := by
  rw [takeD bk0 h, List.map_append]; rfl
theorem wid_done {ms : List Ms} {l : List Bk} (h : (!viewB ms || !blkB l) = false) (ha : l.all (widOk ms) = true) : widthsS ms l = (l.map (widB ms), 0) := by
  rw [Bool.or_eq_false_iff, Bool.not_eq_false', Bool.not_eq_false'] at h
  unfold widthsS; rw [h.1, h.2, ha]; rfl
theorem wid_none {ms : List Ms} {l : List Bk} (h : (!viewB ms || !blkB l) = true) : widthsS ms l = ([], 1) := by
  unfold widthsS
  rw [if_neg]
  intro hc
  rw [Bool.and_eq_true, Bool.and_eq_true] at hc
  rw [hc.1.1, hc.1.2] at h; cases h
theorem sound_bad {ms : List Ms} {b : Bk} {y : Nat} (hy : y < (endB b - b.1).toNat) (h0 : 0 ≤ b.1) (h2 : b.2 > 0) (hs : soundsM (ms.getD (b.1.toNat + y) ms0) = true) (he : endB b ≤ ms.length) : widOk ms b = false := by
  unfold widOk
  have : ((ms.take (endB b).toNat).drop b.1.toNat).any soundsM = true := by
    rw [List.any_eq_true]
    refine ⟨ms.getD (b.1.toNat + y) ms0, ?_, hs⟩
    have hlt : b.1.toNat + y < ms.length := by omega
    rw [List.getD_eq_getElem?_getD, List.getElem?_eq_getElem hlt]
    rw [List.mem_iff_getElem]
    refine ⟨y, by rw [List.length_drop, List.length_take]; omega, ?_⟩
    rw [List.getElem_drop, List.getElem_take]; rfl
  rw [this]; simp [h2]
theorem sound_ok {ms : List Ms} {b : Bk} (h0 : 0 ≤ b.1) (he : endB b ≤ ms.length) (h : ∀ j, j < (endB b - b.1).toNat → (b.2 > 0 ∧ soundsM (ms.getD (b.1.toNat + j) ms0) = true) → False) : widOk ms b = true := by
  unfold widOk
  rw [Bool.and_eq_true, decide_eq_true_iff, Bool.not_eq_true', Bool.and_eq_false_iff]
  refine ⟨he, ?_⟩
  by_cases h2 : b.2 > 0
  · right
    rw [List.any_eq_false]
    intro m hm
    rw [List.mem_iff_getElem] at hm
    obtain ⟨j, hj, e⟩ := hm
    rw [List.length_drop, List.length_take] at hj
    rw [List.getElem_drop, List.getElem_take] at e
    have hlt : b.1.toNat + j < ms.length := by omega
    have := h j (by omega)
    rw [List.getD_eq_getElem?_getD, List.getElem?_eq_getElem hlt] at this
    intro hs
    rw [← e] at hs
    exact this ⟨h2, hs⟩
  · left; simpa using h2
theorem foldTo_pos {ms : List Ms} {stop : Int → Bool} : ∀ {x : Nat}, 0 < x → foldTo ms stop x ≠ []
  | 0, h => absurd h (by omega)
  | x + 1, _ => by
    intro h
    rw [foldTo, stepB] at h
    split at h
    · simp at h
    · split at h
      · rename_i h2
        have := congrArg List.length h
        rw [List.length_set] at this
        exact foldTo_pos h2.1 (List.length_eq_zero_iff.1 this)
      · simp at h
theorem foldTo_rest {ms : List Ms} {stop : Int → Bool} : ∀ {x : Nat}, ∀ b ∈ foldTo ms stop x, 0 ≤ b.1 ∧ b.1 < x ∧ 0 ≤ b.2 ∧ b.1 + b.2 ≤ x
  | 0, b, hb => by simp [foldTo] at hb
  | x + 1, b, hb => by
    rw [foldTo, stepB] at hb
    split at hb
    · rcases List.mem_append.1 hb with hb | hb
      · have := foldTo_rest b hb; omega
      · rw [List.mem_singleton.1 hb]; simp only; omega
    · split at hb
      · rename_i h2
        rcases List.mem_or_eq_of_mem_set hb with hb | hb
        · have := foldTo_rest b hb; omega
        · have hp := List.length_pos_iff.2 (foldTo_pos (ms := ms) (stop := stop) h2.1)
          have := foldTo_rest (x := x) _ (memD bk0 (show (foldTo ms stop x).length - 1 < (foldTo ms stop x).length by omega))
          rw [hb]; simp only; omega
      · rcases List.mem_append.1 hb with hb | hb
        · have := foldTo_rest b hb; omega
        · rw [List.mem_singleton.1 hb]; simp only; omega
theorem step_note {ms : List Ms} {stop : Int → Bool} {x : Nat} (h : (notesM (ms.getD x ms0)).isEmpty = false) : foldTo ms stop (x + 1) = foldTo ms stop x ++ [((x : Int), 0)] := by
  rw [foldTo, stepB, if_pos h]
theorem step_more {ms : List Ms} {stop : Int → Bool} {x : Nat} (h : (notesM (ms.getD x ms0)).isEmpty = true) (h2 : 0 < x) (h3 : joinsB (ms.getD (x - 1) ms0) (ms.getD x ms0) = true) (h4 : stop x = false) :
    foldTo ms stop (x + 1) = (foldTo ms stop x).set ((foldTo ms stop x).length - 1) (((foldTo ms stop x).getD ((foldTo ms stop x).length - 1) bk0).1, ((foldTo ms stop x).getD ((foldTo ms stop x).length - 1) bk0).2 + 1) := by
  rw [foldTo, stepB, if_neg (by rw [h]; simp), if_pos ⟨h2, h3, h4⟩]
theorem step_rest {ms : List Ms} {stop : Int → Bool} {x : Nat} (h : (notesM (ms.getD x ms0)).isEmpty = true) (h2 : ¬ (0 < x ∧ joinsB (ms.getD (x - 1) ms0) (ms.getD x ms0) = true ∧ stop x = false)) :
    foldTo ms stop (x + 1) = foldTo ms stop x ++ [((x : Int), 1)] := by
  rw [foldTo, stepB, if_neg (by rw [h]; simp), if_neg h2]
theorem any_all {α : Type} {p : α → Bool} {l : List α} (d : α) (h : ∀ k, k < l.length → p (l.getD k d) = false) : l.any p = false := by
  rw [List.any_eq_false]; intro b hb
  obtain ⟨k, hk, e⟩ := idD d hb
  rw [← e, h k hk]; simp
theorem any_one {α : Type} {p : α → Bool} {l : List α} (d : α) {k : Nat} (hk : k < l.length) (h : p (l.getD k d) = true) : l.any p = true := List.any_eq_true.2 ⟨_, memD d hk, h⟩
end Go.RatLaw
