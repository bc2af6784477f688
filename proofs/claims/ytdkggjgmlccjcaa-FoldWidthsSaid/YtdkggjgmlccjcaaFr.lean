/- What the blocks of a folded view are: they tile its measures, each begins where one has to, and goes on as long as it may. No program in sight. -/
import Derived.Test.YtdkggjgmlccjcaaFq
namespace Go.RatLaw
set_option linter.unusedVariables false
set_option linter.unusedSimpArgs false

/-- the blocks l have the measures q .. x-1, in order, each once -/
def tileB : Int → List Bk → Int → Prop
  | q, [], x => q = x
  | q, b :: r, x => b.1 = q ∧ tileB (endB b) r x
structure BlkOk (ms : List Ms) (stop : Int → Bool) (b : Bk) : Prop where
  lo : 0 ≤ b.1
  nn : 0 ≤ b.2
  hi : endB b ≤ ms.length
  opens : opensB ms stop b.1.toNat = true
  note : b.2 = 0 → (notesM (ms.getD b.1.toNat ms0)).isEmpty = false
  rest : b.2 ≠ 0 → (notesM (ms.getD b.1.toNat ms0)).isEmpty = true
  goes : ∀ k : Nat, b.1 < k → (k : Int) < b.1 + b.2 → opensB ms stop k = false
theorem tile_append : ∀ {l : List Bk} {q x : Int} {b : Bk}, tileB q l x → b.1 = x → tileB q (l ++ [b]) (endB b)
  | [], q, x, b, h, hb => ⟨hb.trans h.symm, rfl⟩
  | c :: r, q, x, b, h, hb => ⟨h.1, tile_append h.2 hb⟩
theorem tile_snoc : ∀ {l : List Bk} {q x : Int} {b : Bk}, tileB q (l ++ [b]) x → tileB q l b.1 ∧ endB b = x
  | [], q, x, b, h => ⟨h.1.symm, h.2⟩
  | c :: r, q, x, b, h => ⟨⟨h.1, (tile_snoc h.2).1⟩, (tile_snoc h.2).2⟩
theorem end_rest {b : Bk} (h : 1 ≤ b.2) : endB b = b.1 + b.2 := by unfold endB; split <;> omega
theorem end_note {b : Bk} (h : b.2 = 0) : endB b = b.1 + 1 := by unfold endB; rw [h]; rfl
theorem last_of {α : Type} {l : List α} (h : l ≠ []) : ∃ a b, l = a ++ [b] := ⟨l.dropLast, l.getLast h, (List.dropLast_concat_getLast h).symm⟩
theorem fold_tile {ms : List Ms} {stop : Int → Bool} : ∀ {x : Nat}, x ≤ ms.length → tileB 0 (foldTo ms stop x) x ∧ ∀ b ∈ foldTo ms stop x, BlkOk ms stop b
  | 0, _ => ⟨rfl, fun b hb => by simp [foldTo] at hb⟩
  | x + 1, hx => by
    obtain ⟨ht, hok⟩ := fold_tile (ms := ms) (stop := stop) (x := x) (by omega)
    have hcast : ((x + 1 : Nat) : Int) = (x : Int) + 1 := by omega
    cases ho : opensB ms stop x with
    | true =>
      rw [step_open ho]
      have e1 : endB ((x : Int), if (notesM (ms.getD x ms0)).isEmpty = true then (1 : Int) else 0) = (x : Int) + 1 := by
        unfold endB; split <;> simp
      refine ⟨by rw [hcast, ← e1]; exact tile_append ht rfl, fun b hb => ?_⟩
      rcases List.mem_append.1 hb with hb | hb
      · exact hok b hb
      · rw [List.mem_singleton.1 hb]
        refine ⟨by simp, ?_, by rw [e1]; omega, ho, fun h => ?_, fun h => ?_, fun k h1 h2 => ?_⟩
        · simp only; split <;> omega
        · simp only at h ⊢
          cases hn : (notesM (ms.getD x ms0)).isEmpty with
          | true => rw [hn, if_pos rfl] at h; cases h
          | false => exact hn
        · simp only at h ⊢
          cases hn : (notesM (ms.getD x ms0)).isEmpty with
          | true => exact hn
          | false => rw [hn] at h; exact absurd rfl h
        · simp only at h1 h2
          split at h2 <;> omega
    | false =>
      obtain ⟨b1, b2, b3, b4⟩ := step_join ho
      obtain ⟨a, b, e⟩ := last_of (foldTo_pos (ms := ms) (stop := stop) b2)
      rw [e] at ht hok
      obtain ⟨t1, t2⟩ := tile_snoc ht
      have hb := hok b (List.mem_append_right _ (.head _))
      have hr : 1 ≤ b.2 := by
        rcases Int.lt_or_le 0 b.2 with h | h
        · omega
        · have h0 : b.2 = 0 := by have := hb.nn; omega
          have hn := hb.note h0
          have := end_note h0
          have hx1 : b.1.toNat = x - 1 := by omega
          rw [hx1, (join_iff.1 b3).1] at hn; cases hn
      have e2 := end_rest hr
      have es : foldTo ms stop (x + 1) = a ++ [(b.1, b.2 + 1)] := by
        rw [step_more b1 b2 b3 b4, e, show b = (b.1, b.2) from rfl, set_last]
      have e3 : endB (b.1, b.2 + 1) = (x : Int) + 1 := by
        rw [end_rest (by simp only; omega)]; simp only; omega
      rw [es]
      refine ⟨by rw [hcast, ← e3]; exact tile_append t1 rfl, fun c hc => ?_⟩
      rcases List.mem_append.1 hc with hc | hc
      · exact hok c (List.mem_append_left _ hc)
      · rw [List.mem_singleton.1 hc]
        refine ⟨hb.lo, by simp only; omega, by rw [e3]; omega, hb.opens, fun h => ?_, fun _ => hb.rest (by omega), fun k h1 h2 => ?_⟩
        · simp only at h; omega
        · simp only at h1 h2
          rcases Int.lt_or_le k (b.1 + b.2) with h | h
          · exact hb.goes k h1 h
          · have : k = x := by omega
            rw [this]; exact ho
/-- blocks that tile and go on as long as they may are the blocks -/
theorem tile_one {ms : List Ms} {stop : Int → Bool} {n : Int} : ∀ {l m : List Bk} {q : Int}, tileB q l n → tileB q m n → (∀ b ∈ l, BlkOk ms stop b) → (∀ b ∈ m, BlkOk ms stop b) → l = m
  | [], [], _, _, _, _, _ => rfl
  | [], c :: r, q, h1, h2, _, hm => by
    have hle : ∀ {r : List Bk} {q : Int}, tileB q r n → q ≤ n := by
      intro r
      induction r with
      | nil => intro q h; exact Int.le_of_eq h
      | cons d s ih => intro q h; have := end_ge d; have := ih h.2; have := h.1; omega
    have := end_ge c; have := hle h2.2; have := h2.1; have : q = n := h1; omega
  | b :: s, [], q, h1, h2, _, _ => by
    have hle : ∀ {r : List Bk} {q : Int}, tileB q r n → q ≤ n := by
      intro r
      induction r with
      | nil => intro q h; exact Int.le_of_eq h
      | cons d s ih => intro q h; have := end_ge d; have := ih h.2; have := h.1; omega
    have := end_ge b; have := hle h1.2; have := h1.1; have : q = n := h2; omega
  | b :: s, c :: r, q, h1, h2, hl, hm => by
    have hle : ∀ {r : List Bk} {q : Int}, tileB q r n → q ≤ n := by
      intro r
      induction r with
      | nil => intro q h; exact Int.le_of_eq h
      | cons d s ih => intro q h; have := end_ge d; have := ih h.2; have := h.1; omega
    have hb := hl b (.head _)
    have hc := hm c (.head _)
    have hq : b.1 = c.1 := h1.1.trans h2.1.symm
    have lem : ∀ {b c : Bk} {s r : List Bk}, b.1 = c.1 → BlkOk ms stop b → BlkOk ms stop c → tileB (endB b) s n → tileB (endB c) r n → (∀ b ∈ s, BlkOk ms stop b) → ¬ b.2 < c.2 := by
      intro b c s r hq hb hc t1 t2 hs hlt
      have hb1 : 1 ≤ b.2 := by
        rcases Int.lt_or_le 0 b.2 with h | h
        · omega
        · have h0 : b.2 = 0 := by have := hb.nn; omega
          have e1 := hb.note h0
          have e2 := hc.rest (by omega)
          rw [hq, e2] at e1; cases e1
      have e1 := end_rest hb1
      have e2 := end_rest (b := c) (by omega)
      have hn := hle t2
      cases s with
      | nil => have : endB b = n := t1; omega
      | cons d s =>
        have hd := hs d (.head _)
        have hd1 : d.1 = endB b := t1.1
        have ho := hd.opens
        have hlo := hd.lo
        have hblo := hb.lo
        have hg := hc.goes d.1.toNat (by omega) (by omega)
        rw [ho] at hg; cases hg
    have e2 : b.2 = c.2 := by
      have k1 := lem hq hb hc h1.2 h2.2 fun x hx => hl x (.tail _ hx)
      have k2 := lem hq.symm hc hb h2.2 h1.2 fun x hx => hm x (.tail _ hx)
      omega
    have e : b = c := Prod.ext hq e2
    subst e
    rw [tile_one h1.2 h2.2 (fun x hx => hl x (.tail _ hx)) fun x hx => hm x (.tail _ hx)]
theorem tile_blk {ms : List Ms} {stop : Int → Bool} (hlen : ms.length ≤ 4000) : ∀ {l : List Bk} {q x : Int}, tileB q l x → (∀ b ∈ l, BlkOk ms stop b) → blkFrom q l = true
  | [], _, _, _, _ => rfl
  | b :: r, q, x, h, hok => by
    have hb := hok b (.head _)
    have := end_ge b
    have h2 : b.2 ≤ endB b := by have := hb.lo; unfold endB; split <;> omega
    rw [blkFrom, Bool.and_eq_true, blk1_iff]
    exact ⟨⟨by have := h.1; omega, by have := hb.hi; omega, hb.nn, by have := hb.hi; omega, by have := hb.hi; omega⟩, tile_blk hlen h.2 fun c hc => hok c (.tail _ hc)⟩
theorem range_app (q : Int) (a b : Nat) : rangeI q (a + b) = rangeI q a ++ rangeI (q + a) b := by
  unfold rangeI
  rw [List.range_add, List.map_append, List.map_map]
  congr 1
  apply List.map_congr_left
  intro i _
  simp only [Function.comp]; omega
theorem tile_unf : ∀ {l : List Bk} {q x : Int}, tileB q l x → q ≤ x ∧ unfB l = rangeI q (x - q).toNat
  | [], q, x, h => by
    have h : q = x := h
    subst h
    exact ⟨Int.le_refl _, by rw [Int.sub_self]; rfl⟩
  | b :: r, q, x, h => by
    obtain ⟨h1, h2⟩ := tile_unf h.2
    have hq := h.1
    have := end_ge b
    refine ⟨by omega, ?_⟩
    have e : unfB (b :: r) = spanB b ++ unfB r := by simp [unfB]
    rw [e, h2, spanB, hq, show (x - q).toNat = (endB b - q).toNat + (x - endB b).toNat by omega, range_app]
    congr 2; omega
theorem rangeI_get {n k : Nat} (h : k < n) (d : Int) : (rangeI 0 n).getD k d = k := by
  unfold rangeI
  rw [List.getD_eq_getElem?_getD, List.getElem?_map, List.getElem?_range h]; simp
theorem rangeI_len (q : Int) (n : Nat) : (rangeI q n).length = n := by unfold rangeI; simp
theorem tile_next : ∀ {l : List Bk} {q x : Int} {k : Nat}, tileB q l x → k + 1 < l.length → (l.getD (k + 1) bk0).1 = endB (l.getD k bk0)
  | [], _, _, _, _, h => by simp at h
  | [b], _, _, k, _, h => by simp at h
  | b :: c :: r, q, x, 0, h, _ => h.2.1
  | b :: c :: r, q, x, k + 1, h, hk => tile_next (l := c :: r) h.2 (by simpa using hk)
/-- all measures of a block of rest join its first one -/
theorem blk_joins {ms : List Ms} {stop : Int → Bool} {b : Bk} (hb : BlkOk ms stop b) : ∀ {k : Nat}, (k : Int) < b.2 → joinsB (ms.getD b.1.toNat ms0) (ms.getD (b.1.toNat + k) ms0) = true
  | 0, h => by
    have := hb.rest (by omega)
    exact join_iff.2 ⟨this, this, rfl, rfl⟩
  | k + 1, h => by
    obtain ⟨_, a2, a3, a4⟩ := join_iff.1 (blk_joins hb (k := k) (by omega))
    have hl := hb.lo
    obtain ⟨_, _, j, _⟩ := step_join (hb.goes (b.1.toNat + (k + 1)) (by omega) (by omega))
    rw [show b.1.toNat + (k + 1) - 1 = b.1.toNat + k by omega] at j
    obtain ⟨c1, c2, c3, c4⟩ := join_iff.1 j
    exact join_iff.2 ⟨(join_iff.1 (blk_joins hb (k := k) (by omega))).1, c2, a3.trans c3, a4.trans c4⟩
theorem foldS_ok {ms : List Ms} {st : List Int} (hv : viewB ms = true) (hl : st.length ≤ 60) (h : ∀ n ∈ st, 0 ≤ n ∧ n < ms.length) : foldS ms st = (foldTo ms (inL st) ms.length, 0) := by
  have : st.any (wrongS ms) = false := by
    rw [List.any_eq_false]; intro n hn
    have := h n hn
    unfold wrongS; simp; omega
  unfold foldS
  rw [hv, if_neg (by simp), if_neg (by omega), if_neg (by rw [this]; simp)]
theorem fold_unf {ms : List Ms} {stop : Int → Bool} (hlen : ms.length ≤ 4000) : unfoldS (foldTo ms stop ms.length) = (rangeI 0 ms.length, 0) := by
  obtain ⟨h1, h2⟩ := fold_tile (ms := ms) (stop := stop) (Nat.le_refl _)
  unfold unfoldS blkB
  rw [tile_blk hlen h1 h2, if_pos rfl, (tile_unf h1).2, Int.sub_zero, Int.toNat_natCast]
theorem opens_stop {ms : List Ms} {stop stop' : Int → Bool} {k : Nat} (h : stop k = stop' k) : opensB ms stop k = opensB ms stop' k := by unfold opensB; rw [h]
theorem opens_at {ms : List Ms} {stop : Int → Bool} {k : Nat} (h : stop k = true) : opensB ms stop k = true := by unfold opensB; rw [h]; simp
theorem opens_more {ms : List Ms} {stop stop' : Int → Bool} {k : Nat} (h : stop k = true → stop' k = true) (ho : opensB ms stop k = true) : opensB ms stop' k = true := by
  cases hs : stop k with
  | true => exact opens_at (h hs)
  | false =>
    cases hs' : stop' k with
    | true => exact opens_at hs'
    | false => rw [← ho]; exact (opens_stop (hs.trans hs'.symm)).symm
end Go.RatLaw
