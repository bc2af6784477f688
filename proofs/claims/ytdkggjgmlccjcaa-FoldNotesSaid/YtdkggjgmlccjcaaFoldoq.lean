/- The plain proofs. Written by a program (wip/tools/gen.py). -/
import Derived.Test.YtdkggjgmlccjcaaFoldop
import Derived.Test.YtdkggjgmlccjcaaFoldmq
namespace Go.Proofs.Ytdkggjgmlccjcaa
open Go.Sy Go.RatLaw
set_option linter.unusedVariables false
theorem cutL_snoc (n : Int) (l : List Bk) {x : Nat} (h : x < l.length) : cutL n (l.take (x + 1)) = cutL n (l.take x) ++ cutB n (l.getD x bk0) := by
  unfold cutL; rw [takeD bk0 h, List.flatMap_append]; simp
theorem cutL_len (n : Int) : ∀ l : List Bk, (cutL n l).length ≤ 3 * l.length
  | [] => by simp [cutL]
  | b :: r => by
    have ih := cutL_len n r
    have e : cutL n (b :: r) = cutB n b ++ cutL n r := by simp [cutL]
    have : (cutB n b).length ≤ 3 := by unfold cutB; repeat' split <;> simp
    rw [e, List.length_append, List.length_cons]; omega
/-- what another note changes: only whether measures rest -/
structure Noted (ms ms' : List Ms) (n : Nat) : Prop where
  len : ms'.length = ms.length
  key : ∀ i, i < ms.length → (ms'.getD i ms0).2.1 = (ms.getD i ms0).2.1 ∧ (ms'.getD i ms0).2.2.1 = (ms.getD i ms0).2.2.1
  here : (notesM (ms'.getD n ms0)).isEmpty = false
  else' : ∀ i, i < ms.length → i ≠ n → (notesM (ms'.getD i ms0)).isEmpty = (notesM (ms.getD i ms0)).isEmpty
theorem noted_opens {ms ms' : List Ms} {n : Nat} {stop : Int → Bool} (h : Noted ms ms' n) {k : Nat} (hk : k < ms.length) (h1 : k ≠ n) (h2 : k ≠ n + 1) : opensB ms' stop k = opensB ms stop k := by
  unfold opensB joinsB
  rw [h.else' k hk h1]
  cases k with
  | zero => simp
  | succ k =>
    rw [Nat.add_sub_cancel, h.else' k (by omega) (by omega), (h.key k (by omega)).1, (h.key k (by omega)).2, (h.key (k + 1) hk).1, (h.key (k + 1) hk).2]
theorem noted_here {ms ms' : List Ms} {n : Nat} {stop : Int → Bool} (h : Noted ms ms' n) : opensB ms' stop n = true := by
  unfold opensB; rw [h.here]; rfl
theorem noted_next {ms ms' : List Ms} {n : Nat} {stop : Int → Bool} (h : Noted ms ms' n) : opensB ms' stop (n + 1) = true := by
  unfold opensB joinsB; rw [Nat.add_sub_cancel, h.here]; simp
theorem noted_more {ms ms' : List Ms} {n : Nat} {stop : Int → Bool} (h : Noted ms ms' n) {k : Nat} (hk : k < ms.length) (ho : opensB ms stop k = true) : opensB ms' stop k = true := by
  by_cases h1 : k = n
  · rw [h1]; exact noted_here h
  · by_cases h2 : k = n + 1
    · rw [h2]; exact noted_next h
    · rw [noted_opens h hk h1 h2]; exact ho
theorem cut_ok {ms ms' : List Ms} {stop : Int → Bool} {n : Nat} (hn : Noted ms ms' n) (hnl : n < ms.length) : ∀ {l : List Bk} {q x : Int}, tileB q l x → (∀ b ∈ l, BlkOk ms stop b) → tileB q (cutL n l) x ∧ ∀ b ∈ cutL n l, BlkOk ms' stop b
  | [], q, x, h, _ => ⟨h, fun b hb => by cases hb⟩
  | b :: r, q, x, h, hok => by
    obtain ⟨t, k⟩ := cut_ok hn hnl h.2 fun c hc => hok c (.tail _ hc)
    have hb := hok b (.head _)
    have e : cutL n (b :: r) = cutB n b ++ cutL n r := by simp [cutL]
    rw [e]
    have hlo := hb.lo
    have hnn := hb.nn
    have hhi := hb.hi
    have hge := end_ge b
    have hlen := hn.len
    unfold cutB
    split
    · rename_i hc
      refine ⟨⟨h.1, t⟩, fun c hc' => ?_⟩
      rcases List.mem_cons.1 hc' with hc' | hc'
      · rw [hc']
        refine ⟨hlo, hnn, by rw [hlen]; exact hhi, noted_more hn (by omega) hb.opens, fun h0 => ?_, fun h0 => ?_, fun i h1 h2 => ?_⟩
        · by_cases he : b.1.toNat = n
          · rw [he]; exact hn.here
          · rw [hn.else' _ (by omega) he]; exact hb.note h0
        · have er := end_rest (b := b) (by omega)
          rw [hn.else' _ (by omega) (by omega)]; exact hb.rest h0
        · have er := end_rest (b := b) (by omega)
          rw [noted_opens hn (by omega) (by omega) (by omega)]; exact hb.goes i h1 h2
      · exact k c hc'
    · rename_i hc
      have hc1 : b.1 ≤ n ∧ (n : Int) < b.1 + b.2 := by omega
      have er := end_rest (b := b) (by omega)
      have hr := hb.rest (by omega)
      have e2 : endB ((n : Int), (0 : Int)) = n + 1 := rfl
      have H2 : BlkOk ms' stop ((n : Int), 0) := ⟨by simp only; omega, by simp only; omega, by rw [e2]; omega, noted_here hn, fun _ => hn.here, fun h0 => absurd rfl h0, fun i h1 h2 => by simp only at h1 h2; omega⟩
      have H1 : (n : Int) > b.1 → BlkOk ms' stop (b.1, (n : Int) - b.1) ∧ endB (b.1, (n : Int) - b.1) = n := fun hg => by
        have e1 : endB (b.1, (n : Int) - b.1) = n := by rw [end_rest (by simp only; omega)]; simp only; omega
        refine ⟨⟨hlo, by simp only; omega, by rw [e1]; omega, noted_more hn (by omega) hb.opens, fun h0 => by simp only at h0; omega, fun _ => ?_, fun i h1 h2 => ?_⟩, e1⟩
        · rw [hn.else' _ (by omega) (by simp only; omega)]; exact hr
        · simp only at h1 h2
          rw [noted_opens hn (by omega) (by omega) (by omega)]; exact hb.goes i h1 (by omega)
      have H3 : b.1 + b.2 > (n : Int) + 1 → BlkOk ms' stop ((n : Int) + 1, b.1 + b.2 - n - 1) ∧ endB ((n : Int) + 1, b.1 + b.2 - n - 1) = endB b := fun hg => by
        have e1 : endB ((n : Int) + 1, b.1 + b.2 - n - 1) = endB b := by rw [end_rest (by simp only; omega)]; simp only; omega
        have ht : ((n : Int) + 1).toNat = n + 1 := by omega
        refine ⟨⟨by simp only; omega, by simp only; omega, by rw [e1]; omega, by simp only [ht]; exact noted_next hn, fun h0 => by simp only at h0; omega, fun _ => ?_, fun i h1 h2 => ?_⟩, e1⟩
        · simp only [ht]
          rw [hn.else' _ (by omega) (by omega)]
          have hj := blk_joins hb (k := n + 1 - b.1.toNat) (by omega)
          rw [show b.1.toNat + (n + 1 - b.1.toNat) = n + 1 by omega] at hj
          exact (join_iff.1 hj).2.1
        · simp only at h1 h2
          rw [noted_opens hn (by omega) (by omega) (by omega)]; exact hb.goes i (by omega) (by omega)
      have hq := h.1
      refine ⟨?_, fun c hc => ?_⟩
      · by_cases g1 : (n : Int) > b.1
        · rw [if_pos g1]
          by_cases g3 : b.1 + b.2 > (n : Int) + 1
          · rw [if_pos g3]
            exact ⟨hq, ⟨(H1 g1).2.symm, ⟨e2.symm, by rw [(H3 g3).2]; exact t⟩⟩⟩
          · rw [if_neg g3]
            exact ⟨hq, ⟨(H1 g1).2.symm, by rw [e2, show (n : Int) + 1 = endB b by omega]; exact t⟩⟩
        · rw [if_neg g1]
          by_cases g3 : b.1 + b.2 > (n : Int) + 1
          · rw [if_pos g3]
            exact ⟨show (n : Int) = q by omega, ⟨e2.symm, by rw [(H3 g3).2]; exact t⟩⟩
          · rw [if_neg g3]
            exact ⟨show (n : Int) = q by omega, by rw [e2, show (n : Int) + 1 = endB b by omega]; exact t⟩
      · rcases List.mem_append.1 hc with hc | hc
        · rcases List.mem_append.1 hc with hc | hc
          · split at hc
            · rename_i g; rw [List.mem_singleton.1 hc]; exact (H1 g).1
            · cases hc
          · rcases List.mem_append.1 hc with hc | hc
            · rw [List.mem_singleton.1 hc]; exact H2
            · split at hc
              · rename_i g; rw [List.mem_singleton.1 hc]; exact (H3 g).1
              · cases hc
        · exact k c hc
theorem cut_eq {ms ms' : List Ms} {st : List Int} {n : Nat} (hn : Noted ms ms' n) (hnl : n < ms.length) : foldTo ms' (inL st) ms'.length = cutL n (foldTo ms (inL st) ms.length) := by
  obtain ⟨t1, k1⟩ := fold_tile (ms := ms') (stop := inL st) (Nat.le_refl _)
  obtain ⟨t2, k2⟩ := fold_tile (ms := ms) (stop := inL st) (Nat.le_refl _)
  obtain ⟨t3, k3⟩ := cut_ok hn hnl t2 k2
  have t3' : tileB 0 (cutL n (foldTo ms (inL st) ms.length)) ms'.length := by rw [hn.len]; exact t3
  exact tile_one t1 t3' k1 k3
theorem otherS_len (k : Int) (w : Wr) (ms : List Ms) (x : Nat) : (otherS k w ms x).length = x := by unfold otherS; simp
theorem otherS_next (k : Int) (w : Wr) (ms : List Ms) (x : Nat) : otherS k w ms (x + 1) = otherS k w ms x ++ [otherM k w x (ms.getD x ms0)] := by
  unfold otherS; rw [List.range_succ, List.map_append]; rfl
theorem otherS_get (k : Int) (w : Wr) (ms : List Ms) {x i : Nat} (h : i < x) : (otherS k w ms x).getD i ms0 = otherM k w i (ms.getD i ms0) := by
  unfold otherS
  rw [List.getD_eq_getElem?_getD, List.getElem?_map, List.getElem?_range h]; rfl
theorem otherM_rest (k : Int) (w : Wr) (i : Nat) (m : Ms) : (notesM (otherM k w i m)).isEmpty = (!decide ((i : Int) = k) && (notesM m).isEmpty) := by
  unfold otherM notesM
  simp only
  by_cases h : (i : Int) = k
  · simp [h]
  · cases hm : List.isEmpty m.2.2.2 <;> simp [h]
theorem other_noted (w : Wr) (ms : List Ms) {n : Nat} (hn : n < ms.length) : Noted ms (otherS n w ms ms.length) n where
  len := otherS_len _ _ _ _
  key := fun i hi => by rw [otherS_get _ _ _ hi]; exact ⟨rfl, rfl⟩
  here := by rw [otherS_get _ _ _ hn, otherM_rest]; simp
  else' := fun i hi h => by
    rw [otherS_get _ _ _ hi, otherM_rest, decide_eq_false (by omega)]; rfl
theorem nsW_small {ms : List Ms} (h : ∀ m ∈ ms, (notesM m).length ≤ 1) (hl : ms.length ≤ 4000) : ∀ x, x ≤ ms.length → 0 ≤ nsW (ms.take x) ∧ nsW (ms.take x) ≤ x
  | 0, _ => by simp [nsW]
  | x + 1, hx => by
    have ih := nsW_small h hl x (by omega)
    have hm := h _ (memD ms0 (show x < ms.length by omega))
    rw [nsW_take (by omega)]
    unfold w64
    rw [wrap_i64 (by unfold InI64; omega)]
    omega
theorem other_view {k : Int} {w : Wr} {ms : List Ms} (hv : viewB ms = true) (hl : ms.length ≤ 60) : viewB (otherS k w ms ms.length) = true := by
  obtain ⟨h1, h2, h3⟩ := viewB_iff.1 hv
  have hget : ∀ m ∈ otherS k w ms ms.length, ∃ i, i < ms.length ∧ m = otherM k w i (ms.getD i ms0) := fun m hm => by
    obtain ⟨i, hi, e⟩ := idD ms0 hm
    rw [otherS_len] at hi
    exact ⟨i, hi, by rw [← e, otherS_get _ _ _ hi]⟩
  have hle : ∀ m ∈ otherS k w ms ms.length, (notesM m).length ≤ 1 := fun m hm => by
    obtain ⟨i, hi, e⟩ := hget m hm
    rw [e]
    unfold otherM notesM
    simp only
    split <;> simp
  rw [viewB_iff]
  refine ⟨by rw [otherS_len]; omega, fun m hm => ?_, ?_⟩
  · obtain ⟨i, hi, e⟩ := hget m hm
    rw [e]; show okM (ms.getD i ms0) = true; exact h2 _ (memD ms0 hi)
  · have := nsW_small hle (by rw [otherS_len]; omega) _ (Nat.le_refl _)
    rw [List.take_length, otherS_len] at this
    omega
set_option linter.unusedSimpArgs false in
theorem p_FNotes (p : Int) (ms : List Ms) (l : List Int) (u : Int) (a b c d e f g h i j : Int) (hb : bytesB l) (hu0 : 0 ≤ u) (hu1 : u ≤ 255) : P_FNotes p ms l u a b c d e f g h i j := by
  refine ⟨hb, fun _ => ⟨fun _ => rfl, fun hu hml => ?_⟩⟩
  have hw : IntKind.i64.wrap u = u := wrap_i64 (by unfold InI64; omega)
  rcases use_cases (ms := ms) hb with e0 | ⟨e0, hv, hm, hs, hin⟩
  · rw [e0] at hu; cases hu
  · rw [e0] at hu
    rw [e0, hw]
    generalize stopsS ms l = st at hs hin hu ⊢
    simp only [Bool.or_eq_false_iff, beq_eq_false_iff_ne, ne_eq] at hu
    have h0 := hu.2
    have hn0 : 0 ≤ Int.tmod u ms.length := Int.tmod_nonneg _ hu0
    have hn1 : Int.tmod u ms.length < ms.length := Int.tmod_lt_of_pos _ (by omega)
    generalize Int.tmod u ms.length = n at hn0 hn1 ⊢
    obtain ⟨k, rfl⟩ := Int.eq_ofNat_of_zero_le hn0
    generalize ((a, (b, (c, ((d, e), ((f, g), (h, (i, j))))))) : Wr) = w
    have f1 := foldS_ok hv hs hin
    have hol := otherS_len (k : Int) w ms ms.length
    have f2 : foldS (otherS k w ms ms.length) st = (cutL k (foldTo ms (inL st) ms.length), 0) := by
      rw [foldS_ok (other_view hv hm) hs (fun n hn => by rw [hol]; exact hin n hn), cut_eq (other_noted w ms (by omega)) (by omega)]
    have hll := foldTo_len ms (inL st) ms.length
    have hL : ∀ x, x < (foldTo ms (inL st) ms.length).length → _ := fun x hx => blk_in hx
    rw [f1]
    generalize foldTo ms (inL st) ms.length = L at hL hll f2 ⊢
    dsimp only
    refine ⟨h0, fun _ => ⟨⟨0, Nat.zero_le _, (by first | rfl | trivial), (by first | rfl | trivial), rfl, rfl⟩, fun x hx => ⟨fun hlt => ?_, fun hge => ?_⟩⟩⟩
    · have hlt' : x < ms.length := by have := of_decide_eq_true hlt; omega
      have hol2 := otherS_len (k : Int) w ms x
      have e1 := otherS_next (k : Int) w ms x
      have e2 : (otherS (k : Int) w ms x).length + (0 + 1) = (otherS (k : Int) w ms (x + 1)).length := by rw [otherS_len, otherS_len]
      simp only [d0M, tn, len_pos]
      refine ⟨by omega, by omega, fun _ => ⟨fun hc => ?_, fun hc => ?_⟩⟩
      · have e3 : otherS (k : Int) w ms x ++ [(IntKind.i64.wrap ((ms.getD x ms0).1 + 1), (ms.getD x ms0).2.1, ((ms.getD x ms0).2.2.1.1, (ms.getD x ms0).2.2.1.2), [w])] = otherS (k : Int) w ms (x + 1) := by
          rw [e1]; unfold otherM; rw [if_pos (by
            rw [Bool.or_eq_true, beq_iff_eq] at hc
            exact hc.imp id (fun h => by simpa [notesM] using h))]; rfl
        exact ⟨(by first | rfl | trivial), by omega, x + 1, hlt', by omega, wr_nat (by omega), by (repeat' (first | rfl | trivial | apply And.intro))⟩
      · have e3 : otherS (k : Int) w ms x ++ [(IntKind.i64.wrap ((ms.getD x ms0).1 + 1), (ms.getD x ms0).2.1, ((ms.getD x ms0).2.2.1.1, (ms.getD x ms0).2.2.1.2), (ms.getD x ms0).2.2.2)] = otherS (k : Int) w ms (x + 1) := by
          rw [Bool.or_eq_false_iff, beq_eq_false_iff_ne] at hc
          have hem : (ms.getD x ms0).2.2.2 = [] := by simpa using hc.2
          rw [e1]; unfold otherM; rw [if_neg (by
            rintro (h | h)
            · exact hc.1 h
            · unfold notesM at h; rw [hem] at h; cases h), hem]; rfl
        exact ⟨(by first | rfl | trivial), by omega, x + 1, hlt', by omega, wr_nat (by omega), by (repeat' (first | rfl | trivial | apply And.intro))⟩
    · have hx' : x = ms.length := by have := of_decide_eq_false hge; omega
      rw [hx', f2]
      refine ⟨fun hc => by simp at hc, fun _ _ => ⟨⟨0, Nat.zero_le _, (by first | rfl | trivial), rfl, rfl⟩, fun y hy => ⟨fun hlt => ?_, fun hge => ?_⟩⟩⟩
      · have hlt' : y < L.length := by have := of_decide_eq_true hlt; omega
        have hB := hL y hlt'
        have hsn := cutL_snoc (k : Int) L hlt'
        have hsl := cutL_len (k : Int) (L.take y)
        rw [List.length_take] at hsl
        simp only [d0K, tn]
        generalize L.getD y bk0 = v at hB hsn ⊢
        have hlo := hB.lo
        have hnn := hB.nn
        have hhi := hB.hi
        have hel := end_le hnn
        have w1 : IntKind.i64.wrap (v.1 + v.2) = v.1 + v.2 := wrap_i64 (by unfold InI64; omega)
        have w2 : IntKind.i64.wrap ((k : Int) + 1) = (k : Int) + 1 := wrap_i64 (by unfold InI64; omega)
        have w3 : IntKind.i64.wrap ((k : Int) - v.1) = (k : Int) - v.1 := wrap_i64 (by unfold InI64; omega)
        have w4 : IntKind.i64.wrap (v.1 + v.2 - (k : Int)) = v.1 + v.2 - (k : Int) := wrap_i64 (by unfold InI64; omega)
        have w5 : IntKind.i64.wrap (v.1 + v.2 - (k : Int) - 1) = v.1 + v.2 - (k : Int) - 1 := wrap_i64 (by unfold InI64; omega)
        simp only [w1, w2, w3, w4, w5]
        refine ⟨by omega, by omega, fun hc => ?_, fun hc => ⟨fun g1 => ⟨(by first | rfl | trivial), by omega, by simp, by omega, fun g3 => ?_, fun g3 => ?_⟩, fun g1 => ⟨(by first | rfl | trivial), by omega, fun g3 => ?_, fun g3 => ?_⟩⟩⟩
        · have hc' : (k : Int) < v.1 ∨ (k : Int) ≥ v.1 + v.2 := by rw [Bool.or_eq_true, decide_eq_true_iff, decide_eq_true_iff] at hc; exact hc
          have e1 : cutL (k : Int) (List.take y L) ++ [(v.1, v.2)] = cutL (k : Int) (List.take (y + 1) L) := by rw [hsn]; unfold cutB; rw [if_pos hc']
          have e2 : (cutL (k : Int) (List.take y L)).length + (0 + 1) = (cutL (k : Int) (List.take (y + 1) L)).length := by rw [← e1]; simp
          exact ⟨(by first | rfl | trivial), by omega, y + 1, hlt', by omega, wr_nat (by omega), by (repeat' (first | rfl | trivial | apply And.intro))⟩
        · have hc' : ¬ ((k : Int) < v.1 ∨ (k : Int) ≥ v.1 + v.2) := by
            intro h; rw [Bool.or_eq_false_iff, decide_eq_false_iff_not, decide_eq_false_iff_not] at hc; exact h.elim hc.1 hc.2
          have e1 : cutL (k : Int) (List.take y L) ++ [(v.1, (k : Int) - v.1)] ++ [((k : Int), 0)] ++ [((k : Int) + 1, v.1 + v.2 - (k : Int) - 1)] = cutL (k : Int) (List.take (y + 1) L) := by
            rw [hsn]; unfold cutB; rw [if_neg hc', if_pos (of_decide_eq_true g1), if_pos (of_decide_eq_true g3)]; simp [List.append_assoc]
          have e2 : (cutL (k : Int) (List.take y L)).length + (0 + 1) + (0 + 1) + (0 + 1) = (cutL (k : Int) (List.take (y + 1) L)).length := by rw [← e1]; simp
          exact ⟨by simp, by omega, y + 1, hlt', by omega, wr_nat (by omega), by (repeat' (first | rfl | trivial | apply And.intro))⟩
        · have hc' : ¬ ((k : Int) < v.1 ∨ (k : Int) ≥ v.1 + v.2) := by
            intro h; rw [Bool.or_eq_false_iff, decide_eq_false_iff_not, decide_eq_false_iff_not] at hc; exact h.elim hc.1 hc.2
          have e1 : cutL (k : Int) (List.take y L) ++ [(v.1, (k : Int) - v.1)] ++ [((k : Int), 0)] = cutL (k : Int) (List.take (y + 1) L) := by
            rw [hsn]; unfold cutB; rw [if_neg hc', if_pos (of_decide_eq_true g1), if_neg (of_decide_eq_false g3)]; simp [List.append_assoc]
          have e2 : (cutL (k : Int) (List.take y L)).length + (0 + 1) + (0 + 1) = (cutL (k : Int) (List.take (y + 1) L)).length := by rw [← e1]; simp
          exact ⟨y + 1, hlt', by omega, wr_nat (by omega), by (repeat' (first | rfl | trivial | apply And.intro))⟩
        · have hc' : ¬ ((k : Int) < v.1 ∨ (k : Int) ≥ v.1 + v.2) := by
            intro h; rw [Bool.or_eq_false_iff, decide_eq_false_iff_not, decide_eq_false_iff_not] at hc; exact h.elim hc.1 hc.2
          have e1 : cutL (k : Int) (List.take y L) ++ [((k : Int), 0)] ++ [((k : Int) + 1, v.1 + v.2 - (k : Int) - 1)] = cutL (k : Int) (List.take (y + 1) L) := by
            rw [hsn]; unfold cutB; rw [if_neg hc', if_neg (of_decide_eq_false g1), if_pos (of_decide_eq_true g3)]; simp [List.append_assoc]
          have e2 : (cutL (k : Int) (List.take y L)).length + (0 + 1) + (0 + 1) = (cutL (k : Int) (List.take (y + 1) L)).length := by rw [← e1]; simp
          exact ⟨by simp, by omega, y + 1, hlt', by omega, wr_nat (by omega), by (repeat' (first | rfl | trivial | apply And.intro))⟩
        · have hc' : ¬ ((k : Int) < v.1 ∨ (k : Int) ≥ v.1 + v.2) := by
            intro h; rw [Bool.or_eq_false_iff, decide_eq_false_iff_not, decide_eq_false_iff_not] at hc; exact h.elim hc.1 hc.2
          have e1 : cutL (k : Int) (List.take y L) ++ [((k : Int), 0)] = cutL (k : Int) (List.take (y + 1) L) := by
            rw [hsn]; unfold cutB; rw [if_neg hc', if_neg (of_decide_eq_false g1), if_neg (of_decide_eq_false g3)]; simp [List.append_assoc]
          have e2 : (cutL (k : Int) (List.take y L)).length + (0 + 1) = (cutL (k : Int) (List.take (y + 1) L)).length := by rw [← e1]; simp
          exact ⟨y + 1, hlt', by omega, wr_nat (by omega), by (repeat' (first | rfl | trivial | apply And.intro))⟩
      · have hy' : y = L.length := by have := of_decide_eq_false hge; omega
        rw [hy', List.take_length, sameL_self]; rfl

end Go.Proofs.Ytdkggjgmlccjcaa
