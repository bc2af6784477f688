/- The plain proofs. Written by a program (wip/tools/gen.py). -/
import Derived.Test.YtdkggjgmlccjcaaFoldnp
import Derived.Test.YtdkggjgmlccjcaaFoldmq
namespace Go.Proofs.Ytdkggjgmlccjcaa
open Go.Sy Go.RatLaw
set_option linter.unusedVariables false
theorem splitL_snoc (n : Int) (l : List Bk) {x : Nat} (h : x < l.length) : splitL n (l.take (x + 1)) = splitL n (l.take x) ++ splitB n (l.getD x bk0) := by
  unfold splitL; rw [takeD bk0 h, List.flatMap_append]; simp
theorem splitL_len (n : Int) : ∀ l : List Bk, (splitL n l).length ≤ 2 * l.length
  | [] => by simp [splitL]
  | b :: r => by
    have ih := splitL_len n r
    have e : splitL n (b :: r) = splitB n b ++ splitL n r := by simp [splitL]
    have : (splitB n b).length ≤ 2 := by unfold splitB; split <;> simp
    rw [e, List.length_append, List.length_cons]; omega
theorem opens_ne {ms : List Ms} {stop stop' : Int → Bool} {n : Int} (hs : ∀ k, stop' k = (decide (k = n) || stop k)) {k : Nat} (h : (k : Int) ≠ n) : opensB ms stop' k = opensB ms stop k :=
  opens_stop (by rw [hs, decide_eq_false h]; rfl)
theorem split_ok {ms : List Ms} {stop stop' : Int → Bool} {n : Int} (hs : ∀ k, stop' k = (decide (k = n) || stop k)) : ∀ {l : List Bk} {q x : Int}, tileB q l x → (∀ b ∈ l, BlkOk ms stop b) → tileB q (splitL n l) x ∧ ∀ b ∈ splitL n l, BlkOk ms stop' b
  | [], q, x, h, _ => ⟨h, fun b hb => by cases hb⟩
  | b :: r, q, x, h, hok => by
    obtain ⟨t, k⟩ := split_ok hs h.2 fun c hc => hok c (.tail _ hc)
    have hb := hok b (.head _)
    have e : splitL n (b :: r) = splitB n b ++ splitL n r := by simp [splitL]
    rw [e]
    have hlo := hb.lo
    have hnn := hb.nn
    have hhi := hb.hi
    unfold splitB
    split
    · rename_i hn
      have er := end_rest (b := b) (by omega)
      have e1 : endB (b.1, n - b.1) = n := by rw [end_rest (by simp only; omega)]; simp only; omega
      have e2 : endB (n, b.1 + b.2 - n) = endB b := by rw [end_rest (by simp only; omega), er]; simp only; omega
      have hr := hb.rest (by omega)
      refine ⟨⟨h.1, e1.symm, by rw [e2]; exact t⟩, fun c hc => ?_⟩
      rcases List.mem_append.1 hc with hc | hc
      · rcases List.mem_cons.1 hc with hc | hc
        · rw [hc]
          refine ⟨hlo, by simp only; omega, by rw [e1]; omega, opens_more (fun hk => by rw [hs, hk, Bool.or_true]) hb.opens, fun h0 => by simp only at h0; omega, fun _ => hr, fun k h1 h2 => ?_⟩
          simp only at h1 h2
          rw [opens_ne hs (by omega)]
          exact hb.goes k h1 (by omega)
        · rw [List.mem_singleton.1 hc]
          have hnt : ((n.toNat : Nat) : Int) = n := by omega
          refine ⟨by simp only; omega, by simp only; omega, by rw [e2]; omega, opens_at (by rw [hnt, hs]; simp), fun h0 => by simp only at h0; omega, fun _ => ?_, fun k h1 h2 => ?_⟩
          · have hj := blk_joins hb (k := (n - b.1).toNat) (by omega)
            rw [show b.1.toNat + (n - b.1).toNat = n.toNat by omega] at hj
            exact (join_iff.1 hj).2.1
          · simp only at h1 h2
            rw [opens_ne hs (by omega)]
            exact hb.goes k (by omega) (by omega)
      · exact k c hc
    · rename_i hn
      refine ⟨⟨h.1, t⟩, fun c hc => ?_⟩
      rcases List.mem_cons.1 hc with hc | hc
      · rw [hc]
        refine ⟨hlo, hnn, hhi, opens_more (fun hk => by rw [hs, hk, Bool.or_true]) hb.opens, hb.note, hb.rest, fun k h1 h2 => ?_⟩
        rw [opens_ne hs (by omega)]
        exact hb.goes k h1 h2
      · exact k c hc
theorem split_eq {ms : List Ms} {st : List Int} {n : Int} : foldTo ms (inL ([n] ++ st)) ms.length = splitL n (foldTo ms (inL st) ms.length) := by
  obtain ⟨t1, k1⟩ := fold_tile (ms := ms) (stop := inL ([n] ++ st)) (Nat.le_refl _)
  obtain ⟨t2, k2⟩ := fold_tile (ms := ms) (stop := inL st) (Nat.le_refl _)
  obtain ⟨t3, k3⟩ := split_ok (stop' := inL ([n] ++ st)) (n := n) (fun k => by unfold inL; simp [List.mem_cons]) t2 k2
  exact tile_one t1 t3 k1 k3
theorem backS_next {st : List Int} {x : Nat} (h : x < st.length) : backS st (x + 1) = backS st x ++ [st.getD (st.length - 1 - x) 0] := by
  unfold backS
  rw [takeD 0 (by simpa using h)]
  congr 2
  rw [List.getD_eq_getElem?_getD, List.getD_eq_getElem?_getD, List.getElem?_reverse h]
theorem backS_len {st : List Int} {x : Nat} (h : x ≤ st.length) : (backS st x).length = x := by unfold backS; rw [List.length_take, List.length_reverse]; omega
theorem back_in (st : List Int) : inL (backS st st.length ++ st) = inL st := by
  funext k
  unfold inL backS
  rw [List.take_of_length_le (by simp)]
  simp
theorem p_FStops (p : Int) (ms : List Ms) (l : List Int) (u : Int) (hb : bytesB l) (hu0 : 0 ≤ u) (hu1 : u ≤ 255) : P_FStops p ms l u := by
  refine ⟨hb, fun _ _ => ⟨fun _ => rfl, fun h => ?_⟩⟩
  rcases use_cases (ms := ms) hb with e | ⟨e, hv, hm, hs, hin⟩
  · rw [e] at h; cases h
  · rw [e] at h ⊢
    generalize stopsS ms l = st at hs hin h ⊢
    simp only [Bool.or_eq_false_iff, Bool.not_eq_false', decide_eq_false_iff_not, beq_eq_false_iff_ne, ne_eq] at h
    obtain ⟨⟨_, h29⟩, h0⟩ := h
    have hn0 : 0 ≤ Int.tmod u ms.length := Int.tmod_nonneg _ hu0
    have hn1 : Int.tmod u ms.length < ms.length := Int.tmod_lt_of_pos _ (by omega)
    generalize Int.tmod u ms.length = n at hn0 hn1 ⊢
    have f1 := foldS_ok hv hs hin
    have f2 : foldS ms ([n] ++ st) = (splitL n (foldTo ms (inL st) ms.length), 0) := by
      rw [← split_eq]
      refine foldS_ok hv (by rw [List.length_append, List.length_singleton]; omega) fun k hk => ?_
      rcases List.mem_append.1 hk with hk | hk
      · rw [List.mem_singleton.1 hk]; exact ⟨hn0, hn1⟩
      · exact hin k hk
    have f3 : foldS ms (backS st st.length ++ st) = (foldTo ms (inL st) ms.length, 0) := by
      rw [← back_in st]
      refine foldS_ok hv (by rw [List.length_append, backS_len (Nat.le_refl _)]; omega) fun k hk => ?_
      rcases List.mem_append.1 hk with hk | hk
      · unfold backS at hk
        exact hin k (List.mem_reverse.1 (List.mem_of_mem_take hk))
      · exact hin k hk
    have hll := foldTo_len ms (inL st) ms.length
    have hL : ∀ x, x < (foldTo ms (inL st) ms.length).length → _ := fun x hx => blk_in hx
    rw [f1, f2]
    generalize foldTo ms (inL st) ms.length = L at hL hll f3 ⊢
    dsimp only
    refine ⟨by unfold InI64; omega, fun _ => ⟨h0, (by first | rfl | trivial), by omega, fun _ => ⟨⟨0, Nat.zero_le _, (by first | rfl | trivial), rfl, rfl⟩, fun x hx => ⟨fun hlt => ?_, fun hge => ?_⟩⟩⟩⟩
    · have hlt' : x < st.length := by have := of_decide_eq_true hlt; omega
      have ht : ((st.length : Int) - 1 - (x : Int)).toNat = st.length - 1 - x := by omega
      have hbl := backS_len (st := st) (x := x) (by omega)
      have e1 := (backS_next hlt').symm
      have e2 : (backS st x).length + (0 + 1) = (backS st (x + 1)).length := by rw [← e1]; simp
      simp only [d0I, ht]
      exact fun _ => ⟨by unfold InI64; omega, by unfold InI64; omega, by omega, by omega, (by first | rfl | trivial), by omega, by unfold InI64; omega, x + 1, hlt', by omega, (by first | rfl | trivial), e1, by (repeat' (first | rfl | trivial | apply And.intro))⟩
    · have hx' : x = st.length := by have := of_decide_eq_false hge; omega
      have hbl := backS_len (st := st) (x := x) (by omega)
      rw [hx'] at hbl ⊢
      rw [f3]
      refine ⟨(by first | rfl | trivial), by omega, fun hc => ?_, fun _ _ => ⟨⟨0, Nat.zero_le _, (by first | rfl | trivial), rfl, rfl⟩, fun y hy => ⟨fun hlt => ?_, fun hge => ?_⟩⟩⟩
      · rw [sameL_self] at hc; simp at hc
      · have hlt' : y < L.length := by have := of_decide_eq_true hlt; omega
        have hB := hL y hlt'
        have hsn := splitL_snoc n L hlt'
        have hsl := splitL_len n (L.take y)
        rw [List.length_take] at hsl
        simp only [d0K, tn]
        generalize L.getD y bk0 = b at hB hsn ⊢
        have hlo := hB.lo
        have hnn := hB.nn
        have hhi := hB.hi
        have hel := end_le hnn
        refine ⟨by omega, by omega, fun _ => by unfold InI64; omega, fun hc => ?_, fun hc => ?_⟩
        · simp only [Bool.and_eq_true, decide_eq_true_eq] at hc
          have e1 : splitL n (List.take y L) ++ [(b.1, n - b.1), (n, b.1 + b.2 - n)] = splitL n (List.take (y + 1) L) := by
            rw [hsn]; unfold splitB; rw [if_pos hc]
          have e2 : (splitL n (List.take y L)).length + (0 + 1 + 1) = (splitL n (List.take (y + 1) L)).length := by rw [← e1]; simp
          exact ⟨by unfold InI64; omega, by unfold InI64; omega, by unfold InI64; omega, (by first | rfl | trivial), by omega, by unfold InI64; omega, y + 1, hlt', by omega, (by first | rfl | trivial), e1, by (repeat' (first | rfl | trivial | apply And.intro))⟩
        · have hc' : ¬ (b.1 < n ∧ n < b.1 + b.2) := by
            rintro ⟨q1, q2⟩; rw [decide_eq_true q1, decide_eq_true q2] at hc; cases hc
          have e1 : splitL n (List.take y L) ++ [(b.1, b.2)] = splitL n (List.take (y + 1) L) := by
            rw [hsn]; unfold splitB; rw [if_neg hc']
          have e2 : (splitL n (List.take y L)).length + (0 + 1) = (splitL n (List.take (y + 1) L)).length := by rw [← e1]; simp
          exact ⟨(by first | rfl | trivial), by omega, by unfold InI64; omega, y + 1, hlt', by omega, (by first | rfl | trivial), e1, by (repeat' (first | rfl | trivial | apply And.intro))⟩
      · have hy' : y = L.length := by have := of_decide_eq_false hge; omega
        rw [hy', List.take_length, sameL_self]; rfl

end Go.Proofs.Ytdkggjgmlccjcaa
