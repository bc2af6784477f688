/- Plain facts of logs: an entry more, beginnings. -/
import Derived.Test.YtfbbkknfcmofcaaDoorSealq
namespace Go.Proofs.YtfbbkknfcmofcaaDoor
open Go.Sy Go.RatLaw
set_option linter.unusedVariables false
set_option linter.unusedSimpArgs false
theorem log_open {s : Int} {l : List En} {h : Int} (e : logB s l h = true) : idB s = true ∧ l.length ≤ 5000 ∧ entsFrom 0 l = true ∧ h = chainE s l := by
  unfold logB at e
  simp only [Bool.and_eq_true, decide_eq_true_iff] at e
  exact ⟨e.1.1.1, e.1.1.2, e.1.2, e.2⟩
theorem log_mk {s : Int} {l : List En} {h : Int} (h1 : idB s = true) (h2 : l.length ≤ 5000) (h3 : entsFrom 0 l = true) (h4 : h = chainE s l) : logB s l h = true := by
  rw [log_yes h1 h2 h3, h4]; exact decide_eq_true rfl
def lastT : Int → List En → Int
  | t, [] => t
  | _, e :: l => lastT e.1 l
theorem ents_snoc : ∀ {l : List En} {t : Int} {e : En}, entsFrom t (l ++ [e]) = (entsFrom t l && (entB e && decide (lastT t l ≤ e.1)))
  | [], t, e => by
    simp only [List.nil_append, entsFrom, lastT, Bool.and_true, Bool.true_and]
    rw [Bool.eq_iff_iff]; simp only [Bool.and_eq_true, decide_eq_true_iff]
    exact ⟨fun h => ⟨h.1, decide_eq_true h.2⟩, fun h => ⟨h.1, of_decide_eq_true h.2⟩⟩
  | x :: l, t, e => by
    rw [List.cons_append]
    simp only [entsFrom, lastT]
    rw [ents_snoc, Bool.eq_iff_iff]
    simp only [Bool.and_eq_true, decide_eq_true_iff, and_assoc]
    exact ⟨fun h => ⟨h.1, h.2.1, h.2.2.1, h.2.2.2.1, decide_eq_true h.2.2.2.2⟩, fun h => ⟨h.1, h.2.1, h.2.2.1, h.2.2.2.1, of_decide_eq_true h.2.2.2.2⟩⟩
theorem lastT_eq : ∀ {l : List En} {t : Int}, lastT t l = if l.length = 0 then t else (l.getD (l.length - 1) en0).1
  | [], t => rfl
  | [x], t => rfl
  | x :: y :: l, t => by
    rw [lastT, lastT_eq, if_neg (by simp), if_neg (by simp)]
    simp
theorem lastT0 {l : List En} : lastT 0 l = lastE l l.length := by rw [lastT_eq]; rfl
theorem ents_app : ∀ {l m : List En} {t : Int}, entsFrom t (l ++ m) = true → entsFrom t l = true
  | [], m, t, _ => rfl
  | x :: l, m, t, h => by
    rw [List.cons_append] at h
    simp only [entsFrom] at h ⊢
    rw [Bool.and_eq_true] at h ⊢
    exact ⟨h.1, ents_app h.2⟩
theorem ents_mem : ∀ {l : List En} {t : Int}, entsFrom t l = true → ∀ e ∈ l, entB e = true
  | [], _, _, _, h => by cases h
  | x :: l, t, h, e, he => by
    simp only [entsFrom, Bool.and_eq_true] at h
    rcases List.mem_cons.1 he with rfl | he
    · exact h.1.1
    · exact ents_mem h.2 e he
theorem ents_take {l : List En} {k : Nat} (h : entsFrom 0 l = true) : entsFrom 0 (l.take k) = true := by
  rw [← List.take_append_drop k l] at h; exact ents_app h
theorem log_take {s : Int} {l : List En} {h : Int} {k : Nat} (e : logB s l h = true) : logB s (l.take k) (chainE s (l.take k)) = true := by
  obtain ⟨h1, h2, h3, _⟩ := log_open e
  exact log_mk h1 (by rw [List.length_take]; omega) (ents_take h3) rfl
theorem inE_take {l : List En} {k : Nat} (h : inE l) : inE (l.take k) := fun e he => h e (List.mem_of_mem_take he)
theorem log_snoc {s : Int} {l : List En} {h : Int} {x : En} (e : logB s l h = true) (hx : entB x = true) (hn : l.length < 5000) (ht : lastE l l.length ≤ x.1) : logB s (l ++ [x]) (chainE s (l ++ [x])) = true := by
  obtain ⟨h1, h2, h3, _⟩ := log_open e
  refine log_mk h1 (by simp; omega) ?_ rfl
  rw [ents_snoc, h3, hx, lastT0, decide_eq_true ht]; rfl
theorem starts_app (s : Int) (l m : List En) : startsB s l s (l ++ m) = true := by
  unfold startsB
  rw [decide_eq_true rfl, decide_eq_true (show l.length ≤ (l ++ m).length by simp), List.take_left', decide_eq_true rfl]
  · rfl
  · rfl
theorem starts_take (s : Int) (l : List En) (k : Nat) : startsB s (l.take k) s l = true := by
  have h := starts_app s (l.take k) (l.drop k)
  rwa [List.take_append_drop] at h
theorem starts_open {s s' : Int} {l l' : List En} (h : startsB s l s' l' = true) : s = s' ∧ l.length ≤ l'.length ∧ l = l'.take l.length := by
  unfold startsB at h
  simp only [Bool.and_eq_true, decide_eq_true_iff] at h
  exact ⟨h.1.1, h.1.2, h.2⟩
theorem starts_mk {s s' : Int} {l l' : List En} (h : s = s' ∧ l.length ≤ l'.length ∧ l = l'.take l.length) : startsB s l s' l' = true := by
  unfold startsB
  rw [decide_eq_true h.1, decide_eq_true h.2.1, decide_eq_true h.2.2]; rfl
theorem starts_trans {a b c : Int} {l m n : List En} (h1 : startsB a l b m = true) (h2 : startsB b m c n = true) : startsB a l c n = true := by
  obtain ⟨e1, g1, k1⟩ := starts_open h1
  obtain ⟨e2, g2, k2⟩ := starts_open h2
  refine starts_mk ⟨e1.trans e2, by omega, ?_⟩
  have h3 : l = (n.take m.length).take l.length := by rw [← k2]; exact k1
  rw [List.take_take, Nat.min_eq_left g1] at h3
  exact h3
theorem starts_anti {a b : Int} {l m : List En} (h1 : startsB a l b m = true) (h2 : startsB b m a l = true) : a = b ∧ l = m := by
  obtain ⟨e1, g1, k1⟩ := starts_open h1
  obtain ⟨e2, g2, k2⟩ := starts_open h2
  refine ⟨e1, ?_⟩
  have : l.length = m.length := by omega
  rw [this, List.take_length] at k1
  exact k1
theorem starts_len {a b : Int} {l m : List En} (h1 : startsB a l b m = true) (h : l.length = m.length) : l = m := by
  obtain ⟨e1, g1, k1⟩ := starts_open h1
  rw [h, List.take_length] at k1
  exact k1
theorem chain_more (s : Int) (l : List En) (x : En) : chainE s (l ++ [x]) = nextS (chainS (listsE s l)) (7 :: intsE x) := by
  rw [chainE_ne (by simp)]
  unfold listsE
  rw [List.map_append, ← List.cons_append, List.map_cons, List.map_nil, chain_snoc]
  rfl
theorem ent_nn {t k a b c g : Int} (h : entryB t k a b c g = true) : (0 ≤ t ∧ t ≤ 1000000000) ∧ (0 ≤ k ∧ k ≤ 1000000000) ∧ (0 ≤ a ∧ a ≤ 1000000000) ∧ (0 ≤ b ∧ b ≤ 1000000000) ∧ (0 ≤ c ∧ c ≤ 1000000000) := by
  unfold entryB at h
  rw [Bool.and_eq_true] at h
  obtain ⟨ht, h⟩ := h
  have ht := rngB_i ht
  refine ⟨by omega, ?_⟩
  unfold kindB idB rngB at h
  split at h
  · simp only [Bool.and_eq_true, decide_eq_true_iff] at h; omega
  split at h
  · simp only [Bool.and_eq_true, decide_eq_true_iff] at h; omega
  split at h
  · simp only [Bool.and_eq_true, decide_eq_true_iff] at h; omega
  split at h
  · simp only [Bool.and_eq_true, decide_eq_true_iff] at h; omega
  split at h
  · simp only [Bool.and_eq_true, decide_eq_true_iff] at h; omega
  · cases h
theorem starts_self (s : Int) (l : List En) : startsB s l s l = true := by
  unfold startsB
  rw [decide_eq_true rfl, decide_eq_true (Nat.le_refl _), List.take_length, decide_eq_true rfl]; rfl
theorem same_self (s : Int) (l : List En) (h : Int) : sameL s l h s l h = true := by
  unfold sameL
  rw [starts_self, decide_eq_true rfl, decide_eq_true rfl]; rfl
theorem app_bad {s : Int} {l : List En} {h t k a b c g : Int} (hv : logB s l h = true) (hx : entryB t k a b c g = false) : appS s l h (t, k, a, b, c, g) = ((0, ([], 0)), 1) := app_no (by rw [hx]; simp)
theorem app_late {s : Int} {l : List En} {h t k a b c g : Int} (hv : logB s l h = true) (hn : l.length < 5000) (hx : entryB t k a b c g = true) (hq : 0 < l.length ∧ t < lastE l l.length) : appS s l h (t, k, a, b, c, g) = ((0, ([], 0)), 6) := by
  rw [app_if ⟨hv, hx⟩, if_neg (by omega), if_pos hq]
theorem app_ok {s : Int} {l : List En} {h t k a b c g : Int} (hv : logB s l h = true) (hn : l.length < 5000) (hx : entryB t k a b c g = true) (hq : ¬ (0 < l.length ∧ t < lastE l l.length)) :
    appS s l h (t, k, a, b, c, g) = ((s, (l ++ [(t, k, a, b, c, g)], chainE s (l ++ [(t, k, a, b, c, g)]))), 0) := by
  rw [app_if ⟨hv, hx⟩, if_neg (by omega), if_neg hq]
theorem app_got {s : Int} {l : List En} {h t k a b c g : Int} (hv : logB s l h = true) (hn : l.length < 5000) (e : (appS s l h (t, k, a, b, c, g)).2 = 0) : entryB t k a b c g = true ∧ ¬ (0 < l.length ∧ t < lastE l l.length) ∧
    appS s l h (t, k, a, b, c, g) = ((s, (l ++ [(t, k, a, b, c, g)], chainE s (l ++ [(t, k, a, b, c, g)]))), 0) ∧ logB s (l ++ [(t, k, a, b, c, g)]) (chainE s (l ++ [(t, k, a, b, c, g)])) = true := by
  by_cases hx : entryB t k a b c g = true
  · by_cases hq : 0 < l.length ∧ t < lastE l l.length
    · rw [app_late hv hn hx hq] at e; cases e
    · refine ⟨hx, hq, app_ok hv hn hx hq, log_snoc hv hx hn ?_⟩
      have h0 := (ent_nn hx).1.1
      by_cases hl : 0 < l.length
      · exact Int.not_lt.1 fun z => hq ⟨hl, z⟩
      · have : l.length = 0 := by omega
        rw [this]; exact h0
  · rw [app_bad hv (Bool.not_eq_true _ ▸ hx)] at e; cases e
theorem beg_yes' {s : Int} {l : List En} {h s' : Int} {l' : List En} {h' : Int} (e1 : logB s l h = true) (e2 : logB s' l' h' = true) : begS s l h s' l' h' = (startsB s l s' l', 0) := beg_yes (by rw [e1, e2]; rfl)
theorem get_last {l : List En} {x : En} : (l ++ [x]).getD ((l.length : Int)).toNat en0 = x := by
  rw [Int.toNat_natCast, List.getD_eq_getElem?_getD, List.getElem?_append_right (Nat.le_refl _)]; simp

end Go.Proofs.YtfbbkknfcmofcaaDoor
