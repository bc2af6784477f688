/- Plain: a measure is another one. No program in sight. -/
import Derived.Test.YtiplcokpckkopaaDoorPq
namespace Go.RatLaw
open Go.Sy
set_option linter.unusedVariables false
set_option linter.unusedSimpArgs false
theorem to_same {p : Int} {ms ms' : List Ms} {l : List Bk} {f u ed ve : Int} : ∀ {x : Nat}, (∀ i, i < x → atM ms' ((onPage l f u).getD i bk0).1 = atM ms ((onPage l f u).getD i bk0).1) → listsTo p ms' l f u ed ve x = listsTo p ms l f u ed ve x
 | 0, _ => rfl
 | x + 1, h => by
  rw [listsTo, listsTo, to_same fun i hi => h i (by omega)]
  unfold blkLists
  rw [h x (by omega)]
theorem atM_set {ms : List Ms} {k : Nat} {m : Ms} {i : Int} (h : i.toNat ≠ k) : atM (ms.set k m) i = atM ms i := by
 unfold atM
 rw [List.getD_eq_getElem?_getD, List.getD_eq_getElem?_getD, List.getElem?_set_ne (Ne.symm h)]
theorem atM_self {ms : List Ms} {i : Int} {m : Ms} (h : i.toNat < ms.length) : atM (ms.set i.toNat m) i = m := by
 unfold atM
 rw [List.getD_eq_getElem?_getD, List.getElem?_set_self h]; rfl
theorem dig_alone {p : Int} {ms : List Ms} {l : List Bk} {f u ed ve : Int} {k : Nat} {m : Ms} (hb : blkB l = true) (hp : pageB l f u = true)
  (h : ∀ i : Nat, i < l.length → ¬ (f ≤ (i : Int) ∧ (i : Int) < u ∧ (l.getD i bk0).1 = k)) : digS p (ms.set k m) l f u ed ve = digS p ms l f u ed ve := by
 unfold digS listsS
 rw [to_same fun i hi => ?_]
 obtain ⟨h1, h2, h3, h4⟩ := page_len hp
 rw [page_get hp hi]
 refine atM_set fun e => ?_
 have hlt : (f + i).toNat < l.length := by omega
 have h0 := (blk_all hb (Int.le_refl _) _ (memDg bk0 hlt)).1
 exact h (f + i).toNat hlt ⟨by omega, by omega, by omega⟩
theorem dig_alone0 {p : Int} {ms : List Ms} {l : List Bk} {f u ed ve : Int} {k : Nat} {m : Ms} (hb : blocksB ms l = true) (hb' : blocksB (ms.set k m) l = true)
  (h : ∀ i : Nat, i < l.length → ¬ (f ≤ (i : Int) ∧ (i : Int) < u ∧ (l.getD i bk0).1 = k)) : digestS p (ms.set k m) l f u ed ve = digestS p ms l f u ed ve := by
 unfold digestS
 rw [hb, hb']
 split
 ·rename_i hc
  simp only [Bool.and_eq_true] at hc
  rw [dig_alone (blocks_iff.1 hb).2.1 hc.2 h]
 ·rfl
def shp (m : Ms) : Int × ((Int × Int) × Nat) := (m.2.1, (m.2.2.1, (notesM m).length))
def okS (s : Int × ((Int × Int) × Nat)) : Bool := lenB s.2.1.1 s.2.1.2 && decide (-7 ≤ s.1 ∧ s.1 ≤ 7)
def soS (s : Int × ((Int × Int) × Nat)) : Bool := !decide (s.2.2 = 0)
theorem so_eq (m : Ms) : soundsM m = soS (shp m) := by
 unfold soundsM soS shp
 cases h : notesM m <;> simp
theorem view_shape (ms : List Ms) : viewB ms = (decide ((ms.map shp).length ≤ 4000) && ((ms.map shp).all okS && decide ((ms.map shp).foldl (fun a s => w64 (a + (s.2.2 : Nat))) 0 ≤ 20000))) := by
 unfold viewB nsW
 rw [List.length_map, List.all_map, List.foldl_map]; rfl
theorem wid_shape (ms : List Ms) (b : Bk) : widOk ms b = (decide (endB b ≤ (ms.map shp).length) && !(decide (b.2 > 0) && (((ms.map shp).take (endB b).toNat).drop b.1.toNat).any soS)) := by
 unfold widOk
 rw [List.length_map, ← List.map_take, ← List.map_drop, List.any_map]
 congr 3
 exact List.any_congr rfl (fun m => so_eq m)
theorem blocks_shape {ms ms' : List Ms} {l : List Bk} (h : ms'.map shp = ms.map shp) : blocksB ms' l = blocksB ms l := by
 unfold blocksB
 rw [view_shape ms', view_shape ms, h]
 congr 1
 have : ∀ b, widOk ms' b = widOk ms b := fun b => by rw [wid_shape, wid_shape, h]
 rw [show widOk ms' = widOk ms from funext this]
theorem set_shape {ms : List Ms} {k : Nat} {m : Ms} (hm : shp m = shp (ms.getD k ms0)) : (ms.set k m).map shp = ms.map shp := by
 refine List.ext_getElem? fun i => ?_
 rw [List.getElem?_map, List.getElem?_map, List.getElem?_set]
 split
 ·rename_i h
  subst h
  split
  ·rename_i h
   rw [List.getD_eq_getElem?_getD, List.getElem?_eq_getElem h] at hm
   rw [List.getElem?_eq_getElem h]
   exact congrArg some hm
  ·rename_i h
   rw [List.getElem?_eq_none (by omega)]
 ·rfl
theorem blk_rise : ∀ {l : List Bk} {q : Int} {i j : Nat}, blkFrom q l = true → i < j → j < l.length → (l.getD i bk0).1 < (l.getD j bk0).1
 | b :: r, q, i, j, h, hij, hj => by
  unfold blkFrom at h
  simp only [Bool.and_eq_true] at h
  have key : ∀ {r : List Bk} {q : Int} {k : Nat}, blkFrom q r = true → k < r.length → q ≤ (r.getD k bk0).1 := by
   intro r
   induction r with
   | nil => intro q k _ hk; simp at hk
   | cons c r ih =>
    intro q k h hk
    unfold blkFrom at h
    simp only [Bool.and_eq_true] at h
    have hc := h.1
    unfold blk1 at hc
    have hc := of_decide_eq_true hc
    cases k with
    | zero => exact hc.1
    | succ k =>
     have := ih h.2 (k := k) (by simpa using hk)
     simp only [List.getD_cons_succ]
     have he : c.1 < endB c := by unfold endB; split <;> omega
     omega
  cases i with
  | zero =>
   cases j with
   | zero => omega
   | succ j =>
    simp only [List.getD_cons_zero, List.getD_cons_succ]
    have := key h.2 (k := j) (by simpa using hj)
    have he : b.1 < endB b := by unfold endB; split <;> omega
    omega
  | succ i =>
   cases j with
   | zero => omega
   | succ j =>
    simp only [List.getD_cons_succ]
    exact blk_rise h.2 (by omega) (by simpa using hj)
theorem dig_last {p : Int} {ms : List Ms} {l : List Bk} {f u ed ve by' : Int} (hb : blocksB ms l = true) (hp : pageB l f u = true) {k : Int} (hk : k = (l.getD (u - 1).toNat bk0).1) {n : Nat} (hn : (notesM (atM ms k)).length = n + 1)
  {id : Int} (hid : id = ((notesM (atM ms k)).getD n wr0).1) (h0 : 0 ≤ id) (hby : 0 ≤ by') :
  digS p (ms.set k.toNat ((atM ms k).1, ((atM ms k).2.1, ((atM ms k).2.2.1, (notesM (atM ms k)).set n (turnI id by', ((notesM (atM ms k)).getD n wr0).2))))) l f u ed ve ≠ digS p ms l f u ed ve := by
 obtain ⟨h1, h2, h3, h4⟩ := page_len hp
 have hbk := (blocks_iff.1 hb).2.1
 obtain ⟨N, hN⟩ : ∃ N, (onPage l f u).length = N + 1 := ⟨(u - f).toNat - 1, by omega⟩
 have hgN : (onPage l f u).getD N bk0 = l.getD (u - 1).toNat bk0 := by
  rw [page_get hp (by omega)]; congr 1; omega
 have hku : (u - 1).toNat < l.length := by omega
 have hmem := memDg bk0 hku
 have hk0 : 0 ≤ k := by rw [hk]; exact (blk_all hbk (Int.le_refl _) _ hmem).1
 have hkl : k.toNat < ms.length := by
  have := wid_end ((blocks_iff.1 hb).2.2 _ hmem)
  have he : (l.getD (u - 1).toNat bk0).1 < endB (l.getD (u - 1).toNat bk0) := by unfold endB; split <;> omega
  omega
 generalize hm' : ((atM ms k).1, ((atM ms k).2.1, ((atM ms k).2.2.1, (notesM (atM ms k)).set n (turnI id by', ((notesM (atM ms k)).getD n wr0).2)))) = m'
 have e1 : listsTo p (ms.set k.toNat m') l f u ed ve N = listsTo p ms l f u ed ve N := to_same fun i hi => by
  rw [page_get hp (by omega)]
  refine atM_set fun e => ?_
  have hlt : (f + i).toNat < (u - 1).toNat := by omega
  have := blk_rise hbk hlt hku
  have h5 := (blk_all hbk (Int.le_refl _) _ (memDg bk0 (show (f + i).toNat < l.length by omega))).1
  omega
 have hs : (notesM (atM ms k)) = (notesM (atM ms k)).take n ++ [(notesM (atM ms k)).getD n wr0] := by
  rw [← takeDg wr0 (by omega), List.take_of_length_le (by omega)]
 have hnm : notesM m' = (notesM (atM ms k)).take n ++ [(turnI id by', ((notesM (atM ms k)).getD n wr0).2)] := by
  rw [← hm']
  show (notesM (atM ms k)).set n _ = _
  rw [List.set_eq_take_append_cons_drop, if_pos (by omega), List.drop_eq_nil_of_le (by omega)]
 have hbl : ∀ b : Bk, blkL b m' = blkL b (atM ms k) := fun b => by
  have hlen : (notesM m').length = (notesM (atM ms k)).length := by rw [← hm']; show ((notesM (atM ms k)).set n _).length = _; rw [List.length_set]
  unfold blkL; rw [hlen, ← hm']
 unfold digS listsS
 rw [hN, listsTo, listsTo, e1, hgN]
 unfold blkLists
 rw [← hk, atM_self hkl, hbl, hnm]
 conv => rhs; rw [hs]
 simp only [List.map_append, List.map_cons, List.map_nil]
 rw [← List.cons_append, ← List.cons_append, ← List.append_assoc, ← List.append_assoc]
 rw [chain_snoc, chain_snoc]
 generalize chainS _ = d
 generalize hw : (notesM (atM ms k)).getD n wr0 = w at hid ⊢
 obtain ⟨g1, g2, g3, g4⟩ := turn_ok (n := id) (w := by') h0 hby
 have e2 : lenL (noteL (turnI id by', w.2)) = (lenL (noteL w)).set 1 (turnI id by') := rfl
 have eg : (lenL (noteL w)).getD 1 0 = id := by rw [hid]; rfl
 have hl : 1 < (lenL (noteL w)).length := by show 1 < 11; decide
 rw [e2]
 generalize lenL (noteL w) = q at hl eg ⊢
 exact (next_turn d hl (by rw [eg]; exact h0) g1 (by rw [eg]; exact g3) (by rw [eg]; exact g4)).symm
theorem wfI_of {a : Int} (h : InI64 a) : (Lit.int .i64 a).wf = true := by
 simp only [Lit.wf, Bool.and_eq_true, decide_eq_true_eq]
 exact h
theorem mem_set {α : Type} {l : List α} {k : Nat} {a x : α} (h : x ∈ l.set k a) : x ∈ l ∨ x = a := (List.mem_or_eq_of_mem_set h)
theorem wfM_set {ms : List Ms} {k : Nat} {m : Ms} (h : wfM ms) (h1 : tyM.In m) (h2 : tyM.Bd 140737488355328 m) : wfM (ms.set k m) := by
 obtain ⟨g1, g2, g3⟩ := h
 refine ⟨fun x hx => ?_, Nat.le_trans (Nat.le_of_eq (List.length_set ..)) g2, fun x hx => ?_⟩
 ·rcases mem_set hx with hx | hx
  ·exact g1 x hx
  ·rw [hx]; exact h1
 ·rcases mem_set hx with hx | hx
  ·exact g3 x hx
  ·rw [hx]; exact h2
theorem set_two {ms : List Ms} {k : Nat} {m d : Ms} (h : k < ms.length) (more : List Wr) : (ms.set k m).set k (((ms.set k m).getD k d).1, (((ms.set k m).getD k d).2.1, ((((ms.set k m).getD k d).2.2.1.1, ((ms.set k m).getD k d).2.2.1.2), more))) = ms.set k (m.1, (m.2.1, (m.2.2.1, more))) := by
 have e : (ms.set k m).getD k d = m := by rw [List.getD_eq_getElem?_getD, List.getElem?_set_self h]; rfl
 rw [e, List.set_set]
theorem few_lens {ms : List Ms} {l pages : List Bk} (h : few27 ms l pages = true) : ms.length ≤ 60 ∧ l.length ≤ 70 := by
 unfold few27 fewB at h
 simp only [Bool.and_eq_true, decide_eq_true_eq] at h
 exact ⟨h.1.1.1, h.1.2⟩
end Go.RatLaw
