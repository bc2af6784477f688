/- Sheets and their digests: what holds of them. No program in sight. -/
import Derived.Test.YtiplcokpckkopaaDoorPp
namespace Go.RatLaw
open Go.Sy
set_option linter.unusedVariables false
set_option linter.unusedSimpArgs false
theorem blocks_iff {ms : List Ms} {l : List Bk} : blocksB ms l = true ↔ viewB ms = true ∧ blkB l = true ∧ ∀ b ∈ l, widOk ms b = true := by
 unfold blocksB; rw [Bool.and_eq_true, Bool.and_eq_true, List.all_eq_true]; exact ⟨fun h => ⟨h.1.1, h.1.2, h.2⟩, fun h => ⟨⟨h.1, h.2.1⟩, h.2.2⟩⟩
theorem wid_end {ms : List Ms} {b : Bk} (h : widOk ms b = true) : endB b ≤ ms.length := by
 unfold widOk at h; rw [Bool.and_eq_true] at h; exact of_decide_eq_true h.1
theorem blocks_wid (ms : List Ms) (l : List Bk) : ((widthsS ms l).2 == 0) = blocksB ms l := by
 unfold widthsS blocksB
 split
 ·rename_i h; rw [h]; rfl
 ·rename_i h; rw [Bool.not_eq_true] at h; rw [h]; rfl
theorem atM_mem {ms : List Ms} {i : Int} (h0 : 0 ≤ i) (h1 : i < ms.length) : atM ms i ∈ ms := memD ms0 (by omega)
theorem onOk_of {ms : List Ms} {l : List Bk} {f u : Int} (h : wfM ms) (hb : blocksB ms l = true) (hp : pageB l f u = true) : onOk ms l f u := by
 obtain ⟨h1, h2, h3⟩ := blocks_iff.1 hb
 have hl := blk_len (l := l) (q := 0) h2 (by omega)
 refine ⟨hp, by omega, fun x hx => ?_⟩
 have hm : x ∈ l := List.mem_of_mem_take (List.mem_of_mem_drop hx)
 obtain ⟨g1, g2, g3, g4, g5⟩ := blk_all h2 (Int.le_refl _) x hm
 have g6 := wid_end (h3 x hm)
 have g7 := end_ge x
 exact ⟨g1, by omega, ⟨g3, g2⟩, g4, notes_le h h1 (atM_mem g1 (by omega))⟩
theorem ok_to {p : Int} {ms : List Ms} {l : List Bk} {f u ed ve : Int} (h : wfM ms) (ho : onOk ms l f u) (hp : InI64 p) (he : InI64 ed) (hv : InI64 ve) (x : Nat) (hx : x ≤ (onPage l f u).length) : okL (listsTo p ms l f u ed ve x) := by
 obtain ⟨h1, h2, h3, h4⟩ := page_len ho.1
 have hl := ho.2.1
 induction x with
 | zero =>
  intro y hy
  simp only [listsTo, List.mem_singleton] at hy
  subst hy
  refine ⟨fun n hn => ?_, by simp⟩
  simp only [List.mem_cons, List.not_mem_nil, or_false] at hn
  rcases hn with rfl | rfl | rfl | rfl | rfl
  ·exact hp
  ·exact he
  ·exact hv
  ·unfold InI64; omega
  ·unfold InI64; omega
 | succ x ih =>
  have hb := memD bk0 (show x < (onPage l f u).length by omega)
  obtain ⟨g1, g2, g3, g4, g5⟩ := ho.2.2 _ hb
  obtain ⟨k1, k2, k3, k4, k5, k6⟩ := wfM_num h (atM_mem g1 g2)
  intro y hy
  simp only [listsTo, List.mem_append, blkLists, List.mem_cons, List.mem_map] at hy
  rcases hy with hy | rfl | ⟨w, hw, rfl⟩
  ·exact ih (by omega) y hy
  ·refine ⟨fun n hn => ?_, by simp [blkL]⟩
   simp only [blkL, List.mem_cons, List.not_mem_nil, or_false] at hn
   rcases hn with rfl | rfl | rfl | rfl | rfl | rfl | rfl
   ·unfold InI64; omega
   ·unfold InI64; omega
   ·exact k1
   ·exact k2
   ·exact k3
   ·exact k4
   ·unfold InI64; omega
  ·exact ⟨k6 w hw, by simp [noteL]⟩
theorem okL_of {p : Int} {ms : List Ms} {l : List Bk} {f u ed ve : Int} (h : wfM ms) (ho : onOk ms l f u) (hp : InI64 p) (he : InI64 ed) (hv : InI64 ve) : okL (listsS p ms l f u ed ve) := ok_to h ho hp he hv _ (Nat.le_refl _)
theorem lastP_succ (l : List Bk) (x : Nat) : lastP l (x + 1) = (l.getD x bk0).2 := by simp [lastP]
theorem pag_step {many q : Int} {l : List Bk} {x : Nat} (h : x < l.length) : pagFrom many q (l.drop x) = (decide ((l.getD x bk0).1 = q) && decide (q < (l.getD x bk0).2) && decide ((l.getD x bk0).2 ≤ many) && pagFrom many (lastP l (x + 1)) (l.drop (x + 1))) := by
 rw [dropD bk0 h, pagFrom, lastP_succ]
theorem pag_at {many : Int} : ∀ {l : List Bk} {q : Int} {x : Nat}, pagFrom many q l = true → 0 ≤ q → x < l.length → 0 ≤ (l.getD x bk0).1 ∧ (l.getD x bk0).1 < (l.getD x bk0).2 ∧ (l.getD x bk0).2 ≤ many ∧ (x + 1 < l.length → (l.getD x bk0).2 < many)
 | [], _, _, _, _, h => by simp at h
 | b :: r, q, x, h, hq, hx => by
  rw [pagFrom] at h
  simp only [Bool.and_eq_true, decide_eq_true_eq] at h
  obtain ⟨⟨⟨h1, h2⟩, h3⟩, h4⟩ := h
  cases x with
  | zero =>
   simp only [List.getD_cons_zero]
   refine ⟨by omega, by omega, by omega, fun hl => ?_⟩
   cases r with
   | nil => simp at hl
   | cons c r' =>
    rw [pagFrom] at h4
    simp only [Bool.and_eq_true, decide_eq_true_eq] at h4
    omega
  | succ x =>
   simp only [List.getD_cons_succ]
   have := pag_at (x := x) h4 (by omega) (by simpa using hx)
   exact ⟨this.1, this.2.1, this.2.2.1, fun hl => this.2.2.2 (by simpa using hl)⟩
theorem pages_at {l : List Bk} {many : Int} (h : pagesB l many = true) {x : Nat} (hx : x < l.length) : 0 ≤ (l.getD x bk0).1 ∧ (l.getD x bk0).1 < (l.getD x bk0).2 ∧ (l.getD x bk0).2 ≤ many ∧ (x + 1 < l.length → (l.getD x bk0).2 < many) := by
 unfold pagesB at h; rw [Bool.and_eq_true] at h
 exact pag_at h.1 (Int.le_refl _) hx
theorem pages_len {l : List Bk} {many : Int} (h : pagesB l many = true) : l.length ≤ 1000 := by
 unfold pagesB at h; rw [Bool.and_eq_true] at h; exact of_decide_eq_true h.2
theorem are_iff {ms : List Ms} {l pages : List Bk} : arePB ms l pages = true ↔ blocksB ms l = true ∧ pagesB pages l.length = true := by unfold arePB; rw [Bool.and_eq_true]
theorem are_page {ms : List Ms} {l pages : List Bk} (h : arePB ms l pages = true) {x : Nat} (hx : x < pages.length) : pageB l (pages.getD x bk0).1 (pages.getD x bk0).2 = true := by
 obtain ⟨h1, h2⟩ := are_iff.1 h
 obtain ⟨g1, g2, g3, _⟩ := pages_at h2 hx
 unfold pageB; simp only [Bool.and_eq_true, decide_eq_true_eq]; exact ⟨⟨g1, g2⟩, g3⟩
theorem are_on {ms : List Ms} {l pages : List Bk} (hw : wfM ms) (h : arePB ms l pages = true) {x : Nat} (hx : x < pages.length) : onOk ms l (pages.getD x bk0).1 (pages.getD x bk0).2 := onOk_of hw (are_iff.1 h).1 (are_page h hx)
theorem cnt_bd (l : List Bk) (good : List Bool) (x : Nat) : 0 ≤ cntB l good x ∧ cntB l good x ≤ x := by
 induction x with
 | zero => simp [cntB]
 | succ x ih => unfold cntB; split <;> omega
theorem sheets_len (p : Int) (ms : List Ms) (l pages : List Bk) (ed ve id : Int) (x : Nat) : (sheetsTo p ms l pages ed ve id x).length = x := by
 induction x with
 | zero => rfl
 | succ x ih => simp [sheetsTo, ih]
theorem sheets_get (p : Int) (ms : List Ms) (l pages : List Bk) (ed ve id : Int) {x i : Nat} (h : i < x) : (sheetsTo p ms l pages ed ve id x).getD i sh0 = sheet p ms l ed ve id i (pages.getD i bk0) := by
 induction x with
 | zero => omega
 | succ x ih =>
  rw [sheetsTo]
  rcases Nat.lt_succ_iff_lt_or_eq.1 h with h | rfl
  ·rw [List.getD_eq_getElem?_getD, List.getElem?_append_left (by rw [sheets_len]; exact h), ← List.getD_eq_getElem?_getD]; exact ih h
  ·rw [List.getD_eq_getElem?_getD, List.getElem?_append_right (by rw [sheets_len]; exact Nat.le_refl _), sheets_len]; simp
theorem id_iff {n : Int} : idB n = true ↔ 1 ≤ n ∧ n ≤ 1000000 := by unfold idB; simp only [Bool.and_eq_true, decide_eq_true_eq]
theorem id_in {n : Int} (h : idB n = true) : InI64 n := by have := id_iff.1 h; unfold InI64; omega
theorem are_cnd {a b c d : Bool} (h : (!a || !b || !c || !d) = false) : a = true ∧ b = true ∧ c = true ∧ d = true := by
 cases a <;> cases b <;> cases c <;> cases d <;> simp_all
theorem page_iff {l : List Bk} {f u : Int} : pageB l f u = true ↔ 0 ≤ f ∧ f < u ∧ u ≤ l.length := by
 unfold pageB; simp only [Bool.and_eq_true, decide_eq_true_eq]; exact ⟨fun h => ⟨h.1.1, h.1.2, h.2⟩, fun h => ⟨⟨h.1, h.2.1⟩, h.2.2⟩⟩
theorem dig_no {p : Int} {ms : List Ms} {l : List Bk} {f u ed ve : Int} (h : ¬ (idB ed = true ∧ idB ve = true ∧ blocksB ms l = true ∧ 0 ≤ f ∧ f < u ∧ u ≤ l.length)) : digestS p ms l f u ed ve = (0, 1) := by
 unfold digestS; rw [if_neg]
 intro hc; simp only [Bool.and_eq_true] at hc
 exact h ⟨hc.1.1.1, hc.1.1.2, hc.1.2, page_iff.1 hc.2⟩
theorem dig_yes {p : Int} {ms : List Ms} {l : List Bk} {f u ed ve : Int} (h : idB ed = true ∧ idB ve = true ∧ blocksB ms l = true ∧ 0 ≤ f ∧ f < u ∧ u ≤ l.length) : digestS p ms l f u ed ve = (digS p ms l f u ed ve, 0) := by
 unfold digestS; rw [if_pos]
 simp only [Bool.and_eq_true]
 exact ⟨⟨⟨h.1, h.2.1⟩, h.2.2.1⟩, page_iff.2 h.2.2.2⟩
theorem to_app (p : Int) (ms : List Ms) (l : List Bk) (f u ed ve : Int) (x d : Nat) : ∃ t, listsTo p ms l f u ed ve (x + d) = listsTo p ms l f u ed ve x ++ t := by
 induction d with
 | zero => exact ⟨[], by simp⟩
 | succ d ih => obtain ⟨t, e⟩ := ih; exact ⟨t ++ blkLists ms ((onPage l f u).getD (x + d) bk0), by rw [← Nat.add_assoc, listsTo, e, List.append_assoc]⟩
theorem to_pre (p : Int) (ms : List Ms) (l : List Bk) (f u ed ve : Int) {x : Nat} (h : x ≤ (onPage l f u).length) : ∃ t, listsS p ms l f u ed ve = listsTo p ms l f u ed ve x ++ t := by
 obtain ⟨t, e⟩ := to_app p ms l f u ed ve x ((onPage l f u).length - x)
 exact ⟨t, by rw [← e]; unfold listsS; congr 1; omega⟩
theorem in_app (p : Int) (ms : List Ms) (l : List Bk) (f u ed ve : Int) (x y d : Nat) : ∃ t, listsIn p ms l f u ed ve x (y + d) = listsIn p ms l f u ed ve x y ++ t := by
 induction d with
 | zero => exact ⟨[], by simp⟩
 | succ d ih => obtain ⟨t, e⟩ := ih; exact ⟨t ++ [noteL ((notesM (atM ms ((onPage l f u).getD x bk0).1)).getD (y + d) wr0)], by rw [← Nat.add_assoc, listsIn, e, List.append_assoc]⟩
theorem in_pre (p : Int) (ms : List Ms) (l : List Bk) (f u ed ve : Int) {x y : Nat} (hx : x < (onPage l f u).length) (hy : y ≤ (notesM (atM ms ((onPage l f u).getD x bk0).1)).length) : ∃ t, listsS p ms l f u ed ve = listsIn p ms l f u ed ve x y ++ t := by
 obtain ⟨t, e⟩ := to_pre p ms l f u ed ve (x := x + 1) hx
 obtain ⟨s, g⟩ := in_app p ms l f u ed ve x y ((notesM (atM ms ((onPage l f u).getD x bk0).1)).length - y)
 rw [show y + ((notesM (atM ms ((onPage l f u).getD x bk0).1)).length - y) = (notesM (atM ms ((onPage l f u).getD x bk0).1)).length by omega, in_full] at g
 exact ⟨s ++ t, by rw [e, g, List.append_assoc]⟩
theorem print_no {p : Int} {ms : List Ms} {l pages : List Bk} {ed ve id : Int} (h : ¬ (idB ed = true ∧ idB ve = true ∧ idB id = true ∧ arePB ms l pages = true)) : printS p ms l pages ed ve id = ([], 1) := by
 unfold printS; rw [if_neg]
 intro hc; simp only [Bool.and_eq_true] at hc
 exact h ⟨hc.1.1.1, hc.1.1.2, hc.1.2, hc.2⟩
theorem print_lim {p : Int} {ms : List Ms} {l pages : List Bk} {ed ve id : Int} (h : idB ed = true ∧ idB ve = true ∧ idB id = true ∧ arePB ms l pages = true) (h2 : id + pages.length - 1 > 1000000) : printS p ms l pages ed ve id = ([], 2) := by
 unfold printS; rw [if_pos (by simp only [Bool.and_eq_true]; exact ⟨⟨⟨h.1, h.2.1⟩, h.2.2.1⟩, h.2.2.2⟩), if_pos h2]
theorem print_yes {p : Int} {ms : List Ms} {l pages : List Bk} {ed ve id : Int} (h : idB ed = true ∧ idB ve = true ∧ idB id = true ∧ arePB ms l pages = true) (h2 : ¬ id + pages.length - 1 > 1000000) : printS p ms l pages ed ve id = (sheetsTo p ms l pages ed ve id pages.length, 0) := by
 unfold printS; rw [if_pos (by simp only [Bool.and_eq_true]; exact ⟨⟨⟨h.1, h.2.1⟩, h.2.2.1⟩, h.2.2.2⟩), if_neg h2]
end Go.RatLaw
