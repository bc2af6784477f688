/- Plain numbers: sheets and their digests. No program in sight. -/
import Derived.Test.YtiplcokpckkopaaDoorFr
import Derived.Test.YtiplcokpckkopaaDoorDq
namespace Go.RatLaw
open Go.Sy
set_option linter.unusedVariables false
set_option linter.unusedSimpArgs false
abbrev Sh := Int × (Int × (Int × (Int × (Int × Int))))
def sh0 : Sh := (0, (0, (0, (0, (0, 0)))))
def idB (n : Int) : Bool := decide (1 ≤ n) && decide (n ≤ 1000000)
def blocksB (ms : List Ms) (l : List Bk) : Bool := viewB ms && blkB l && l.all (widOk ms)
def pagFrom (many from_ : Int) : List Bk → Bool
 | [] => decide (from_ = many)
 | b :: r => decide (b.1 = from_) && decide (from_ < b.2) && decide (b.2 ≤ many) && pagFrom many b.2 r
def pagesB (l : List Bk) (many : Int) : Bool := pagFrom many 0 l && decide (l.length ≤ 1000)
def lastP (l : List Bk) (x : Nat) : Int := if x = 0 then 0 else (l.getD (x - 1) bk0).2
def cntB (l : List Bk) (good : List Bool) : Nat → Int
 | 0 => 0
 | x + 1 => cntB l good x + (if x % 2 = 0 ∧ x + 1 < l.length ∧ good.getD (l.getD x bk0).2.toNat false = false then 1 else 0)
def badS (l : List Bk) (good : List Bool) : Int × Int := if good.length > 4000 then (0, 2) else if pagesB l good.length then (cntB l good l.length, 0) else (0, 1)
def arePB (ms : List Ms) (l pages : List Bk) : Bool := blocksB ms l && pagesB pages l.length
def blkL (b : Bk) (m : Ms) : List Int := [b.1, b.2, m.1, m.2.1, m.2.2.1.1, m.2.2.1.2, (notesM m).length]
def noteL (w : Wr) : List Int := [w.1, w.2.1, w.2.2.1, w.2.2.2.1.1, w.2.2.2.1.2, w.2.2.2.2.1.1, w.2.2.2.2.1.2, w.2.2.2.2.2.1, w.2.2.2.2.2.2.1, w.2.2.2.2.2.2.2]
def blkLists (ms : List Ms) (b : Bk) : List (List Int) := blkL b (atM ms b.1) :: (notesM (atM ms b.1)).map noteL
def onPage (l : List Bk) (f u : Int) : List Bk := (l.take u.toNat).drop f.toNat
def listsTo (p : Int) (ms : List Ms) (l : List Bk) (f u ed ve : Int) : Nat → List (List Int)
 | 0 => [[p, ed, ve, f, u]]
 | x + 1 => listsTo p ms l f u ed ve x ++ blkLists ms ((onPage l f u).getD x bk0)
def listsIn (p : Int) (ms : List Ms) (l : List Bk) (f u ed ve : Int) (x : Nat) : Nat → List (List Int)
 | 0 => listsTo p ms l f u ed ve x ++ [blkL ((onPage l f u).getD x bk0) (atM ms ((onPage l f u).getD x bk0).1)]
 | y + 1 => listsIn p ms l f u ed ve x y ++ [noteL ((notesM (atM ms ((onPage l f u).getD x bk0).1)).getD y wr0)]
def listsS (p : Int) (ms : List Ms) (l : List Bk) (f u ed ve : Int) : List (List Int) := listsTo p ms l f u ed ve (onPage l f u).length
def pageB (l : List Bk) (f u : Int) : Bool := decide (0 ≤ f) && decide (f < u) && decide (u ≤ l.length)
def digS (p : Int) (ms : List Ms) (l : List Bk) (f u ed ve : Int) : Int := chainS (listsS p ms l f u ed ve)
def digestS (p : Int) (ms : List Ms) (l : List Bk) (f u ed ve : Int) : Int × Int :=
 if idB ed && idB ve && blocksB ms l && pageB l f u then (digS p ms l f u ed ve, 0) else (0, 1)
def sheet (p : Int) (ms : List Ms) (l : List Bk) (ed ve id : Int) (i : Nat) (b : Bk) : Sh := (id + i, (p, (ed, (ve, ((i : Int) + 1, digS p ms l b.1 b.2 ed ve)))))
def sheetsTo (p : Int) (ms : List Ms) (l pages : List Bk) (ed ve id : Int) : Nat → List Sh
 | 0 => []
 | x + 1 => sheetsTo p ms l pages ed ve id x ++ [sheet p ms l ed ve id x (pages.getD x bk0)]
def printS (p : Int) (ms : List Ms) (l pages : List Bk) (ed ve id : Int) : List Sh × Int :=
 if idB ed && idB ve && idB id && arePB ms l pages then (if id + pages.length - 1 > 1000000 then ([], 2) else (sheetsTo p ms l pages ed ve id pages.length, 0)) else ([], 1)
def rightS (p : Int) (ms : List Ms) (l pages : List Bk) (a b c d e g : Int) : Bool × Int :=
 if arePB ms l pages then
  (if b = p ∧ idB c = true ∧ idB d = true ∧ 1 ≤ e ∧ e ≤ pages.length then (decide (g = digS p ms l (pages.getD (e - 1).toNat bk0).1 (pages.getD (e - 1).toNat bk0).2 c d), 0) else (false, 0))
 else (false, 1)
def sameS (l m : List Sh) : Bool := decide (l = m)
def few27 (ms : List Ms) (l pages : List Bk) : Bool := fewB ms && decide (l.length ≤ 70) && decide (pages.length ≤ 80)
def anyB (l : List Bool) (v : Bool) : Bool := l.any fun x => v == x
abbrev tyW : Ty := .tp (.ti .i64) (.tp (.ti .i64) (.tp (.ti .i64) (.tp (.tp (.ti .i64) (.ti .i64)) (.tp (.tp (.ti .i64) (.ti .i64)) (.tp (.ti .i64) (.tp (.ti .i64) (.ti .i64)))))))
abbrev tyM : Ty := .tp (.ti .i64) (.tp (.ti .i64) (.tp (.tp (.ti .i64) (.ti .i64)) (.tl tyW)))
def wfM (ms : List Ms) : Prop := (Ty.tl tyM).In ms ∧ (Ty.tl tyM).Bd 140737488355328 ms
def onOk (ms : List Ms) (l : List Bk) (f u : Int) : Prop := pageB l f u = true ∧ l.length ≤ 4000 ∧ ∀ x ∈ onPage l f u, 0 ≤ x.1 ∧ x.1 < ms.length ∧ (0 ≤ x.2 ∧ x.1 ≤ 4000) ∧ x.2 ≤ 4000 ∧ (notesM (atM ms x.1)).length ≤ 20000
theorem wfI {a : Int} (h : (Lit.int .i64 a).wf = true) : InI64 a := wf_i64' h
theorem wfM_num {ms : List Ms} (h : wfM ms) {m : Ms} (hm : m ∈ ms) : InI64 m.1 ∧ InI64 m.2.1 ∧ InI64 m.2.2.1.1 ∧ InI64 m.2.2.1.2 ∧ (notesM m).length ≤ 140737488355328 ∧ ∀ w ∈ notesM m, allI (noteL w) := by
 obtain ⟨h1, h2⟩ := h
 have g1 := h1 m hm
 have g2 := h2.2 m hm
 refine ⟨wfI g1.1, wfI g1.2.1, wfI g1.2.2.1.1, wfI g1.2.2.1.2, g2.2.2.2.1, fun w hw => ?_⟩
 have k := g1.2.2.2 w hw
 intro n hn
 simp only [noteL, List.mem_cons, List.not_mem_nil, or_false] at hn
 rcases hn with rfl | rfl | rfl | rfl | rfl | rfl | rfl | rfl | rfl | rfl
 ·exact wfI k.1
 ·exact wfI k.2.1
 ·exact wfI k.2.2.1
 ·exact wfI k.2.2.2.1.1
 ·exact wfI k.2.2.2.1.2
 ·exact wfI k.2.2.2.2.1.1
 ·exact wfI k.2.2.2.2.1.2
 ·exact wfI k.2.2.2.2.2.1
 ·exact wfI k.2.2.2.2.2.2.1
 ·exact wfI k.2.2.2.2.2.2.2
theorem nsW_exact {ms : List Ms} (h : wfM ms) (hl : ms.length ≤ 4000) (x : Nat) (hx : x ≤ ms.length) : nsW (ms.take x) = (((ms.take x).map fun m => (notesM m).length).sum : Nat) ∧ ((ms.take x).map fun m => (notesM m).length).sum ≤ x * 140737488355328 := by
 induction x with
 | zero => exact ⟨rfl, by simp⟩
 | succ x ih =>
  have hx' : x < ms.length := hx
  obtain ⟨i1, i2⟩ := ih (by omega)
  have hm : ms.getD x ms0 ∈ ms := memDg ms0 hx'
  have hk := (wfM_num h hm).2.2.2.2.1
  have e : ms.take (x + 1) = ms.take x ++ [ms.getD x ms0] := takeDg ms0 hx'
  have hs : ((ms.take (x + 1)).map fun m => (notesM m).length).sum = ((ms.take x).map fun m => (notesM m).length).sum + (notesM (ms.getD x ms0)).length := by rw [e]; simp
  have hb : ((ms.take (x + 1)).map fun m => (notesM m).length).sum ≤ (x + 1) * 140737488355328 := by rw [hs, Nat.succ_mul]; omega
  refine ⟨?_, hb⟩
  rw [nsW_take hx', i1, hs]
  have hbig : (x + 1) * 140737488355328 ≤ 4000 * 140737488355328 := Nat.mul_le_mul_right _ (by omega)
  rw [hs] at hb
  exact wrap_i64 ⟨by omega, by omega⟩
theorem mem_sum {l : List Nat} {n : Nat} (h : n ∈ l) : n ≤ l.sum := by
 induction l with
 | nil => cases h
 | cons a r ih =>
  rw [List.sum_cons]
  rcases List.mem_cons.1 h with rfl | h
  ·omega
  ·have := ih h; omega
theorem notes_le {ms : List Ms} (h : wfM ms) (hv : viewB ms = true) {m : Ms} (hm : m ∈ ms) : (notesM m).length ≤ 20000 := by
 obtain ⟨h1, _, h3⟩ := viewB_iff.1 hv
 have e := (nsW_exact h h1 ms.length (Nat.le_refl _)).1
 rw [List.take_length] at e
 rw [e] at h3
 have := mem_sum (List.mem_map_of_mem (f := fun m => (notesM m).length) hm)
 omega
theorem in_full (p : Int) (ms : List Ms) (l : List Bk) (f u ed ve : Int) (x : Nat) : listsIn p ms l f u ed ve x (notesM (atM ms ((onPage l f u).getD x bk0).1)).length = listsTo p ms l f u ed ve (x + 1) := by
 have key : ∀ y, y ≤ (notesM (atM ms ((onPage l f u).getD x bk0).1)).length → listsIn p ms l f u ed ve x y = listsTo p ms l f u ed ve x ++ (blkL ((onPage l f u).getD x bk0) (atM ms ((onPage l f u).getD x bk0).1) :: ((notesM (atM ms ((onPage l f u).getD x bk0).1)).take y).map noteL) := by
  intro y
  induction y with
  | zero => intro _; simp [listsIn]
  | succ y ih =>
   intro hy
   rw [listsIn, ih (by omega), takeDg wr0 (show y < _ by omega)]
   simp
 rw [key _ (Nat.le_refl _), List.take_length]
 rfl
theorem page_len {l : List Bk} {f u : Int} (h : pageB l f u = true) : 0 ≤ f ∧ f < u ∧ u ≤ l.length ∧ (onPage l f u).length = (u - f).toNat := by
 unfold pageB at h
 simp only [Bool.and_eq_true, decide_eq_true_eq] at h
 refine ⟨h.1.1, h.1.2, h.2, ?_⟩
 unfold onPage
 rw [List.length_drop, List.length_take]
 omega
theorem page_get {l : List Bk} {f u : Int} (h : pageB l f u = true) {x : Nat} (hx : x < (onPage l f u).length) : (onPage l f u).getD x bk0 = l.getD (f + x).toNat bk0 := by
 obtain ⟨h1, h2, h3, h4⟩ := page_len h
 rw [h4] at hx
 unfold onPage
 rw [List.getD_eq_getElem?_getD, List.getD_eq_getElem?_getD, List.getElem?_drop, List.getElem?_take, if_pos (by omega)]
 congr 2
 omega
theorem to_len {p : Int} {ms : List Ms} {l : List Bk} {f u ed ve : Int} (h : onOk ms l f u) (x : Nat) (hx : x ≤ (onPage l f u).length) : (listsTo p ms l f u ed ve x).length ≤ 1 + x * 20001 := by
 induction x with
 | zero => simp [listsTo]
 | succ x ih =>
  have hb := (h.2.2 _ (memDg bk0 (show x < (onPage l f u).length by omega))).2.2.2.2
  have := ih (by omega)
  simp only [listsTo, List.length_append, blkLists, List.length_cons, List.length_map]
  omega
theorem in_len {p : Int} {ms : List Ms} {l : List Bk} {f u ed ve : Int} (h : onOk ms l f u) {x : Nat} (hx : x < (onPage l f u).length) (y : Nat) : (listsIn p ms l f u ed ve x y).length ≤ 2 + x * 20001 + y := by
 induction y with
 | zero =>
  have := to_len (p := p) (ed := ed) (ve := ve) h x (by omega)
  simp only [listsIn, List.length_append, List.length_cons, List.length_nil]
  omega
 | succ y ih =>
  simp only [listsIn, List.length_append, List.length_cons, List.length_nil]
  omega
theorem on_len {ms : List Ms} {l : List Bk} {f u : Int} (h : onOk ms l f u) : (onPage l f u).length ≤ 4000 := by
 have := page_len h.1
 have := h.2.1
 omega
theorem s_len {p : Int} {ms : List Ms} {l : List Bk} {f u ed ve : Int} (h : onOk ms l f u) : (listsS p ms l f u ed ve).length ≤ 80004001 := by
 have := to_len (p := p) (ed := ed) (ve := ve) h _ (Nat.le_refl _)
 have := on_len h
 unfold listsS
 omega
end Go.RatLaw
