/- The plain proofs. Written by a program (wip/tools/gen.py). -/
import Derived.Test.YtiplcokpckkopaaDoorPaperlp
namespace Go.Proofs.YtiplcokpckkopaaDoor
open Go.Sy Go.RatLaw
set_option linter.unusedVariables false
set_option linter.unusedSimpArgs false
theorem p_xex : P_xex := ⟨rfl, rfl, rfl⟩
theorem it2 : itoaB 2 = [50] := by simp [itoaB, Lib.itoa, Lib.decDigits]
theorem it3 : itoaB 3 = [51] := by simp [itoaB, Lib.itoa, Lib.decDigits]
theorem it4 : itoaB 4 = [52] := by simp [itoaB, Lib.itoa, Lib.decDigits]
theorem it1' : itoaB 1 = [49] := by simp [itoaB, Lib.itoa, Lib.decDigits]
theorem it0' : itoaB 0 = [48] := by simp [itoaB, Lib.itoa, Lib.decDigits]
theorem it5' : itoaB 5 = [53] := by simp [itoaB, Lib.itoa, Lib.decDigits]
theorem it7' : itoaB 7 = [55] := by simp [itoaB, Lib.itoa, Lib.decDigits]
theorem it10 : itoaB 10 = [49, 48] := by simp [itoaB, Lib.itoa, Lib.decDigits]
def digC (l : List Int) : List Int := l.flatMap fun n => if n = 10 then [49, 48, 32] else [48 + n, 32]
def smallC (l : List Int) : Bool := l.all fun n => decide (n = 0) || decide (n = 1) || decide (n = 2) || decide (n = 3) || decide (n = 4) || decide (n = 5) || decide (n = 7) || decide (n = 10)
theorem text_C {l : List Int} (h : smallC l = true) : textL l = digC l := by
  induction l with
  | nil => rfl
  | cons n r ih =>
    unfold smallC at h ih
    rw [List.all_cons, Bool.and_eq_true] at h
    have := ih h.2
    unfold textL digC at this ⊢
    rw [List.flatMap_cons, List.flatMap_cons, this]
    congr 1
    have hn := h.1
    simp only [Bool.or_eq_true, decide_eq_true_eq] at hn
    rcases hn with ((((((rfl | rfl) | rfl) | rfl) | rfl) | rfl) | rfl) | rfl
    · rw [it0']; rfl
    · rw [it1']; rfl
    · rw [it2]; rfl
    · rw [it3]; rfl
    · rw [it4]; rfl
    · rw [it5']; rfl
    · rw [it7']; rfl
    · rw [it10]; rfl
def chainC (ll : List (List Int)) : Int := ll.foldl (fun d x => sumS (eightB d ++ digC (lenL x))) dig0
theorem fold_C (ll : List (List Int)) : ∀ d, (∀ x ∈ ll, smallC (lenL x) = true) → ll.foldl (fun d x => nextS d (lenL x)) d = ll.foldl (fun d x => sumS (eightB d ++ digC (lenL x))) d := by
  induction ll with
  | nil => intro d _; rfl
  | cons x r ih =>
    intro d h
    rw [List.foldl_cons, List.foldl_cons, ih _ (fun y hy => h y (List.mem_cons_of_mem _ hy))]
    unfold nextS textS
    rw [text_C (h x (.head _))]
theorem chain_C {ll : List (List Int)} (h : ∀ x ∈ ll, smallC (lenL x) = true) : chainS ll = chainC ll := fold_C ll _ h
theorem dig_A : digS 3 exV exB 0 1 1 2 = chainC [[3, 1, 2, 0, 1], [0, 0, 1, 0, 4, 1, 1], [5, 0, 0, 0, 1, 1, 1, 0, 0, 4]] := by
  unfold digS
  rw [show listsS 3 exV exB 0 1 1 2 = [[3, 1, 2, 0, 1], [0, 0, 1, 0, 4, 1, 1], [5, 0, 0, 0, 1, 1, 1, 0, 0, 4]] by decide +kernel]
  exact chain_C (by decide +kernel)
theorem dig_B : digS 3 exV exB 1 2 1 2 = chainC [[3, 1, 2, 1, 2], [1, 2, 2, 0, 4, 1, 0]] := by
  unfold digS
  rw [show listsS 3 exV exB 1 2 1 2 = [[3, 1, 2, 1, 2], [1, 2, 2, 0, 4, 1, 0]] by decide +kernel]
  exact chain_C (by decide +kernel)
theorem dig_ne : digS 3 exV exB 0 1 1 2 ≠ digS 3 exV exB 1 2 1 2 := by
  rw [dig_A, dig_B]; decide +kernel
abbrev exP : List Bk := [(0, 1), (1, 2)]
theorem ex_are : arePB exV exB exP = true := by decide +kernel
theorem ex_pr7 : printS 3 exV exB [(0, 1), (1, 2)] 1 2 7 = ([(7, (3, (1, (2, (1, digS 3 exV exB 0 1 1 2))))), (8, (3, (1, (2, (2, digS 3 exV exB 1 2 1 2)))))], 0) :=
  print_yes (pages := exP) ⟨rfl, rfl, rfl, ex_are⟩ (by decide)
theorem ex_prL : printS 3 exV exB [(0, 1), (1, 2)] 1 2 1000000 = ([], 2) := print_lim (pages := exP) ⟨rfl, rfl, rfl, ex_are⟩ (by decide)
theorem ex_prX : printS 3 exV (List.drop (Int.toNat 1) (List.take (Int.toNat ((0 + 1 + 1 : Nat) : Int)) exB)) [(0, 1), (1, 2)] 1 2 7 = ([], 1) := print_no (by rintro ⟨_, _, _, h⟩; revert h; decide +kernel)
theorem ex_dig0 : digestS 3 exV exB 0 1 1 2 = (digS 3 exV exB 0 1 1 2, 0) := dig_yes ⟨rfl, rfl, by decide +kernel, by decide, by decide, by decide⟩
theorem ex_dig3 : digestS 3 exV exB 1 3 1 2 = (0, 1) := dig_no (by rintro ⟨_, _, _, _, _, h⟩; revert h; decide)
theorem ex_right (g : Int) : rightS 3 exV exB [(0, 1), (1, 2)] 8 3 1 2 2 g = (decide (g = digS 3 exV exB 1 2 1 2), 0) := by
  unfold rightS
  rw [if_pos ex_are, if_pos (by decide)]
  rfl
theorem in_w : tyW.In exW := ⟨rfl, rfl, rfl, ⟨rfl, rfl⟩, ⟨rfl, rfl⟩, rfl, rfl, rfl⟩
theorem wfM_ex : wfM exV := by
  have h1 : ∀ u : Ms, u ∈ exV → tyM.In u := by
    intro u hu
    unfold exV at hu
    simp only [List.mem_cons, List.not_mem_nil, or_false] at hu
    rcases hu with rfl | rfl | rfl
    · exact ⟨rfl, rfl, ⟨rfl, rfl⟩, fun w hw => by rw [List.mem_singleton.1 hw]; exact in_w⟩
    · exact ⟨rfl, rfl, ⟨rfl, rfl⟩, fun w hw => by cases hw⟩
    · exact ⟨rfl, rfl, ⟨rfl, rfl⟩, fun w hw => by cases hw⟩
  have h2 : ∀ u : Ms, u ∈ exV → tyM.Bd 140737488355328 u := by
    intro u hu
    unfold exV at hu
    simp only [List.mem_cons, List.not_mem_nil, or_false] at hu
    rcases hu with rfl | rfl | rfl
    · exact ⟨trivial, trivial, ⟨trivial, trivial⟩, by decide, fun w hw => ⟨trivial, trivial, trivial, ⟨trivial, trivial⟩, ⟨trivial, trivial⟩, trivial, trivial, trivial⟩⟩
    · exact ⟨trivial, trivial, ⟨trivial, trivial⟩, by decide, fun w hw => by cases hw⟩
    · exact ⟨trivial, trivial, ⟨trivial, trivial⟩, by decide, fun w hw => by cases hw⟩
  exact ⟨h1, by decide, h2⟩
theorem in3 : InI64 3 := by unfold InI64; omega
theorem g_one (a b : Sh) : List.getD [a, b] (Int.toNat 1) (ShT.d0 : Sh) = b := rfl
theorem g_zero (a b : Sh) : List.getD [a, b] (Int.toNat 0) (ShT.d0 : Sh) = a := rfl
theorem k_zero (a b : Bk) : List.getD [a, b] (Int.toNat 0) (KT.d0 : Bk) = a := rfl
theorem p_xhead : P_xhead := by
  unfold P_xhead
  rw [ex_prX, ex_prL, ex_pr7, ex_dig3]
  have hne := dig_ne
  have e0 := ex_dig0
  have hr := ex_right
  generalize digS 3 exV exB 0 1 1 2 = A at *
  generalize digS 3 exV exB 1 2 1 2 = B at *
  simp [wfM_ex, in3]
  exact ⟨⟨⟨⟨⟨⟨⟨⟨congrArg Prod.snd (hr B), congrArg Prod.snd (hr A)⟩, congrArg Prod.snd e0⟩, (congrArg Prod.fst (hr B)).trans (decide_eq_true rfl)⟩, (congrArg Prod.fst (hr A)).trans (decide_eq_false hne)⟩, congrArg Prod.fst e0⟩, rfl, rfl, rfl, rfl, rfl, (congrArg Prod.fst e0).symm⟩, rfl⟩, rfl⟩
theorem p_xuse (p : Int) (ms : List Ms) (l pages : List Bk) : P_xuse p ms l pages := rfl
theorem p_xnum (n : Int) (h0 : 0 ≤ n) (h1 : n ≤ 65535) : P_xnum n := ⟨by unfold InI64; omega, by unfold InI64; omega, rfl⟩
theorem p_PMatches (p : Int) (ms : List Ms) (l : List Bk) (f u : Int) (pages : List Bk) (a b c d e g ed ve id : Int) (hp : InI64 p) (hw : wfM ms) : P_PMatches p ms l f u pages a b c d e g ed ve id := by
  refine ⟨fun _ => rfl, fun _ => ⟨hw, hp, hw, hp, hw, hp, hw, hp, hw, hp, hw, hp, ?_⟩⟩
  have : ∀ x : List Sh, sameS x x = true := fun x => by unfold sameS; exact decide_eq_true rfl
  simp [this]

end Go.Proofs.YtiplcokpckkopaaDoor
