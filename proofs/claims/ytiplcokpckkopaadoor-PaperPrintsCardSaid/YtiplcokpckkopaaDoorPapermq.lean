/- The plain proofs. Written by a program (wip/tools/gen.py). -/
import Derived.Test.YtiplcokpckkopaaDoorPapermp
namespace Go.Proofs.YtiplcokpckkopaaDoor
open Go.Sy Go.RatLaw
set_option linter.unusedVariables false
set_option linter.unusedSimpArgs false
theorem p_PPrints (p : Int) (ms : List Ms) (l pages : List Bk) (ed ve id ot : Int) (hp : InI64 p) (hw : wfM ms) (ed0 : 0 ≤ ed) (ed1 : ed ≤ 65535) (ve0 : 0 ≤ ve) (ve1 : ve ≤ 65535) (id0 : 0 ≤ id) (id1 : id ≤ 65535) (ot0 : 0 ≤ ot) (ot1 : ot ≤ 65535) : P_PPrints p ms l pages ed ve id ot := by
  unfold P_PPrints
  refine ⟨fun _ => rfl, fun h => ?_⟩
  have hh : few27 ms l pages = true ∧ arePB ms l pages = true := by
    rw [← Bool.and_eq_true]; simpa using h
  have hd := hh.2
  have hpl := pages_len (are_iff.1 hd).2
  have hid : ∀ n : Int, 0 ≤ n → n ≤ 65535 → idB (1 + n) = true := fun n a b => id_iff.2 (by omega)
  have eS : ∀ n : Int, 0 ≤ n → n ≤ 65535 → printS p ms l pages (1 + ed) (1 + ve) (1 + n) = (sheetsTo p ms l pages (1 + ed) (1 + ve) (1 + n) pages.length, 0) := fun n a b => print_yes ⟨hid ed ed0 ed1, hid ve ve0 ve1, hid n a b, hd⟩ (by omega)
  have hI := sheets_len p ms l pages (1 + ed) (1 + ve) (1 + id) pages.length
  have hO := sheets_len p ms l pages (1 + ed) (1 + ve) (1 + ot) pages.length
  have gI : ∀ x, x < pages.length → (sheetsTo p ms l pages (1 + ed) (1 + ve) (1 + id) pages.length).getD x sh0 = sheet p ms l (1 + ed) (1 + ve) (1 + id) x (pages.getD x bk0) := fun x hx => sheets_get p ms l pages _ _ _ hx
  have gO : ∀ x, x < pages.length → (sheetsTo p ms l pages (1 + ed) (1 + ve) (1 + ot) pages.length).getD x sh0 = sheet p ms l (1 + ed) (1 + ve) (1 + ot) x (pages.getD x bk0) := fun x hx => sheets_get p ms l pages _ _ _ hx
  rw [eS id id0 id1, eS ot ot0 ot1]
  generalize sheetsTo p ms l pages (1 + ed) (1 + ve) (1 + id) pages.length = SI at *
  generalize sheetsTo p ms l pages (1 + ed) (1 + ve) (1 + ot) pages.length = SO at *
  dsimp only
  refine ⟨ed0, ed1, ve0, ve1, id0, id1, hw, hp, ed0, ed1, ve0, ve1, ot0, ot1, hw, hp, fun _ _ _ _ => ⟨fun hc => ?_, fun _ _ => ⟨⟨0, Nat.zero_le _, rfl, rfl⟩, fun x hx => ⟨fun hlt => ?_, fun _ => rfl⟩⟩⟩⟩
  · rw [hI, hO] at hc; simp at hc
  · have hlt' : x < pages.length := by have := of_decide_eq_true hlt; rw [hI] at this; omega
    have hdx : digestS p ms l (pages.getD x bk0).1 (pages.getD x bk0).2 (1 + ed) (1 + ve) = (digS p ms l (pages.getD x bk0).1 (pages.getD x bk0).2 (1 + ed) (1 + ve), 0) := dig_yes ⟨hid ed ed0 ed1, hid ve ve0 ve1, (are_iff.1 hd).1, page_iff.1 (are_page hd hlt')⟩
    have hr : rightS p ms l pages (1 + id + x) p (1 + ed) (1 + ve) ((x : Int) + 1) (digS p ms l (pages.getD x bk0).1 (pages.getD x bk0).2 (1 + ed) (1 + ve)) = (true, 0) := by
      unfold rightS
      rw [if_pos hd, if_pos ⟨rfl, hid ed ed0 ed1, hid ve ve0 ve1, by omega, by omega⟩, show ((x : Int) + 1 - 1).toNat = x by omega]
      simp
    simp only [d0S, d0K, tn, gI x hlt', gO x hlt', sheet, hdx, hr]
    refine ⟨by omega, by omega, hw, hp, by omega, by omega, ed0, ed1, ve0, ve1, hw, hp, fun _ => ⟨id0, id1⟩, fun _ => by unfold InI64; omega, fun _ => ⟨ed0, ed1⟩, fun _ => ⟨ve0, ve1⟩, fun _ => by unfold InI64; omega, fun _ => ⟨by omega, by omega⟩, by unfold InI64; omega, x + 1, hlt', by omega, (by first | rfl | trivial), by simp, by (repeat' (first | rfl | trivial | apply And.intro))⟩

end Go.Proofs.YtiplcokpckkopaaDoor
