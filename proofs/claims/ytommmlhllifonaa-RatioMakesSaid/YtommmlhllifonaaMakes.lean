/- The law on Make returns true for all arguments, and leaves them as they were. -/
import Derived.Test.YtommmlhllifonaaRw
import Derived.Test.YtommmlhllifonaaW7
namespace Go.Proofs.Ytommmlhllifonaa
open Go.Sy Go.RatLaw Go.ChangeShapes Go.WideShapes Go.ChangeAt Go.RowKit

theorem wf_i32 {a : Int} (h : (Lit.int .i32 a).wf = true) : in32 a := by
  simp only [Lit.wf, Bool.and_eq_true, decide_eq_true_eq] at h
  exact h
theorem wf_i16 {a : Int} (h : (Lit.int .i16 a).wf = true) : in16 a := by
  simp only [Lit.wf, Bool.and_eq_true, decide_eq_true_eq] at h
  exact h

set_option maxRecDepth 100000 in
theorem makes_lifted (os : Os) (started : os.Started) (H : Type) (enc : TypeId × Value → H) :
    ReturnsInHanded {} Try.checked os 3 .any (Rows.ratioMakesSpec.pre6 enc Try.prog Try.f3 Rows.ratioMakesRow.domain false) (Rows.ratioMakesSpec.post enc Try.prog Try.f3 false true false false) := by
  refine returnsInHanded_of_change (C := Try.checked) own started (by kernel_rfl) Try.func3
    (ChangeSpec.witness6 (enc := enc) (C := Try.checked) false ⟨#[], #[.int .i32 0, .int .i32 0, .int .i16 0, .agg #[.int .i64 0, .int .i64 0]], []⟩ 8 (by kernel_rfl) (by kernel_rfl) (by kernel_rfl) (by kernel_rfl)) ?_
  intro W base args ds gs before hval0 hW hcnd _
  have hval : ∀ (j : Nat) t v, Try.f3.params[j]? = some t → args[j]? = some v → Value.okWide Try.prog W .any base t v := hval0
  have hW' := hW
  obtain ⟨p, q, hA0, hV, rfl, hfz, hnd⟩ := hW
  have hA : DataW.TrodAll enc Try.prog W 0 (fun _ => true) true Try.f3.params.toList args.toList ds p := hA0
  rw [Try.params3] at hA hval
  obtain ⟨v0, v1, v2, v3, d0, d1, d2, d3, p0, p1, p2, p3, rfl, rfl, rfl, h0, h1, h2, h3⟩ := trodAll_four hA
  obtain ⟨n, rfl, _, _, w0⟩ := open_int (k := .i32) (by kernel_rfl) (hval 0 _ v0 rfl rfl) h0
  obtain ⟨d, rfl, _, _, w1⟩ := open_int (k := .i32) (by kernel_rfl) (hval 1 _ v1 rfl rfl) h1
  obtain ⟨e, rfl, _, _, w2⟩ := open_int (k := .i16) (by kernel_rfl) (hval 2 _ v2 rfl rfl) h2
  obtain ⟨a, b, rfl, _, _⟩ := openQ (hval 3 24 v3 rfl rfl) h3
  refine (law_calls (W := W) ok3 (args := [I32 n, I32 d, I16 e, Q a b]) rfl (fun c h => ?_) (.cons (VT0.I W _ n) (.cons (VT0.I W _ d) (.cons (VT0.I W _ e) (.cons (VT0.Q W a b) .nil))))).mono fun e W' ⟨he, hb⟩ => ?_
  · simp only [List.mem_cons, List.not_mem_nil, or_false] at h
    rcases h with rfl | rfl | rfl
    · exact wf_i32 w0
    · exact wf_i32 w1
    · exact wf_i16 w2
  · exact ⟨_, he, law_post (tb := 4) laidOut (by kernel_rfl) (by kernel_rfl) (by kernel_rfl) rfl rfl hb hW'⟩

theorem makes_holds : Rows.RatioMakesSaid :=
  OpenClaim.holds_of_wide 3 Try.f3 rfl rfl rfl rfl rfl rfl rfl ⟨rfl, rfl, rfl, rfl, rfl⟩ rfl rfl rfl rfl rfl (by kernel_rfl) Try.func3 (by kernel_rfl)
    (of_decide_eq_true (by kernel_rfl)) (by unfold Func.isWrapper; first | (rw [if_pos (by decide +kernel)]; kernel_rfl) | (rw [if_neg (by decide +kernel)]; exact ⟨rfl, rfl⟩))
    (fun os started H enc _ => makes_lifted os started H enc)
end Go.Proofs.Ytommmlhllifonaa
