/- The law on floors returns true for every ratio, and leaves its argument as it was. -/
import Derived.Test.YtommmlhllifonaaRows
import Derived.Test.YtommmlhllifonaaSyW
import Derived.Lib.SmallJoins
import Derived.Test.YtommmlhllifonaaW4
namespace Go.Proofs.Ytommmlhllifonaa
open Go.Sy Go.RatLaw Go.ChangeShapes Go.WideShapes Go.ChangeAt Go.RowKit

theorem own : ownKnob Try.prog.godebug = none := by kernel_rfl
theorem laidOut : laidOutB Try.prog = true := by kernel_rfl

theorem wf_i64 {a : Int} (h : (Lit.int .i64 a).wf = true) : InI64 a := by
  simp only [Lit.wf, Bool.and_eq_true, decide_eq_true_eq] at h
  exact h
theorem openQ {H : Type} {enc : TypeId × Value → H} {W : World} {base b0 : Nat} {v : Value} {d : DataW H} {p : List MemPlace} (hv : Value.okWide Try.prog W .any b0 24 v) (h : DataW.Trod enc Try.prog W base (fun _ => true) true 24 v d p) :
    ∃ a b, v = .agg #[.int .i64 a, .int .i64 b] ∧ InI64 a ∧ InI64 b := by
  obtain ⟨v0, v1, y0, y1, n, rfl, _, _, h0, h1⟩ := Joins.open_agg2 (P := Try.prog) (t := 24) (f0 := (Try.prog.fieldsOf 24)[0]!) (f1 := (Try.prog.fieldsOf 24)[1]!) (by kernel_rfl) (by kernel_rfl) (by kernel_rfl) hv h
  obtain ⟨a, ha, _, wa⟩ := DataW.trod_int (k := .i64) (by kernel_rfl) h0
  obtain ⟨b, hb, _, wb⟩ := DataW.trod_int (k := .i64) (by kernel_rfl) h1
  injection ha with ha; injection hb with hb; subst ha hb
  exact ⟨a, b, rfl, wf_i64 wa, wf_i64 wb⟩
theorem VT0.Q (W : World) (a b : Int) : VT0 W (Q a b) (.agg #[.int .i64 a, .int .i64 b]) := ⟨_, rfl, .cons (.d (.lit rfl)) (.cons (.d (.lit rfl)) .nil)⟩

set_option maxRecDepth 100000 in
theorem floors_lifted (os : Os) (started : os.Started) (H : Type) (enc : TypeId × Value → H) :
    ReturnsInHanded {} Try.checked os 5 .any (Rows.ratioFloorsSpec.pre6 enc Try.prog Try.f5 Rows.ratioFloorsRow.domain false) (Rows.ratioFloorsSpec.post enc Try.prog Try.f5 false true false false) := by
  refine returnsInHanded_of_change (C := Try.checked) own started (by kernel_rfl) Try.func5
    (ChangeSpec.witness6 (enc := enc) (C := Try.checked) false ⟨#[], #[.agg #[.int .i64 0, .int .i64 0]], []⟩ 8 (by kernel_rfl) (by kernel_rfl) (by kernel_rfl) (by kernel_rfl)) ?_
  intro W base args ds gs before hval0 hW hcnd _
  have hval : ∀ (j : Nat) t v, Try.f5.params[j]? = some t → args[j]? = some v → Value.okWide Try.prog W .any base t v := hval0
  have hW' := hW
  obtain ⟨p, q, hA0, hV, rfl, hfz, hnd⟩ := hW
  have hA : DataW.TrodAll enc Try.prog W 0 (fun _ => true) true Try.f5.params.toList args.toList ds p := hA0
  rw [Try.params5] at hA hval
  obtain ⟨v0, d0, rfl, rfl, h0⟩ := trodAll_one hA
  obtain ⟨a, b, rfl, _, _⟩ := openQ (hval 0 24 v0 rfl rfl) h0
  refine (law_calls (W := W) ok5 (args := [Q a b]) rfl (fun c h => by cases h) (.cons (VT0.Q W a b) .nil)).mono fun e W' ⟨he, hb⟩ => ?_
  exact ⟨_, he, law_post (tb := 4) laidOut (by kernel_rfl) (by kernel_rfl) (by kernel_rfl) rfl rfl hb hW'⟩

theorem floors_holds : Rows.RatioFloorsSaid :=
  OpenClaim.holds_of_wide 5 Try.f5 rfl rfl rfl rfl rfl rfl rfl ⟨rfl, rfl, rfl, rfl, rfl⟩ rfl rfl rfl rfl rfl (by kernel_rfl) Try.func5 (by kernel_rfl)
    (of_decide_eq_true (by kernel_rfl)) (by unfold Func.isWrapper; first | (rw [if_pos (by decide +kernel)]; kernel_rfl) | (rw [if_neg (by decide +kernel)]; exact ⟨rfl, rfl⟩))
    (fun os started H enc _ => floors_lifted os started H enc)
end Go.Proofs.Ytommmlhllifonaa
