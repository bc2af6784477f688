/- The law FormCuts: its function returns true for all arguments, and leaves them as they were. Written by a program (wip/tools/rows.py) over proofs of its own. -/
import Derived.Test.YtpdgmlkagfeglaaRows
import Derived.Test.YtpdgmlkagfeglaaSyZ
import Derived.Test.YtpdgmlkagfeglaaFormok
import Derived.Lib.SmallJoins
namespace Go.Proofs.Ytpdgmlkagfeglaa
open Go.Sy Go.ChangeShapes Go.WideShapes Go.ChangeAt Go.RowKit
set_option linter.unusedVariables false
set_option maxRecDepth 100000
namespace ZFormCuts
theorem own : ownKnob Try.prog.godebug = none := by kernel_rfl
theorem laidOut : laidOutB Try.prog = true := by kernel_rfl
theorem rd3 : Rd Try.prog 3 (.ti .i64) := rd_int (by kernel_rfl) (by kernel_rfl)
theorem rd54 : Rd Try.prog 54 (.tp (.ti .i64) (.tp (.ti .i64) (.ti .i64))) := rd_struct (fs := Try.prog.fieldsOf 54) (by kernel_rfl) (by kernel_rfl) (.more (f := (Try.prog.fieldsOf 54)[0]!) (r := [(Try.prog.fieldsOf 54)[1]!, (Try.prog.fieldsOf 54)[2]!]) (by kernel_rfl) rd3 (.more (f := (Try.prog.fieldsOf 54)[1]!) (r := [(Try.prog.fieldsOf 54)[2]!]) (by kernel_rfl) rd3 (.last (by kernel_rfl) rd3)))
theorem rd22 : Rd Try.prog 22 (.tl (.tp (.ti .i64) (.tp (.ti .i64) (.ti .i64)))) := rd_slice (e := 54) (by kernel_rfl) (by kernel_rfl) (Nat.lt_of_lt_of_eq (show 0 < 24 by decide) (show 24 = Try.prog.bytesOf 54 by kernel_rfl)) rd54
theorem rd75 : Rd Try.prog 75 (.tp (.ti .i64) (.tp (.ti .i64) (.ti .i64))) := rd_struct (fs := Try.prog.fieldsOf 75) (by kernel_rfl) (by kernel_rfl) (.more (f := (Try.prog.fieldsOf 75)[0]!) (r := [(Try.prog.fieldsOf 75)[1]!, (Try.prog.fieldsOf 75)[2]!]) (by kernel_rfl) rd3 (.more (f := (Try.prog.fieldsOf 75)[1]!) (r := [(Try.prog.fieldsOf 75)[2]!]) (by kernel_rfl) rd3 (.last (by kernel_rfl) rd3)))
theorem rd23 : Rd Try.prog 23 (.tl (.tp (.ti .i64) (.tp (.ti .i64) (.ti .i64)))) := rd_slice (e := 75) (by kernel_rfl) (by kernel_rfl) (Nat.lt_of_lt_of_eq (show 0 < 24 by decide) (show 24 = Try.prog.bytesOf 75 by kernel_rfl)) rd75
theorem rd25 : Rd Try.prog 25 (.tp (.ti .i64) (.tp (.ti .i64) (.ti .i64))) := rd_struct (fs := Try.prog.fieldsOf 25) (by kernel_rfl) (by kernel_rfl) (.more (f := (Try.prog.fieldsOf 25)[0]!) (r := [(Try.prog.fieldsOf 25)[1]!, (Try.prog.fieldsOf 25)[2]!]) (by kernel_rfl) rd3 (.more (f := (Try.prog.fieldsOf 25)[1]!) (r := [(Try.prog.fieldsOf 25)[2]!]) (by kernel_rfl) rd3 (.last (by kernel_rfl) rd3)))
theorem rd32 : Rd Try.prog 32 (.tp (.ti .i64) (.tp (.ti .i64) (.ti .i64))) := rd_struct (fs := Try.prog.fieldsOf 32) (by kernel_rfl) (by kernel_rfl) (.more (f := (Try.prog.fieldsOf 32)[0]!) (r := [(Try.prog.fieldsOf 32)[1]!, (Try.prog.fieldsOf 32)[2]!]) (by kernel_rfl) rd3 (.more (f := (Try.prog.fieldsOf 32)[1]!) (r := [(Try.prog.fieldsOf 32)[2]!]) (by kernel_rfl) rd3 (.last (by kernel_rfl) rd3)))
theorem rd26 : Rd Try.prog 26 (.tl (.tp (.ti .i64) (.tp (.ti .i64) (.ti .i64)))) := rd_slice (e := 32) (by kernel_rfl) (by kernel_rfl) (Nat.lt_of_lt_of_eq (show 0 < 24 by decide) (show 24 = Try.prog.bytesOf 32 by kernel_rfl)) rd32
theorem rd28 : Rd Try.prog 28 (.tp (.ti .i64) (.tp (.tl (.tp (.ti .i64) (.tp (.ti .i64) (.ti .i64)))) (.tp (.tl (.tp (.ti .i64) (.tp (.ti .i64) (.ti .i64)))) (.tp (.tp (.ti .i64) (.tp (.ti .i64) (.ti .i64))) (.tl (.tp (.ti .i64) (.tp (.ti .i64) (.ti .i64)))))))) := rd_struct (fs := Try.prog.fieldsOf 28) (by kernel_rfl) (by kernel_rfl) (.more (f := (Try.prog.fieldsOf 28)[0]!) (r := [(Try.prog.fieldsOf 28)[1]!, (Try.prog.fieldsOf 28)[2]!, (Try.prog.fieldsOf 28)[3]!, (Try.prog.fieldsOf 28)[4]!]) (by kernel_rfl) rd3 (.more (f := (Try.prog.fieldsOf 28)[1]!) (r := [(Try.prog.fieldsOf 28)[2]!, (Try.prog.fieldsOf 28)[3]!, (Try.prog.fieldsOf 28)[4]!]) (by kernel_rfl) rd22 (.more (f := (Try.prog.fieldsOf 28)[2]!) (r := [(Try.prog.fieldsOf 28)[3]!, (Try.prog.fieldsOf 28)[4]!]) (by kernel_rfl) rd23 (.more (f := (Try.prog.fieldsOf 28)[3]!) (r := [(Try.prog.fieldsOf 28)[4]!]) (by kernel_rfl) rd25 (.last (by kernel_rfl) rd26)))))
set_option maxRecDepth 100000 in
theorem lifted (os : Os) (started : os.Started) (H : Type) (enc : TypeId × Value → H) :
    ReturnsInHanded {} Try.checked os 6 .any (Rows.formCutsSpec.pre6 enc Try.prog Try.f6 Rows.formCutsRow.domain false) (Rows.formCutsSpec.post enc Try.prog Try.f6 false true false false) := by
  refine returnsInHanded_of_change (C := Try.checked) own started (by kernel_rfl) Try.func6
    (ChangeSpec.witness6 (enc := enc) (C := Try.checked) false ⟨#[], #[.agg #[.int .i64 0, .slice none 0 0, .slice none 0 0, .int .i64 0, .int .i64 0, .int .i64 0, .slice none 0 0], .agg #[.int .i64 0, .int .i64 0, .int .i64 0], .agg #[.int .i64 0, .int .i64 0, .int .i64 0]], []⟩ 8 (by kernel_rfl) (by kernel_rfl) (by kernel_rfl) (by kernel_rfl)) ?_
  intro W base args ds gs before hval0 hW hcnd _
  have hval : ∀ (j : Nat) t v, Try.f6.params[j]? = some t → args[j]? = some v → Value.okWide Try.prog W .any base t v := hval0
  have hW' := hW
  obtain ⟨p, q, hA0, hV, rfl, hfz, hnd⟩ := hW
  have hA : DataW.TrodAll enc Try.prog W 0 (fun _ => true) true Try.f6.params.toList args.toList ds p := hA0
  rw [Try.params6] at hA hval
  obtain ⟨v0, vs0, d0, ds0, p0, q0, ha0, rfl, rfl, h0, hr0⟩ := trodAll_cons hA
  obtain ⟨v1, vs1, d1, ds1, p1, q1, rfl, rfl, rfl, h1, hr1⟩ := trodAll_cons hr0
  obtain ⟨v2, vs2, d2, ds2, p2, q2, rfl, rfl, rfl, h2, hr2⟩ := trodAll_cons hr1
  obtain ⟨rfl, rfl, rfl⟩ := trodAll_nil hr2
  have ha : args = #[v0, v1, v2] := by rw [← Array.toArray_toList (xs := args), ha0]
  subst ha
  obtain ⟨x0, i0, e0, b0⟩ := rd28.agg (fs := Try.prog.fieldsOf 28) (by kernel_rfl) (hval 0 28 v0 rfl rfl) h0
  obtain ⟨x1, i1, e1, b1⟩ := rd32.agg (fs := Try.prog.fieldsOf 32) (by kernel_rfl) (hval 1 32 v1 rfl rfl) h1
  obtain ⟨x2, i2, e2, b2⟩ := rd32.agg (fs := Try.prog.fieldsOf 32) (by kernel_rfl) (hval 2 32 v2 rfl rfl) h2
  have w0 := wf_i64' (a := x0.1) i0.1
  have w1 := wf_i64' (a := x0.2.2.2.1.1) i0.2.2.2.1.1
  have w2 := wf_i64' (a := x0.2.2.2.1.2.1) i0.2.2.2.1.2.1
  have w3 := wf_i64' (a := x0.2.2.2.1.2.2) i0.2.2.2.1.2.2
  have w4 := wf_i64' (a := x1.1) i1.1
  have w5 := wf_i64' (a := x1.2.1) i1.2.1
  have w6 := wf_i64' (a := x1.2.2) i1.2.2
  have w7 := wf_i64' (a := x2.1) i2.1
  have w8 := wf_i64' (a := x2.2.1) i2.2.1
  have w9 := wf_i64' (a := x2.2.2) i2.2.2
  refine (law_calls (W := W) ok_Cuts (args := [.agg [.d (.lit (.int .i64 x0.1)), .d (.sl (.tp (.ti .i64) (.tp (.ti .i64) (.ti .i64))) x0.2.1), .d (.sl (.tp (.ti .i64) (.tp (.ti .i64) (.ti .i64))) x0.2.2.1), .d (.lit (.int .i64 x0.2.2.2.1.1)), .d (.lit (.int .i64 x0.2.2.2.1.2.1)), .d (.lit (.int .i64 x0.2.2.2.1.2.2)), .d (.sl (.tp (.ti .i64) (.tp (.ti .i64) (.ti .i64))) x0.2.2.2.2)], .agg [.d (.lit (.int .i64 x1.1)), .d (.lit (.int .i64 x1.2.1)), .d (.lit (.int .i64 x1.2.2))], .agg [.d (.lit (.int .i64 x2.1)), .d (.lit (.int .i64 x2.2.1)), .d (.lit (.int .i64 x2.2.2))]]) rfl (fun _ h => by cases h) (tabs_none (by kernel_rfl)) (.cons e0 (.cons e1 (.cons e2 .nil)))).mono fun e W' ⟨he, hb⟩ => ?_
  exact ⟨_, he, law_post (tb := 4) laidOut (by kernel_rfl) (by kernel_rfl) (by kernel_rfl) rfl rfl hb hW'⟩
end ZFormCuts
theorem formCuts_holds : Rows.FormCutsSaid :=
  OpenClaim.holds_of_wide 6 Try.f6 rfl rfl rfl rfl rfl rfl rfl ⟨rfl, rfl, rfl, rfl, rfl⟩ rfl rfl rfl rfl rfl (by kernel_rfl) Try.func6 (by kernel_rfl)
    (of_decide_eq_true (by kernel_rfl)) (by unfold Func.isWrapper; first | (rw [if_pos (by decide +kernel)]; kernel_rfl) | (rw [if_neg (by decide +kernel)]; exact ⟨rfl, rfl⟩))
    (fun os started H enc _ => ZFormCuts.lifted os started H enc)
end Go.Proofs.Ytpdgmlkagfeglaa
