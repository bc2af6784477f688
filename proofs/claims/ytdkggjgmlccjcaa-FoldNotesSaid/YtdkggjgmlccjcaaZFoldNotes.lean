/- The law FoldNotes: its function returns true for all arguments, and leaves them as they were. Written by a program (wip/tools/rows.py) over proofs of its own. -/
import Derived.Test.YtdkggjgmlccjcaaRows
import Derived.Test.YtdkggjgmlccjcaaSyZ
import Derived.Test.YtdkggjgmlccjcaaFoldok
import Derived.Lib.SmallJoins
namespace Go.Proofs.Ytdkggjgmlccjcaa
open Go.Sy Go.ChangeShapes Go.WideShapes Go.ChangeAt Go.RowKit
set_option linter.unusedVariables false
namespace ZFoldNotes
theorem own : ownKnob Try.prog.godebug = none := by kernel_rfl
theorem laidOut : laidOutB Try.prog = true := by kernel_rfl
theorem rd3 : Rd Try.prog 3 (.ti .i64) := rd_int (by kernel_rfl) (by kernel_rfl)
theorem rd44 : Rd Try.prog 44 (.tp (.ti .i64) (.ti .i64)) := rd_struct (fs := Try.prog.fieldsOf 44) (by kernel_rfl) (by kernel_rfl) (.more (f := (Try.prog.fieldsOf 44)[0]!) (r := [(Try.prog.fieldsOf 44)[1]!]) (by kernel_rfl) rd3 (.last (by kernel_rfl) rd3))
theorem rd53 : Rd Try.prog 53 (.tp (.ti .i64) (.tp (.ti .i64) (.ti .i64))) := rd_struct (fs := Try.prog.fieldsOf 53) (by kernel_rfl) (by kernel_rfl) (.more (f := (Try.prog.fieldsOf 53)[0]!) (r := [(Try.prog.fieldsOf 53)[1]!, (Try.prog.fieldsOf 53)[2]!]) (by kernel_rfl) rd3 (.more (f := (Try.prog.fieldsOf 53)[1]!) (r := [(Try.prog.fieldsOf 53)[2]!]) (by kernel_rfl) rd3 (.last (by kernel_rfl) rd3)))
theorem rd55 : Rd Try.prog 55 (.tp (.ti .i64) (.tp (.ti .i64) (.tp (.ti .i64) (.tp (.tp (.ti .i64) (.ti .i64)) (.tp (.tp (.ti .i64) (.ti .i64)) (.tp (.ti .i64) (.tp (.ti .i64) (.ti .i64)))))))) := rd_struct (fs := Try.prog.fieldsOf 55) (by kernel_rfl) (by kernel_rfl) (.more (f := (Try.prog.fieldsOf 55)[0]!) (r := [(Try.prog.fieldsOf 55)[1]!, (Try.prog.fieldsOf 55)[2]!, (Try.prog.fieldsOf 55)[3]!, (Try.prog.fieldsOf 55)[4]!, (Try.prog.fieldsOf 55)[5]!]) (by kernel_rfl) rd3 (.more (f := (Try.prog.fieldsOf 55)[1]!) (r := [(Try.prog.fieldsOf 55)[2]!, (Try.prog.fieldsOf 55)[3]!, (Try.prog.fieldsOf 55)[4]!, (Try.prog.fieldsOf 55)[5]!]) (by kernel_rfl) rd3 (.more (f := (Try.prog.fieldsOf 55)[2]!) (r := [(Try.prog.fieldsOf 55)[3]!, (Try.prog.fieldsOf 55)[4]!, (Try.prog.fieldsOf 55)[5]!]) (by kernel_rfl) rd3 (.more (f := (Try.prog.fieldsOf 55)[3]!) (r := [(Try.prog.fieldsOf 55)[4]!, (Try.prog.fieldsOf 55)[5]!]) (by kernel_rfl) rd44 (.more (f := (Try.prog.fieldsOf 55)[4]!) (r := [(Try.prog.fieldsOf 55)[5]!]) (by kernel_rfl) rd44 (.last (by kernel_rfl) rd53))))))
theorem rd45 : Rd Try.prog 45 (.tl (.tp (.ti .i64) (.tp (.ti .i64) (.tp (.ti .i64) (.tp (.tp (.ti .i64) (.ti .i64)) (.tp (.tp (.ti .i64) (.ti .i64)) (.tp (.ti .i64) (.tp (.ti .i64) (.ti .i64))))))))) := rd_slice (e := 55) (by kernel_rfl) (by kernel_rfl) rd55
theorem rd47 : Rd Try.prog 47 (.tp (.ti .i64) (.tp (.ti .i64) (.tp (.tp (.ti .i64) (.ti .i64)) (.tl (.tp (.ti .i64) (.tp (.ti .i64) (.tp (.ti .i64) (.tp (.tp (.ti .i64) (.ti .i64)) (.tp (.tp (.ti .i64) (.ti .i64)) (.tp (.ti .i64) (.tp (.ti .i64) (.ti .i64)))))))))))) := rd_struct (fs := Try.prog.fieldsOf 47) (by kernel_rfl) (by kernel_rfl) (.more (f := (Try.prog.fieldsOf 47)[0]!) (r := [(Try.prog.fieldsOf 47)[1]!, (Try.prog.fieldsOf 47)[2]!, (Try.prog.fieldsOf 47)[3]!]) (by kernel_rfl) rd3 (.more (f := (Try.prog.fieldsOf 47)[1]!) (r := [(Try.prog.fieldsOf 47)[2]!, (Try.prog.fieldsOf 47)[3]!]) (by kernel_rfl) rd3 (.more (f := (Try.prog.fieldsOf 47)[2]!) (r := [(Try.prog.fieldsOf 47)[3]!]) (by kernel_rfl) rd44 (.last (by kernel_rfl) rd45))))
theorem rd22 : Rd Try.prog 22 (.tl (.tp (.ti .i64) (.tp (.ti .i64) (.tp (.tp (.ti .i64) (.ti .i64)) (.tl (.tp (.ti .i64) (.tp (.ti .i64) (.tp (.ti .i64) (.tp (.tp (.ti .i64) (.ti .i64)) (.tp (.tp (.ti .i64) (.ti .i64)) (.tp (.ti .i64) (.tp (.ti .i64) (.ti .i64))))))))))))) := rd_slice (e := 47) (by kernel_rfl) (by kernel_rfl) rd47
theorem rd24 : Rd Try.prog 24 (.tp (.ti .i64) (.tl (.tp (.ti .i64) (.tp (.ti .i64) (.tp (.tp (.ti .i64) (.ti .i64)) (.tl (.tp (.ti .i64) (.tp (.ti .i64) (.tp (.ti .i64) (.tp (.tp (.ti .i64) (.ti .i64)) (.tp (.tp (.ti .i64) (.ti .i64)) (.tp (.ti .i64) (.tp (.ti .i64) (.ti .i64)))))))))))))) := rd_struct (fs := Try.prog.fieldsOf 24) (by kernel_rfl) (by kernel_rfl) (.more (f := (Try.prog.fieldsOf 24)[0]!) (r := [(Try.prog.fieldsOf 24)[1]!]) (by kernel_rfl) rd3 (.last (by kernel_rfl) rd22))
theorem rd5 : Rd Try.prog 5 (.ti .u8) := rd_int (by kernel_rfl) (by kernel_rfl)
theorem rd38 : Rd Try.prog 38 (.tl (.ti .u8)) := rd_slice (e := 5) (by kernel_rfl) (by kernel_rfl) rd5
set_option maxRecDepth 100000 in
theorem lifted (os : Os) (started : os.Started) (H : Type) (enc : TypeId × Value → H) :
    ReturnsInHanded {} Try.checked os 7 .any (Rows.foldNotesSpec.pre6 enc Try.prog Try.f7 Rows.foldNotesRow.domain false) (Rows.foldNotesSpec.post enc Try.prog Try.f7 false true false false) := by
  refine returnsInHanded_of_change (C := Try.checked) own started (by kernel_rfl) Try.func7
    (ChangeSpec.witness6 (enc := enc) (C := Try.checked) false ⟨#[], #[.agg #[.int .i64 0, .slice none 0 0], .slice none 0 0, .int .u8 0, .agg #[.int .i64 0, .int .i64 0, .int .i64 0, .int .i64 0, .int .i64 0, .int .i64 0, .int .i64 0, .int .i64 0, .int .i64 0, .int .i64 0]], []⟩ 8 (by kernel_rfl) (by kernel_rfl) (by kernel_rfl) (by kernel_rfl)) ?_
  intro W base args ds gs before hval0 hW hcnd _
  have hval : ∀ (j : Nat) t v, Try.f7.params[j]? = some t → args[j]? = some v → Value.okWide Try.prog W .any base t v := hval0
  have hW' := hW
  obtain ⟨p, q, hA0, hV, rfl, hfz, hnd⟩ := hW
  have hA : DataW.TrodAll enc Try.prog W 0 (fun _ => true) true Try.f7.params.toList args.toList ds p := hA0
  rw [Try.params7] at hA hval
  obtain ⟨v0, vs0, d0, ds0, p0, q0, ha0, rfl, rfl, h0, hr0⟩ := trodAll_cons hA
  obtain ⟨v1, vs1, d1, ds1, p1, q1, rfl, rfl, rfl, h1, hr1⟩ := trodAll_cons hr0
  obtain ⟨v2, vs2, d2, ds2, p2, q2, rfl, rfl, rfl, h2, hr2⟩ := trodAll_cons hr1
  obtain ⟨v3, vs3, d3, ds3, p3, q3, rfl, rfl, rfl, h3, hr3⟩ := trodAll_cons hr2
  obtain ⟨rfl, rfl, rfl⟩ := trodAll_nil hr3
  have ha : args = #[v0, v1, v2, v3] := by rw [← Array.toArray_toList (xs := args), ha0]
  subst ha
  obtain ⟨x0, i0, e0, b0⟩ := rd24.agg (fs := Try.prog.fieldsOf 24) (by kernel_rfl) (hval 0 24 v0 rfl rfl) h0
  obtain ⟨sa1, sl1, sc1, rfl⟩ := okWide_slice (e := 5) (by kernel_rfl) (hval 1 38 v1 rfl rfl)
  obtain ⟨x1, i1, e1, b1⟩ := rd38.one rfl h1
  obtain ⟨_, rfl, _, _, _⟩ := open_int (k := .u8) (by kernel_rfl) (hval 2 5 v2 rfl rfl) h2
  obtain ⟨x2, i2, e2, b2⟩ := rd5.one rfl h2
  obtain ⟨x3, i3, e3, b3⟩ := rd55.agg (fs := Try.prog.fieldsOf 55) (by kernel_rfl) (hval 3 55 v3 rfl rfl) h3
  have wl1 : ∀ u : Int, u ∈ (show List Int from x1) → _ := fun u hu => wf_u8 (i1 u hu)
  have w0 := wf_i64' (a := x0.1) i0.1
  have w1 := wf_u8 (a := x2) i2
  have w2 := wf_i64' (a := x3.1) i3.1
  have w3 := wf_i64' (a := x3.2.1) i3.2.1
  have w4 := wf_i64' (a := x3.2.2.1) i3.2.2.1
  have w5 := wf_i64' (a := x3.2.2.2.1.1) i3.2.2.2.1.1
  have w6 := wf_i64' (a := x3.2.2.2.1.2) i3.2.2.2.1.2
  have w7 := wf_i64' (a := x3.2.2.2.2.1.1) i3.2.2.2.2.1.1
  have w8 := wf_i64' (a := x3.2.2.2.2.1.2) i3.2.2.2.2.1.2
  have w9 := wf_i64' (a := x3.2.2.2.2.2.1) i3.2.2.2.2.2.1
  have w10 := wf_i64' (a := x3.2.2.2.2.2.2.1) i3.2.2.2.2.2.2.1
  have w11 := wf_i64' (a := x3.2.2.2.2.2.2.2) i3.2.2.2.2.2.2.2
  refine (law_calls (W := W) ok_FNotes (args := [.agg [.d (.lit (.int .i64 x0.1)), .d (.sl (.tp (.ti .i64) (.tp (.ti .i64) (.tp (.tp (.ti .i64) (.ti .i64)) (.tl (.tp (.ti .i64) (.tp (.ti .i64) (.tp (.ti .i64) (.tp (.tp (.ti .i64) (.ti .i64)) (.tp (.tp (.ti .i64) (.ti .i64)) (.tp (.ti .i64) (.tp (.ti .i64) (.ti .i64)))))))))))) x0.2)], .one (.d (.sl (.ti .u8) x1)), .one (.d (.lit (.int .u8 x2))), .agg [.d (.lit (.int .i64 x3.1)), .d (.lit (.int .i64 x3.2.1)), .d (.lit (.int .i64 x3.2.2.1)), .d (.lit (.int .i64 x3.2.2.2.1.1)), .d (.lit (.int .i64 x3.2.2.2.1.2)), .d (.lit (.int .i64 x3.2.2.2.2.1.1)), .d (.lit (.int .i64 x3.2.2.2.2.1.2)), .d (.lit (.int .i64 x3.2.2.2.2.2.1)), .d (.lit (.int .i64 x3.2.2.2.2.2.2.1)), .d (.lit (.int .i64 x3.2.2.2.2.2.2.2))]]) rfl (List.forall_mem_cons.2 ⟨by first | assumption | omega | (unfold InI64 at *; omega), List.forall_mem_cons.2 ⟨by first | assumption | omega | (unfold InI64 at *; omega), List.forall_mem_cons.2 ⟨by first | assumption | omega | (unfold InI64 at *; omega), fun _ h => by cases h⟩⟩⟩) (.cons e0 (.cons e1 (.cons e2 (.cons e3 .nil))))).mono fun e W' ⟨he, hb⟩ => ?_
  exact ⟨_, he, law_post (tb := 4) laidOut (by kernel_rfl) (by kernel_rfl) (by kernel_rfl) rfl rfl hb hW'⟩
end ZFoldNotes
theorem foldNotes_holds : Rows.FoldNotesSaid :=
  OpenClaim.holds_of_wide 7 Try.f7 rfl rfl rfl rfl rfl rfl rfl ⟨rfl, rfl, rfl, rfl, rfl⟩ rfl rfl rfl rfl rfl (by kernel_rfl) Try.func7 (by kernel_rfl)
    (of_decide_eq_true (by kernel_rfl)) (by unfold Func.isWrapper; first | (rw [if_pos (by decide +kernel)]; kernel_rfl) | (rw [if_neg (by decide +kernel)]; exact ⟨rfl, rfl⟩))
    (fun os started H enc _ => ZFoldNotes.lifted os started H enc)
end Go.Proofs.Ytdkggjgmlccjcaa
