/- The law FoldWidths: its function returns true for all arguments, and leaves them as they were. Written by a program (wip/tools/rows.py) over proofs of its own. -/
import Derived.Test.YtdkggjgmlccjcaaRows
import Derived.Test.YtdkggjgmlccjcaaSyZ
import Derived.Test.YtdkggjgmlccjcaaFoldpk
import Derived.Lib.SmallJoins
namespace Go.Proofs.Ytdkggjgmlccjcaa
open Go.Sy Go.ChangeShapes Go.WideShapes Go.ChangeAt Go.RowKit
set_option linter.unusedVariables false
set_option maxRecDepth 100000
namespace ZFoldWidths
theorem own : ownKnob Try.prog.godebug = none := by kernel_rfl
theorem laidOut : laidOutB Try.prog = true := by kernel_rfl
theorem rd3 : Go.Sy.Rd Try.prog 3 (.ti .i64) := rd_int (by kernel_rfl) (by kernel_rfl)
theorem rd44 : Go.Sy.Rd Try.prog 44 (.tp (.ti .i64) (.ti .i64)) := rd_struct (fs := Try.prog.fieldsOf 44) (by kernel_rfl) (by kernel_rfl) (.more (f := (Try.prog.fieldsOf 44)[0]!) (r := [(Try.prog.fieldsOf 44)[1]!]) (by kernel_rfl) rd3 (.last (by kernel_rfl) rd3))
theorem rd53 : Go.Sy.Rd Try.prog 53 (.tp (.ti .i64) (.tp (.ti .i64) (.ti .i64))) := rd_struct (fs := Try.prog.fieldsOf 53) (by kernel_rfl) (by kernel_rfl) (.more (f := (Try.prog.fieldsOf 53)[0]!) (r := [(Try.prog.fieldsOf 53)[1]!, (Try.prog.fieldsOf 53)[2]!]) (by kernel_rfl) rd3 (.more (f := (Try.prog.fieldsOf 53)[1]!) (r := [(Try.prog.fieldsOf 53)[2]!]) (by kernel_rfl) rd3 (.last (by kernel_rfl) rd3)))
theorem rd55 : Go.Sy.Rd Try.prog 55 (.tp (.ti .i64) (.tp (.ti .i64) (.tp (.ti .i64) (.tp (.tp (.ti .i64) (.ti .i64)) (.tp (.tp (.ti .i64) (.ti .i64)) (.tp (.ti .i64) (.tp (.ti .i64) (.ti .i64)))))))) := rd_struct (fs := Try.prog.fieldsOf 55) (by kernel_rfl) (by kernel_rfl) (.more (f := (Try.prog.fieldsOf 55)[0]!) (r := [(Try.prog.fieldsOf 55)[1]!, (Try.prog.fieldsOf 55)[2]!, (Try.prog.fieldsOf 55)[3]!, (Try.prog.fieldsOf 55)[4]!, (Try.prog.fieldsOf 55)[5]!]) (by kernel_rfl) rd3 (.more (f := (Try.prog.fieldsOf 55)[1]!) (r := [(Try.prog.fieldsOf 55)[2]!, (Try.prog.fieldsOf 55)[3]!, (Try.prog.fieldsOf 55)[4]!, (Try.prog.fieldsOf 55)[5]!]) (by kernel_rfl) rd3 (.more (f := (Try.prog.fieldsOf 55)[2]!) (r := [(Try.prog.fieldsOf 55)[3]!, (Try.prog.fieldsOf 55)[4]!, (Try.prog.fieldsOf 55)[5]!]) (by kernel_rfl) rd3 (.more (f := (Try.prog.fieldsOf 55)[3]!) (r := [(Try.prog.fieldsOf 55)[4]!, (Try.prog.fieldsOf 55)[5]!]) (by kernel_rfl) rd44 (.more (f := (Try.prog.fieldsOf 55)[4]!) (r := [(Try.prog.fieldsOf 55)[5]!]) (by kernel_rfl) rd44 (.last (by kernel_rfl) rd53))))))
theorem rd45 : Go.Sy.Rd Try.prog 45 (.tl (.tp (.ti .i64) (.tp (.ti .i64) (.tp (.ti .i64) (.tp (.tp (.ti .i64) (.ti .i64)) (.tp (.tp (.ti .i64) (.ti .i64)) (.tp (.ti .i64) (.tp (.ti .i64) (.ti .i64))))))))) := rd_slice (e := 55) (by kernel_rfl) (by kernel_rfl) (Nat.lt_of_lt_of_eq (show 0 < 80 by decide) (show 80 = Try.prog.bytesOf 55 by kernel_rfl)) rd55
theorem rd47 : Go.Sy.Rd Try.prog 47 (.tp (.ti .i64) (.tp (.ti .i64) (.tp (.tp (.ti .i64) (.ti .i64)) (.tl (.tp (.ti .i64) (.tp (.ti .i64) (.tp (.ti .i64) (.tp (.tp (.ti .i64) (.ti .i64)) (.tp (.tp (.ti .i64) (.ti .i64)) (.tp (.ti .i64) (.tp (.ti .i64) (.ti .i64)))))))))))) := rd_struct (fs := Try.prog.fieldsOf 47) (by kernel_rfl) (by kernel_rfl) (.more (f := (Try.prog.fieldsOf 47)[0]!) (r := [(Try.prog.fieldsOf 47)[1]!, (Try.prog.fieldsOf 47)[2]!, (Try.prog.fieldsOf 47)[3]!]) (by kernel_rfl) rd3 (.more (f := (Try.prog.fieldsOf 47)[1]!) (r := [(Try.prog.fieldsOf 47)[2]!, (Try.prog.fieldsOf 47)[3]!]) (by kernel_rfl) rd3 (.more (f := (Try.prog.fieldsOf 47)[2]!) (r := [(Try.prog.fieldsOf 47)[3]!]) (by kernel_rfl) rd44 (.last (by kernel_rfl) rd45))))
theorem rd22 : Go.Sy.Rd Try.prog 22 (.tl (.tp (.ti .i64) (.tp (.ti .i64) (.tp (.tp (.ti .i64) (.ti .i64)) (.tl (.tp (.ti .i64) (.tp (.ti .i64) (.tp (.ti .i64) (.tp (.tp (.ti .i64) (.ti .i64)) (.tp (.tp (.ti .i64) (.ti .i64)) (.tp (.ti .i64) (.tp (.ti .i64) (.ti .i64))))))))))))) := rd_slice (e := 47) (by kernel_rfl) (by kernel_rfl) (Nat.lt_of_lt_of_eq (show 0 < 56 by decide) (show 56 = Try.prog.bytesOf 47 by kernel_rfl)) rd47
theorem rd24 : Go.Sy.Rd Try.prog 24 (.tp (.ti .i64) (.tl (.tp (.ti .i64) (.tp (.ti .i64) (.tp (.tp (.ti .i64) (.ti .i64)) (.tl (.tp (.ti .i64) (.tp (.ti .i64) (.tp (.ti .i64) (.tp (.tp (.ti .i64) (.ti .i64)) (.tp (.tp (.ti .i64) (.ti .i64)) (.tp (.ti .i64) (.tp (.ti .i64) (.ti .i64)))))))))))))) := rd_struct (fs := Try.prog.fieldsOf 24) (by kernel_rfl) (by kernel_rfl) (.more (f := (Try.prog.fieldsOf 24)[0]!) (r := [(Try.prog.fieldsOf 24)[1]!]) (by kernel_rfl) rd3 (.last (by kernel_rfl) rd22))
theorem rd5 : Go.Sy.Rd Try.prog 5 (.ti .u8) := rd_int (by kernel_rfl) (by kernel_rfl)
theorem rd38 : Go.Sy.Rd Try.prog 38 (.tl (.ti .u8)) := rd_slice (e := 5) (by kernel_rfl) (by kernel_rfl) (Nat.lt_of_lt_of_eq (show 0 < 1 by decide) (show 1 = Try.prog.bytesOf 5 by kernel_rfl)) rd5
set_option maxRecDepth 100000 in
theorem lifted (os : Os) (started : os.Started) (H : Type) (enc : TypeId × Value → H) :
  ReturnsInHanded {} Try.checked os 8 .any (Rows.foldWidthsSpec.pre6 enc Try.prog Try.f8 Rows.foldWidthsRow.domain false) (Rows.foldWidthsSpec.post enc Try.prog Try.f8 false true false false) := by
 refine returnsInHanded_of_change_sized (C := Try.checked) own started (by kernel_rfl) Try.func8
  (ChangeSpec.witness6 (enc := enc) (C := Try.checked) false ⟨#[], #[.agg #[.int .i64 0, .slice none 0 0], .slice none 0 0], []⟩ 8 (by kernel_rfl) (by kernel_rfl) (by kernel_rfl) (by kernel_rfl)) ?_
 intro W base args ds gs before hval0 hW hcnd hrz _
 have hval : ∀ (j : Nat) t v, Try.f8.params[j]? = some t → args[j]? = some v → Value.okWide Try.prog W .any base t v := hval0
 have hW' := hW
 obtain ⟨p, q, hA0, hV, rfl, hfz, hnd⟩ := hW
 have hA : DataW.TrodAll enc Try.prog W 0 (fun _ => true) true Try.f8.params.toList args.toList ds p := hA0
 rw [Try.params8] at hA hval
 obtain ⟨v0, vs0, d0, ds0, p0, q0, ha0, rfl, rfl, h0, hr0⟩ := trodAll_cons hA
 obtain ⟨v1, vs1, d1, ds1, p1, q1, rfl, rfl, rfl, h1, hr1⟩ := trodAll_cons hr0
 obtain ⟨rfl, rfl, rfl⟩ := trodAll_nil hr1
 have ha : args = #[v0, v1] := by rw [← Array.toArray_toList (xs := args), ha0]
 subst ha
 obtain ⟨x0, i0, e0, b0⟩ := rd24.agg (fs := Try.prog.fieldsOf 24) (by kernel_rfl) (hval 0 24 v0 rfl rfl) h0
 obtain ⟨sa1, sl1, sc1, rfl⟩ := okWide_slice (e := 5) (by kernel_rfl) (hval 1 38 v1 rfl rfl)
 obtain ⟨x1, i1, e1, tp1, b1⟩ := rd38.one rfl h1
 have wl1 : ∀ u : Int, u ∈ (show List Int from x1) → _ := fun u hu => wf_u8 (i1 u hu)
 have w0 := wf_i64' (a := x0.1) i0.1
 have bd0 := b0 (wtB Try.prog) 140737488355328 wtBulk (wt_reach hrz (j := 0) rfl rfl)
 have bd1 := b1 (wtB Try.prog) 140737488355328 wtBulk (wt_reach hrz (j := 1) rfl rfl)
 refine (law_calls (W := W) ok_FWidths (args := [.agg [.d (.lit (.int .i64 x0.1)), .d (.sl (.tp (.ti .i64) (.tp (.ti .i64) (.tp (.tp (.ti .i64) (.ti .i64)) (.tl (.tp (.ti .i64) (.tp (.ti .i64) (.tp (.ti .i64) (.tp (.tp (.ti .i64) (.ti .i64)) (.tp (.tp (.ti .i64) (.ti .i64)) (.tp (.ti .i64) (.tp (.ti .i64) (.ti .i64)))))))))))) x0.2)], .one (.d (.sl (.ti .u8) x1))]) rfl (List.forall_mem_cons.2 ⟨by first | assumption | omega | (unfold InI64 at *; omega) | exact fun m hm => (bd0.2.2 m hm).2.2.2.1, List.forall_mem_cons.2 ⟨by first | assumption | omega | (unfold InI64 at *; omega) | exact fun m hm => (bd0.2.2 m hm).2.2.2.1, fun _ h => by cases h⟩⟩) (tabs_none (by kernel_rfl)) (.cons e0 (.cons e1 .nil))).mono fun e W' ⟨he, hb⟩ => ?_
 exact ⟨_, he, law_post (tb := 4) laidOut (by kernel_rfl) (by kernel_rfl) (by kernel_rfl) rfl rfl hb hW'⟩
end ZFoldWidths
theorem foldWidths_holds : Rows.FoldWidthsSaid :=
 OpenClaim.holds_of_wide 8 Try.f8 rfl rfl rfl rfl rfl rfl rfl ⟨rfl, rfl, rfl, rfl, rfl⟩ rfl rfl rfl rfl rfl (by kernel_rfl) Try.func8 (by kernel_rfl)
  (of_decide_eq_true (by kernel_rfl)) (by unfold Func.isWrapper; first | (rw [if_pos (by decide +kernel)]; kernel_rfl) | (rw [if_neg (by decide +kernel)]; exact ⟨rfl, rfl⟩))
  (fun os started H enc _ => ZFoldWidths.lifted os started H enc)
end Go.Proofs.Ytdkggjgmlccjcaa
