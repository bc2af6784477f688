/- The law TempoLater: its function returns true for all arguments, and leaves them as they were. Written by a program (wip/tools/rows.py) over proofs of its own. -/
import Derived.Test.YtjghgdccaakfmaaRows
import Derived.Test.YtjghgdccaakfmaaSyZ
import Derived.Test.YtjghgdccaakfmaaTfk
import Derived.Lib.SmallJoins
namespace Go.Proofs.Ytjghgdccaakfmaa
open Go.Sy Go.ChangeShapes Go.WideShapes Go.ChangeAt Go.RowKit
set_option linter.unusedVariables false
set_option maxRecDepth 100000
namespace ZTempoLater
theorem own : ownKnob Try.prog.godebug = none := by kernel_rfl
theorem laidOut : laidOutB Try.prog = true := by kernel_rfl
theorem rd3 : Rd Try.prog 3 (.ti .i64) := rd_int (by kernel_rfl) (by kernel_rfl)
theorem rd25 : Rd Try.prog 25 (.tp (.ti .i64) (.ti .i64)) := rd_struct (fs := Try.prog.fieldsOf 25) (by kernel_rfl) (by kernel_rfl) (.more (f := (Try.prog.fieldsOf 25)[0]!) (r := [(Try.prog.fieldsOf 25)[1]!]) (by kernel_rfl) rd3 (.last (by kernel_rfl) rd3))
theorem rd66 : Rd Try.prog 66 (.tp (.ti .i64) (.tp (.tp (.ti .i64) (.ti .i64)) (.ti .i64))) := rd_struct (fs := Try.prog.fieldsOf 66) (by kernel_rfl) (by kernel_rfl) (.more (f := (Try.prog.fieldsOf 66)[0]!) (r := [(Try.prog.fieldsOf 66)[1]!, (Try.prog.fieldsOf 66)[2]!]) (by kernel_rfl) rd3 (.more (f := (Try.prog.fieldsOf 66)[1]!) (r := [(Try.prog.fieldsOf 66)[2]!]) (by kernel_rfl) rd25 (.last (by kernel_rfl) rd3)))
theorem rd22 : Rd Try.prog 22 (.tl (.tp (.ti .i64) (.tp (.tp (.ti .i64) (.ti .i64)) (.ti .i64)))) := rd_slice (e := 66) (by kernel_rfl) (by kernel_rfl) (Nat.lt_of_lt_of_eq (show 0 < 32 by decide) (show 32 = Try.prog.bytesOf 66 by kernel_rfl)) rd66
theorem rd50 : Rd Try.prog 50 (.tp (.ti .i64) (.tp (.ti .i64) (.ti .i64))) := rd_struct (fs := Try.prog.fieldsOf 50) (by kernel_rfl) (by kernel_rfl) (.more (f := (Try.prog.fieldsOf 50)[0]!) (r := [(Try.prog.fieldsOf 50)[1]!]) (by kernel_rfl) rd3 (.last (by kernel_rfl) rd25))
theorem rd23 : Rd Try.prog 23 (.tl (.tp (.ti .i64) (.tp (.ti .i64) (.ti .i64)))) := rd_slice (e := 50) (by kernel_rfl) (by kernel_rfl) (Nat.lt_of_lt_of_eq (show 0 < 24 by decide) (show 24 = Try.prog.bytesOf 50 by kernel_rfl)) rd50
theorem rd5 : Rd Try.prog 5 (.ti .u8) := rd_int (by kernel_rfl) (by kernel_rfl)
theorem rd27 : Rd Try.prog 27 (.tp (.ti .i64) (.tp (.ti .i64) (.ti .i64))) := rd_struct (fs := Try.prog.fieldsOf 27) (by kernel_rfl) (by kernel_rfl) (.more (f := (Try.prog.fieldsOf 27)[0]!) (r := [(Try.prog.fieldsOf 27)[1]!]) (by kernel_rfl) rd3 (.last (by kernel_rfl) rd25))
set_option maxRecDepth 100000 in
theorem lifted (os : Os) (started : os.Started) (H : Type) (enc : TypeId × Value → H) :
    ReturnsInHanded {} Try.checked os 6 .any (Rows.tempoLaterSpec.pre6 enc Try.prog Try.f6 Rows.tempoLaterRow.domain false) (Rows.tempoLaterSpec.post enc Try.prog Try.f6 false true false false) := by
  refine returnsInHanded_of_change (C := Try.checked) own started (by kernel_rfl) Try.func6
    (ChangeSpec.witness6 (enc := enc) (C := Try.checked) false ⟨#[], #[.slice none 0 0, .slice none 0 0, .int .u8 0, .agg #[.int .i64 0, .int .i64 0], .agg #[.int .i64 0, .int .i64 0, .int .i64 0]], []⟩ 8 (by kernel_rfl) (by kernel_rfl) (by kernel_rfl) (by kernel_rfl)) ?_
  intro W base args ds gs before hval0 hW hcnd _
  have hval : ∀ (j : Nat) t v, Try.f6.params[j]? = some t → args[j]? = some v → Value.okWide Try.prog W .any base t v := hval0
  have hW' := hW
  obtain ⟨p, q, hA0, hV, rfl, hfz, hnd⟩ := hW
  have hA : DataW.TrodAll enc Try.prog W 0 (fun _ => true) true Try.f6.params.toList args.toList ds p := hA0
  rw [Try.params6] at hA hval
  obtain ⟨v0, vs0, d0, ds0, p0, q0, ha0, rfl, rfl, h0, hr0⟩ := trodAll_cons hA
  obtain ⟨v1, vs1, d1, ds1, p1, q1, rfl, rfl, rfl, h1, hr1⟩ := trodAll_cons hr0
  obtain ⟨v2, vs2, d2, ds2, p2, q2, rfl, rfl, rfl, h2, hr2⟩ := trodAll_cons hr1
  obtain ⟨v3, vs3, d3, ds3, p3, q3, rfl, rfl, rfl, h3, hr3⟩ := trodAll_cons hr2
  obtain ⟨v4, vs4, d4, ds4, p4, q4, rfl, rfl, rfl, h4, hr4⟩ := trodAll_cons hr3
  obtain ⟨rfl, rfl, rfl⟩ := trodAll_nil hr4
  have ha : args = #[v0, v1, v2, v3, v4] := by rw [← Array.toArray_toList (xs := args), ha0]
  subst ha
  obtain ⟨sa0, sl0, sc0, rfl⟩ := okWide_slice (e := 66) (by kernel_rfl) (hval 0 22 v0 rfl rfl)
  obtain ⟨x0, i0, e0, tp0, b0⟩ := rd22.one rfl h0
  obtain ⟨sa1, sl1, sc1, rfl⟩ := okWide_slice (e := 50) (by kernel_rfl) (hval 1 23 v1 rfl rfl)
  obtain ⟨x1, i1, e1, tp1, b1⟩ := rd23.one rfl h1
  obtain ⟨_, rfl, _, _, _⟩ := open_int (k := .u8) (by kernel_rfl) (hval 2 5 v2 rfl rfl) h2
  obtain ⟨x2, i2, e2, tp2, b2⟩ := rd5.one rfl h2
  obtain ⟨x3, i3, e3, b3⟩ := rd25.agg (fs := Try.prog.fieldsOf 25) (by kernel_rfl) (hval 3 25 v3 rfl rfl) h3
  obtain ⟨x4, i4, e4, b4⟩ := rd27.agg (fs := Try.prog.fieldsOf 27) (by kernel_rfl) (hval 4 27 v4 rfl rfl) h4
  have w0 := wf_u8 (a := x2) i2
  have w1 := wf_i64' (a := x3.1) i3.1
  have w2 := wf_i64' (a := x3.2) i3.2
  have w3 := wf_i64' (a := x4.1) i4.1
  have w4 := wf_i64' (a := x4.2.1) i4.2.1
  have w5 := wf_i64' (a := x4.2.2) i4.2.2
  refine (law_calls (W := W) ok_TLater (args := [.one (.d (.sl (.tp (.ti .i64) (.tp (.tp (.ti .i64) (.ti .i64)) (.ti .i64))) x0)), .one (.d (.sl (.tp (.ti .i64) (.tp (.ti .i64) (.ti .i64))) x1)), .one (.d (.lit (.int .u8 x2))), .agg [.d (.lit (.int .i64 x3.1)), .d (.lit (.int .i64 x3.2))], .agg [.d (.lit (.int .i64 x4.1)), .d (.lit (.int .i64 x4.2.1)), .d (.lit (.int .i64 x4.2.2))]]) rfl (List.forall_mem_cons.2 ⟨by first | assumption | omega | (unfold InI64 at *; omega), List.forall_mem_cons.2 ⟨by first | assumption | omega | (unfold InI64 at *; omega), fun _ h => by cases h⟩⟩) (tabs_none (by kernel_rfl)) (.cons e0 (.cons e1 (.cons e2 (.cons e3 (.cons e4 .nil)))))).mono fun e W' ⟨he, hb⟩ => ?_
  exact ⟨_, he, law_post (tb := 4) laidOut (by kernel_rfl) (by kernel_rfl) (by kernel_rfl) rfl rfl hb hW'⟩
end ZTempoLater
theorem tempoLater_holds : Rows.TempoLaterSaid :=
  OpenClaim.holds_of_wide 6 Try.f6 rfl rfl rfl rfl rfl rfl rfl ⟨rfl, rfl, rfl, rfl, rfl⟩ rfl rfl rfl rfl rfl (by kernel_rfl) Try.func6 (by kernel_rfl)
    (of_decide_eq_true (by kernel_rfl)) (by unfold Func.isWrapper; first | (rw [if_pos (by decide +kernel)]; kernel_rfl) | (rw [if_neg (by decide +kernel)]; exact ⟨rfl, rfl⟩))
    (fun os started H enc _ => ZTempoLater.lifted os started H enc)
end Go.Proofs.Ytjghgdccaakfmaa
