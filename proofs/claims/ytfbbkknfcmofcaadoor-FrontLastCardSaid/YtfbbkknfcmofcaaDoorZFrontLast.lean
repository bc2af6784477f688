/- The law FrontLast: its function returns true for all arguments, and leaves them as they were. Written by a program (wip/tools/rows.py) over proofs of its own. -/
import Derived.Test.YtfbbkknfcmofcaaDoorRows
import Derived.Test.YtfbbkknfcmofcaaDoorSyZ
import Derived.Test.YtfbbkknfcmofcaaDoorFrontqk
import Derived.Lib.SmallJoins
import Derived.Test.YtfbbkknfcmofcaaDoorTb
namespace Go.Proofs.YtfbbkknfcmofcaaDoor
open Go.Sy Go.ChangeShapes Go.WideShapes Go.ChangeAt Go.RowKit
set_option linter.unusedVariables false
set_option maxRecDepth 100000
namespace ZFrontLast
theorem own : ownKnob Tryd.prog.godebug = none := by kernel_rfl
theorem laidOut : laidOutB Tryd.prog = true := by kernel_rfl
theorem rd3 : Go.Sy.Rd Tryd.prog 3 (.ti .i64) := rd_int (by kernel_rfl) (by kernel_rfl)
theorem rd23 : Go.Sy.Rd Tryd.prog 23 (.ti .u64) := rd_int (by kernel_rfl) (by kernel_rfl)
theorem rd40 : Go.Sy.Rd Tryd.prog 40 (.tp (.ti .i64) (.tp (.ti .i64) (.tp (.ti .i64) (.tp (.ti .i64) (.tp (.ti .i64) (.ti .u64)))))) := rd_struct (fs := Tryd.prog.fieldsOf 40) (by kernel_rfl) (by kernel_rfl) (.more (f := (Tryd.prog.fieldsOf 40)[0]!) (r := [(Tryd.prog.fieldsOf 40)[1]!, (Tryd.prog.fieldsOf 40)[2]!, (Tryd.prog.fieldsOf 40)[3]!, (Tryd.prog.fieldsOf 40)[4]!, (Tryd.prog.fieldsOf 40)[5]!]) (by kernel_rfl) rd3 (.more (f := (Tryd.prog.fieldsOf 40)[1]!) (r := [(Tryd.prog.fieldsOf 40)[2]!, (Tryd.prog.fieldsOf 40)[3]!, (Tryd.prog.fieldsOf 40)[4]!, (Tryd.prog.fieldsOf 40)[5]!]) (by kernel_rfl) rd3 (.more (f := (Tryd.prog.fieldsOf 40)[2]!) (r := [(Tryd.prog.fieldsOf 40)[3]!, (Tryd.prog.fieldsOf 40)[4]!, (Tryd.prog.fieldsOf 40)[5]!]) (by kernel_rfl) rd3 (.more (f := (Tryd.prog.fieldsOf 40)[3]!) (r := [(Tryd.prog.fieldsOf 40)[4]!, (Tryd.prog.fieldsOf 40)[5]!]) (by kernel_rfl) rd3 (.more (f := (Tryd.prog.fieldsOf 40)[4]!) (r := [(Tryd.prog.fieldsOf 40)[5]!]) (by kernel_rfl) rd3 (.last (by kernel_rfl) rd23))))))
theorem rd22 : Go.Sy.Rd Tryd.prog 22 (.tl (.tp (.ti .i64) (.tp (.ti .i64) (.tp (.ti .i64) (.tp (.ti .i64) (.tp (.ti .i64) (.ti .u64))))))) := rd_slice (e := 40) (by kernel_rfl) (by kernel_rfl) (Nat.lt_of_lt_of_eq (show 0 < 48 by decide) (show 48 = Tryd.prog.bytesOf 40 by kernel_rfl)) rd40
theorem rd25 : Go.Sy.Rd Tryd.prog 25 (.tp (.ti .i64) (.tp (.tl (.tp (.ti .i64) (.tp (.ti .i64) (.tp (.ti .i64) (.tp (.ti .i64) (.tp (.ti .i64) (.ti .u64))))))) (.ti .u64))) := rd_struct (fs := Tryd.prog.fieldsOf 25) (by kernel_rfl) (by kernel_rfl) (.more (f := (Tryd.prog.fieldsOf 25)[0]!) (r := [(Tryd.prog.fieldsOf 25)[1]!, (Tryd.prog.fieldsOf 25)[2]!]) (by kernel_rfl) rd3 (.more (f := (Tryd.prog.fieldsOf 25)[1]!) (r := [(Tryd.prog.fieldsOf 25)[2]!]) (by kernel_rfl) rd22 (.last (by kernel_rfl) rd23)))
theorem laid_met (os : Os) : laidMet Tryd.prog Rows.frontLastRow.laid ((tbWorld os).forCall (fun _ _ => 0) ⟨#[], #[.agg #[.int .i64 0, .slice none 0 0, .int .u64 0]], []⟩).memory := laidMet_of_run' 8 (by kernel_rfl) (by kernel_rfl)
theorem reads (os : Os) {H : Type} (enc : TypeId × Value → H) : ∃ places, DataW.whole enc Tryd.prog ((tbWorld os).forCall (fun _ _ => 0) ⟨#[], #[.agg #[.int .i64 0, .slice none 0 0, .int .u64 0]], []⟩).memory Tryd.f7.params.toList Rows.frontLastSpec.vars false #[.agg #[.int .i64 0, .slice none 0 0, .int .u64 0]].toList 8 = some ([.agg [.lit (.int .i64 0), .nil, .lit (.int .u64 0)]], [], places) := ⟨[], by kernel_rfl⟩
set_option maxRecDepth 100000 in
theorem lifted (os : Os) (started : os.Started) (H : Type) (enc : TypeId × Value → H) (F : Stop.Interp) :
    ReturnsInHanded {} Tryd.checked os 7 .any ((OpenSpec.ofChange Rows.frontLastSpec).preRow enc Tryd.prog Tryd.f7 Rows.frontLastRow.domain false Rows.frontLastRow.laid) (((OpenSpec.ofChange Rows.frontLastSpec).at F).post enc Tryd.prog Tryd.f7 false true false false) := by
  obtain ⟨places, hx⟩ := reads os enc
  refine returnsInHanded_of_row (C := Tryd.checked) (s := OpenSpec.ofChange Rows.frontLastSpec) own started (by kernel_rfl) Tryd.func7
    (witness_row_at (enc := enc) (C := Tryd.checked) false (tbWorld os) #[.agg #[.int .i64 0, .slice none 0 0, .int .u64 0]] rfl (by kernel_rfl) (by kernel_rfl) (by kernel_rfl)
      (OpenSpec.preRow_of_cond 8 hx (by kernel_rfl) (fun k hk => by cases hk) (by kernel_rfl) (laid_met os))) ?_
  intro W base args ds gs before hval0 hW hcnd hcond hrz hLd hsh _
  have htb := tb_of W hLd
  have hval : ∀ (j : Nat) t v, Tryd.f7.params[j]? = some t → args[j]? = some v → Value.okWide Tryd.prog W .any base t v := hval0
  have hW' := hW
  obtain ⟨p, q, hA0, hV, rfl, hfz, hnd⟩ := hW
  have hA : DataW.TrodAll enc Tryd.prog W 0 (fun _ => true) true Tryd.f7.params.toList args.toList ds p := hA0
  rw [Tryd.params7] at hA hval
  obtain ⟨v0, vs0, d0, ds0, p0, q0, ha0, rfl, rfl, h0, hr0⟩ := trodAll_cons hA
  obtain ⟨rfl, rfl, rfl⟩ := trodAll_nil hr0
  have ha : args = #[v0] := by rw [← Array.toArray_toList (xs := args), ha0]
  subst ha
  obtain ⟨x0, i0, e0, b0⟩ := rd25.agg (fs := Tryd.prog.fieldsOf 25) (by kernel_rfl) (hval 0 25 v0 rfl rfl) h0
  have w0 := wf_i64' (a := x0.1) i0.1
  have w1 := wf_u64 (a := x0.2.2) i0.2.2
  have bd0 := b0 (wtB Tryd.prog) 140737488355328 wtBulk (wt_reach hrz (j := 0) rfl rfl)
  refine (law_calls (W := W) ok_FLast (args := [.agg [.d (.lit (.int .i64 x0.1)), .d (.sl (.tp (.ti .i64) (.tp (.ti .i64) (.tp (.ti .i64) (.tp (.ti .i64) (.tp (.ti .i64) (.ti .u64)))))) x0.2.1), .d (.lit (.int .u64 x0.2.2))]]) rfl (List.forall_mem_cons.2 ⟨by first | assumption | omega | (unfold InI64 at *; omega) | exact fun e he => ⟨wf_i64' (i0.2.1 e he).1, wf_i64' (i0.2.1 e he).2.1, wf_i64' (i0.2.1 e he).2.2.1, wf_i64' (i0.2.1 e he).2.2.2.1, wf_i64' (i0.2.1 e he).2.2.2.2.1, (wf_u64 (i0.2.1 e he).2.2.2.2.2).1, by have := (wf_u64 (i0.2.1 e he).2.2.2.2.2).2; omega⟩, List.forall_mem_cons.2 ⟨by first | assumption | omega | (unfold InI64 at *; omega) | exact fun e he => ⟨wf_i64' (i0.2.1 e he).1, wf_i64' (i0.2.1 e he).2.1, wf_i64' (i0.2.1 e he).2.2.1, wf_i64' (i0.2.1 e he).2.2.2.1, wf_i64' (i0.2.1 e he).2.2.2.2.1, (wf_u64 (i0.2.1 e he).2.2.2.2.2).1, by have := (wf_u64 (i0.2.1 e he).2.2.2.2.2).2; omega⟩, fun _ h => by cases h⟩⟩) htb (.cons e0 .nil)).mono fun e W' ⟨he, hb⟩ => ?_
  exact ⟨_, he, law_post (tb := 4) laidOut (by kernel_rfl) (by kernel_rfl) (by kernel_rfl) rfl rfl hb hW'⟩
end ZFrontLast
theorem frontLast_holds : Rows.FrontLastSaid :=
  OpenClaim.holds_of_cond 7 Tryd.f7 rfl rfl rfl rfl rfl rfl rfl ⟨rfl, rfl, rfl, rfl, rfl⟩ rfl rfl rfl rfl rfl (by kernel_rfl) Tryd.func7 (by kernel_rfl)
    (of_decide_eq_true (by kernel_rfl)) (by unfold Func.isWrapper; first | (rw [if_pos (by decide +kernel)]; kernel_rfl) | (rw [if_neg (by decide +kernel)]; exact ⟨rfl, rfl⟩))
    (fun os started H enc _ F => by rw [OpenClaim.pre_eq_preRow]; exact ZFrontLast.lifted os started H enc F)
theorem frontLastCard_holds : Rows.FrontLastCardSaid :=
  Claim7.holds_tied_plain_at .later [] _ _ _ _ frontLast_holds (fun _ h => by cases h) (by kernel_rfl) (fun _ h => by cases h) frontLast_row_tie rfl ⟨rfl, rfl⟩ (by kernel_rfl) rfl (fun q fn hf hfn => by
    obtain rfl : q = 7 := Option.some.inj ((show Tryd.prog.funcNamed Rows.frontLastRow.func = some 7 by kernel_rfl).symm.trans hf) |>.symm
    obtain rfl : fn = Tryd.f7 := (Option.some.inj (Tryd.func7.symm.trans hfn)).symm
    refine ⟨by kernel_rfl, fun j t ht => ?_⟩
    rw [Tryd.params7] at ht
    have hm := Array.mem_of_getElem? ht
    simp only [List.mem_toArray, List.mem_cons, List.not_mem_nil, or_false] at hm
    rcases hm with rfl
    · exact (show Tryd.prog.wantsStandIn 25 = false by kernel_rfl)) (by kernel_rfl)
end Go.Proofs.YtfbbkknfcmofcaaDoor
