/- The law DigestTexts: its function returns true for all arguments, and leaves them as they were. Written by a program (wip/tools/rows.py) over proofs of its own. -/
import Derived.Test.YtiejdafjjneaeaaDoorRows
import Derived.Test.YtiejdafjjneaeaaDoorSyZ
import Derived.Test.YtiejdafjjneaeaaDoorDigestlk
import Derived.Lib.SmallJoins
import Derived.Test.YtiejdafjjneaeaaDoorTb
namespace Go.Proofs.YtiejdafjjneaeaaDoor
open Go.Sy Go.ChangeShapes Go.WideShapes Go.ChangeAt Go.RowKit
set_option linter.unusedVariables false
namespace ZDigestTexts
theorem own : ownKnob Tryd.prog.godebug = none := by kernel_rfl
theorem laidOut : laidOutB Tryd.prog = true := by kernel_rfl
theorem rd23 : Rd Tryd.prog 23 (.ti .u64) := rd_int (by kernel_rfl) (by kernel_rfl)
theorem rd3 : Rd Tryd.prog 3 (.ti .i64) := rd_int (by kernel_rfl) (by kernel_rfl)
theorem rd24 : Rd Tryd.prog 24 (.tl (.ti .i64)) := rd_slice (e := 3) (by kernel_rfl) (by kernel_rfl) rd3
theorem rd33 : Rd Tryd.prog 33 (.ti .u16) := rd_int (by kernel_rfl) (by kernel_rfl)
theorem rd5 : Rd Tryd.prog 5 (.ti .u8) := rd_int (by kernel_rfl) (by kernel_rfl)
theorem laid_met (os : Os) : laidMet Tryd.prog Rows.digestTextsRow.laid ((tbWorld os).forCall (fun _ _ => 0) ⟨#[], #[.int .u64 0, .slice none 0 0, .int .u16 0, .int .u8 0], []⟩).memory := laidMet_of_run' 8 (by kernel_rfl) (by kernel_rfl)
theorem reads (os : Os) {H : Type} (enc : TypeId × Value → H) : ∃ places, DataW.whole enc Tryd.prog ((tbWorld os).forCall (fun _ _ => 0) ⟨#[], #[.int .u64 0, .slice none 0 0, .int .u16 0, .int .u8 0], []⟩).memory Tryd.f6.params.toList Rows.digestTextsSpec.vars false #[.int .u64 0, .slice none 0 0, .int .u16 0, .int .u8 0].toList 8 = some ([.lit (.int .u64 0), .nil, .lit (.int .u16 0), .lit (.int .u8 0)], [], places) := ⟨[], by kernel_rfl⟩
set_option maxRecDepth 100000 in
theorem lifted (os : Os) (started : os.Started) (H : Type) (enc : TypeId × Value → H) (F : Stop.Interp) :
    ReturnsInHanded {} Tryd.checked os 6 .any ((OpenSpec.ofChange Rows.digestTextsSpec).preRow enc Tryd.prog Tryd.f6 Rows.digestTextsRow.domain false Rows.digestTextsRow.laid) (((OpenSpec.ofChange Rows.digestTextsSpec).at F).post enc Tryd.prog Tryd.f6 false true false false) := by
  obtain ⟨places, hx⟩ := reads os enc
  refine returnsInHanded_of_row (C := Tryd.checked) (s := OpenSpec.ofChange Rows.digestTextsSpec) own started (by kernel_rfl) Tryd.func6
    (witness_row_at (enc := enc) (C := Tryd.checked) false (tbWorld os) #[.int .u64 0, .slice none 0 0, .int .u16 0, .int .u8 0] rfl (by kernel_rfl) (by kernel_rfl) (by kernel_rfl)
      (OpenSpec.preRow_of_cond 8 hx (by kernel_rfl) (fun k hk => by cases hk) (by kernel_rfl) (laid_met os))) ?_
  intro W base args ds gs before hval0 hW hcnd hcond hrz hLd hsh _
  have htb := tb_of W hLd
  have hval : ∀ (j : Nat) t v, Tryd.f6.params[j]? = some t → args[j]? = some v → Value.okWide Tryd.prog W .any base t v := hval0
  have hW' := hW
  obtain ⟨p, q, hA0, hV, rfl, hfz, hnd⟩ := hW
  have hA : DataW.TrodAll enc Tryd.prog W 0 (fun _ => true) true Tryd.f6.params.toList args.toList ds p := hA0
  rw [Tryd.params6] at hA hval
  obtain ⟨v0, vs0, d0, ds0, p0, q0, ha0, rfl, rfl, h0, hr0⟩ := trodAll_cons hA
  obtain ⟨v1, vs1, d1, ds1, p1, q1, rfl, rfl, rfl, h1, hr1⟩ := trodAll_cons hr0
  obtain ⟨v2, vs2, d2, ds2, p2, q2, rfl, rfl, rfl, h2, hr2⟩ := trodAll_cons hr1
  obtain ⟨v3, vs3, d3, ds3, p3, q3, rfl, rfl, rfl, h3, hr3⟩ := trodAll_cons hr2
  obtain ⟨rfl, rfl, rfl⟩ := trodAll_nil hr3
  have ha : args = #[v0, v1, v2, v3] := by rw [← Array.toArray_toList (xs := args), ha0]
  subst ha
  obtain ⟨_, rfl, _, _, _⟩ := open_int (k := .u64) (by kernel_rfl) (hval 0 23 v0 rfl rfl) h0
  obtain ⟨x0, i0, e0, tp0, b0⟩ := rd23.one rfl h0
  obtain ⟨sa1, sl1, sc1, rfl⟩ := okWide_slice (e := 3) (by kernel_rfl) (hval 1 24 v1 rfl rfl)
  obtain ⟨x1, i1, e1, tp1, b1⟩ := rd24.one rfl h1
  obtain ⟨_, rfl, _, _, _⟩ := open_int (k := .u16) (by kernel_rfl) (hval 2 33 v2 rfl rfl) h2
  obtain ⟨x2, i2, e2, tp2, b2⟩ := rd33.one rfl h2
  obtain ⟨_, rfl, _, _, _⟩ := open_int (k := .u8) (by kernel_rfl) (hval 3 5 v3 rfl rfl) h3
  obtain ⟨x3, i3, e3, tp3, b3⟩ := rd5.one rfl h3
  have w0 := wf_u64 (a := x0) i0
  have w1 := wf_u16 (a := x2) i2
  have w2 := wf_u8 (a := x3) i3
  have rc1 := Rd.reach (P := Tryd.prog) (e := 3) (b := 140737488355328) (by kernel_rfl) h1 tp1 (fun x y hd => Nat.le_trans (sized_slice hrz (j := 1) rfl (by rw [hd]; rfl) (by kernel_rfl)) (by decide))
  rw [show Tryd.prog.bytesOf 3 = 8 by kernel_rfl] at rc1
  refine (law_calls (W := W) ok_DTexts (args := [.one (.d (.lit (.int .u64 x0))), .one (.d (.sl (.ti .i64) x1)), .one (.d (.lit (.int .u16 x2))), .one (.d (.lit (.int .u8 x3)))]) rfl (List.forall_mem_cons.2 ⟨by first | assumption | omega | (unfold InI64 at *; omega) | exact fun u hu => wf_i64' (i1 u hu), List.forall_mem_cons.2 ⟨by first | assumption | omega | (unfold InI64 at *; omega) | exact fun u hu => wf_i64' (i1 u hu), List.forall_mem_cons.2 ⟨by first | assumption | omega | (unfold InI64 at *; omega) | exact fun u hu => wf_i64' (i1 u hu), List.forall_mem_cons.2 ⟨by first | assumption | omega | (unfold InI64 at *; omega) | exact fun u hu => wf_i64' (i1 u hu), List.forall_mem_cons.2 ⟨by first | assumption | omega | (unfold InI64 at *; omega) | exact fun u hu => wf_i64' (i1 u hu), fun _ h => by cases h⟩⟩⟩⟩⟩) htb (.cons e0 (.cons e1 (.cons e2 (.cons e3 .nil))))).mono fun e W' ⟨he, hb⟩ => ?_
  exact ⟨_, he, law_post (tb := 4) laidOut (by kernel_rfl) (by kernel_rfl) (by kernel_rfl) rfl rfl hb hW'⟩
end ZDigestTexts
theorem digestTexts_holds : Rows.DigestTextsSaid :=
  OpenClaim.holds_of_cond 6 Tryd.f6 rfl rfl rfl rfl rfl rfl rfl ⟨rfl, rfl, rfl, rfl, rfl⟩ rfl rfl rfl rfl rfl (by kernel_rfl) Tryd.func6 (by kernel_rfl)
    (of_decide_eq_true (by kernel_rfl)) (by unfold Func.isWrapper; first | (rw [if_pos (by decide +kernel)]; kernel_rfl) | (rw [if_neg (by decide +kernel)]; exact ⟨rfl, rfl⟩))
    (fun os started H enc _ F => by rw [OpenClaim.pre_eq_preRow]; exact ZDigestTexts.lifted os started H enc F)
theorem digestTextsCard_holds : Rows.DigestTextsCardSaid :=
  Claim7.holds_tied_plain_at .later [] _ _ _ _ digestTexts_holds (fun _ h => by cases h) (by kernel_rfl) (fun _ h => by cases h) digestTexts_row_tie rfl ⟨rfl, rfl⟩ (by kernel_rfl) rfl (fun q fn hf hfn => by
    obtain rfl : q = 6 := Option.some.inj ((show Tryd.prog.funcNamed Rows.digestTextsRow.func = some 6 by kernel_rfl).symm.trans hf) |>.symm
    obtain rfl : fn = Tryd.f6 := (Option.some.inj (Tryd.func6.symm.trans hfn)).symm
    refine ⟨by kernel_rfl, fun j t ht => ?_⟩
    rw [Tryd.params6] at ht
    have hm := Array.mem_of_getElem? ht
    simp only [List.mem_toArray, List.mem_cons, List.not_mem_nil, or_false] at hm
    rcases hm with rfl | rfl | rfl | rfl
    · exact (show Tryd.prog.wantsStandIn 23 = false by kernel_rfl)
    · exact (show Tryd.prog.wantsStandIn 24 = false by kernel_rfl)
    · exact (show Tryd.prog.wantsStandIn 33 = false by kernel_rfl)
    · exact (show Tryd.prog.wantsStandIn 5 = false by kernel_rfl)) (by kernel_rfl)
end Go.Proofs.YtiejdafjjneaeaaDoor
