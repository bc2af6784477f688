/- The law PaperLast: its function returns true for all arguments, and leaves them as they were. Written by a program (wip/tools/rows.py) over proofs of its own. -/
import Derived.Test.YtiplcokpckkopaaDoorRows
import Derived.Test.YtiplcokpckkopaaDoorSyZ
import Derived.Test.YtiplcokpckkopaaDoorPaperpk
import Derived.Lib.SmallJoins
import Derived.Test.YtiplcokpckkopaaDoorTb
namespace Go.Proofs.YtiplcokpckkopaaDoor
open Go.Sy Go.ChangeShapes Go.WideShapes Go.ChangeAt Go.RowKit
set_option linter.unusedVariables false
set_option maxRecDepth 100000
namespace ZPaperLast
theorem own : ownKnob Tryd.prog.godebug = none := by kernel_rfl
theorem laidOut : laidOutB Tryd.prog = true := by kernel_rfl
theorem rd3 : Go.Sy.Rd Tryd.prog 3 (.ti .i64) := rd_int (by kernel_rfl) (by kernel_rfl)
theorem rd54 : Go.Sy.Rd Tryd.prog 54 (.tp (.ti .i64) (.ti .i64)) := rd_struct (fs := Tryd.prog.fieldsOf 54) (by kernel_rfl) (by kernel_rfl) (.more (f := (Tryd.prog.fieldsOf 54)[0]!) (r := [(Tryd.prog.fieldsOf 54)[1]!]) (by kernel_rfl) rd3 (.last (by kernel_rfl) rd3))
theorem rd59 : Go.Sy.Rd Tryd.prog 59 (.tp (.ti .i64) (.tp (.ti .i64) (.ti .i64))) := rd_struct (fs := Tryd.prog.fieldsOf 59) (by kernel_rfl) (by kernel_rfl) (.more (f := (Tryd.prog.fieldsOf 59)[0]!) (r := [(Tryd.prog.fieldsOf 59)[1]!, (Tryd.prog.fieldsOf 59)[2]!]) (by kernel_rfl) rd3 (.more (f := (Tryd.prog.fieldsOf 59)[1]!) (r := [(Tryd.prog.fieldsOf 59)[2]!]) (by kernel_rfl) rd3 (.last (by kernel_rfl) rd3)))
theorem rd61 : Go.Sy.Rd Tryd.prog 61 (.tp (.ti .i64) (.tp (.ti .i64) (.tp (.ti .i64) (.tp (.tp (.ti .i64) (.ti .i64)) (.tp (.tp (.ti .i64) (.ti .i64)) (.tp (.ti .i64) (.tp (.ti .i64) (.ti .i64)))))))) := rd_struct (fs := Tryd.prog.fieldsOf 61) (by kernel_rfl) (by kernel_rfl) (.more (f := (Tryd.prog.fieldsOf 61)[0]!) (r := [(Tryd.prog.fieldsOf 61)[1]!, (Tryd.prog.fieldsOf 61)[2]!, (Tryd.prog.fieldsOf 61)[3]!, (Tryd.prog.fieldsOf 61)[4]!, (Tryd.prog.fieldsOf 61)[5]!]) (by kernel_rfl) rd3 (.more (f := (Tryd.prog.fieldsOf 61)[1]!) (r := [(Tryd.prog.fieldsOf 61)[2]!, (Tryd.prog.fieldsOf 61)[3]!, (Tryd.prog.fieldsOf 61)[4]!, (Tryd.prog.fieldsOf 61)[5]!]) (by kernel_rfl) rd3 (.more (f := (Tryd.prog.fieldsOf 61)[2]!) (r := [(Tryd.prog.fieldsOf 61)[3]!, (Tryd.prog.fieldsOf 61)[4]!, (Tryd.prog.fieldsOf 61)[5]!]) (by kernel_rfl) rd3 (.more (f := (Tryd.prog.fieldsOf 61)[3]!) (r := [(Tryd.prog.fieldsOf 61)[4]!, (Tryd.prog.fieldsOf 61)[5]!]) (by kernel_rfl) rd54 (.more (f := (Tryd.prog.fieldsOf 61)[4]!) (r := [(Tryd.prog.fieldsOf 61)[5]!]) (by kernel_rfl) rd54 (.last (by kernel_rfl) rd59))))))
theorem rd49 : Go.Sy.Rd Tryd.prog 49 (.tl (.tp (.ti .i64) (.tp (.ti .i64) (.tp (.ti .i64) (.tp (.tp (.ti .i64) (.ti .i64)) (.tp (.tp (.ti .i64) (.ti .i64)) (.tp (.ti .i64) (.tp (.ti .i64) (.ti .i64))))))))) := rd_slice (e := 61) (by kernel_rfl) (by kernel_rfl) (Nat.lt_of_lt_of_eq (show 0 < 80 by decide) (show 80 = Tryd.prog.bytesOf 61 by kernel_rfl)) rd61
theorem rd56 : Go.Sy.Rd Tryd.prog 56 (.tp (.ti .i64) (.tp (.ti .i64) (.tp (.tp (.ti .i64) (.ti .i64)) (.tl (.tp (.ti .i64) (.tp (.ti .i64) (.tp (.ti .i64) (.tp (.tp (.ti .i64) (.ti .i64)) (.tp (.tp (.ti .i64) (.ti .i64)) (.tp (.ti .i64) (.tp (.ti .i64) (.ti .i64)))))))))))) := rd_struct (fs := Tryd.prog.fieldsOf 56) (by kernel_rfl) (by kernel_rfl) (.more (f := (Tryd.prog.fieldsOf 56)[0]!) (r := [(Tryd.prog.fieldsOf 56)[1]!, (Tryd.prog.fieldsOf 56)[2]!, (Tryd.prog.fieldsOf 56)[3]!]) (by kernel_rfl) rd3 (.more (f := (Tryd.prog.fieldsOf 56)[1]!) (r := [(Tryd.prog.fieldsOf 56)[2]!, (Tryd.prog.fieldsOf 56)[3]!]) (by kernel_rfl) rd3 (.more (f := (Tryd.prog.fieldsOf 56)[2]!) (r := [(Tryd.prog.fieldsOf 56)[3]!]) (by kernel_rfl) rd54 (.last (by kernel_rfl) rd49))))
theorem rd22 : Go.Sy.Rd Tryd.prog 22 (.tl (.tp (.ti .i64) (.tp (.ti .i64) (.tp (.tp (.ti .i64) (.ti .i64)) (.tl (.tp (.ti .i64) (.tp (.ti .i64) (.tp (.ti .i64) (.tp (.tp (.ti .i64) (.ti .i64)) (.tp (.tp (.ti .i64) (.ti .i64)) (.tp (.ti .i64) (.tp (.ti .i64) (.ti .i64))))))))))))) := rd_slice (e := 56) (by kernel_rfl) (by kernel_rfl) (Nat.lt_of_lt_of_eq (show 0 < 56 by decide) (show 56 = Tryd.prog.bytesOf 56 by kernel_rfl)) rd56
theorem rd24 : Go.Sy.Rd Tryd.prog 24 (.tp (.ti .i64) (.tl (.tp (.ti .i64) (.tp (.ti .i64) (.tp (.tp (.ti .i64) (.ti .i64)) (.tl (.tp (.ti .i64) (.tp (.ti .i64) (.tp (.ti .i64) (.tp (.tp (.ti .i64) (.ti .i64)) (.tp (.tp (.ti .i64) (.ti .i64)) (.tp (.ti .i64) (.tp (.ti .i64) (.ti .i64)))))))))))))) := rd_struct (fs := Tryd.prog.fieldsOf 24) (by kernel_rfl) (by kernel_rfl) (.more (f := (Tryd.prog.fieldsOf 24)[0]!) (r := [(Tryd.prog.fieldsOf 24)[1]!]) (by kernel_rfl) rd3 (.last (by kernel_rfl) rd22))
theorem rd52 : Go.Sy.Rd Tryd.prog 52 (.tp (.ti .i64) (.ti .i64)) := rd_struct (fs := Tryd.prog.fieldsOf 52) (by kernel_rfl) (by kernel_rfl) (.more (f := (Tryd.prog.fieldsOf 52)[0]!) (r := [(Tryd.prog.fieldsOf 52)[1]!]) (by kernel_rfl) rd3 (.last (by kernel_rfl) rd3))
theorem rd25 : Go.Sy.Rd Tryd.prog 25 (.tl (.tp (.ti .i64) (.ti .i64))) := rd_slice (e := 52) (by kernel_rfl) (by kernel_rfl) (Nat.lt_of_lt_of_eq (show 0 < 16 by decide) (show 16 = Tryd.prog.bytesOf 52 by kernel_rfl)) rd52
theorem rd27 : Go.Sy.Rd Tryd.prog 27 (.tp (.ti .i64) (.ti .i64)) := rd_struct (fs := Tryd.prog.fieldsOf 27) (by kernel_rfl) (by kernel_rfl) (.more (f := (Tryd.prog.fieldsOf 27)[0]!) (r := [(Tryd.prog.fieldsOf 27)[1]!]) (by kernel_rfl) rd3 (.last (by kernel_rfl) rd3))
theorem rd5 : Go.Sy.Rd Tryd.prog 5 (.ti .u8) := rd_int (by kernel_rfl) (by kernel_rfl)
theorem laid_met (os : Os) : laidMet Tryd.prog Rows.paperLastRow.laid ((tbWorld os).forCall (fun _ _ => 0) ⟨#[], #[.agg #[.int .i64 0, .slice none 0 0], .slice none 0 0, .agg #[.int .i64 0, .int .i64 0], .int .u8 0], []⟩).memory := laidMet_of_run' 8 (by kernel_rfl) (by kernel_rfl)
theorem reads (os : Os) {H : Type} (enc : TypeId × Value → H) : ∃ places, DataW.whole enc Tryd.prog ((tbWorld os).forCall (fun _ _ => 0) ⟨#[], #[.agg #[.int .i64 0, .slice none 0 0], .slice none 0 0, .agg #[.int .i64 0, .int .i64 0], .int .u8 0], []⟩).memory Tryd.f7.params.toList Rows.paperLastSpec.vars false #[.agg #[.int .i64 0, .slice none 0 0], .slice none 0 0, .agg #[.int .i64 0, .int .i64 0], .int .u8 0].toList 8 = some ([.agg [.lit (.int .i64 0), .nil], .nil, .agg [.lit (.int .i64 0), .lit (.int .i64 0)], .lit (.int .u8 0)], [], places) := ⟨[], by kernel_rfl⟩
set_option maxRecDepth 100000 in
theorem lifted (os : Os) (started : os.Started) (H : Type) (enc : TypeId × Value → H) (F : Stop.Interp) :
  ReturnsInHanded {} Tryd.checked os 7 .any ((OpenSpec.ofChange Rows.paperLastSpec).preRow enc Tryd.prog Tryd.f7 Rows.paperLastRow.domain false Rows.paperLastRow.laid) (((OpenSpec.ofChange Rows.paperLastSpec).at F).post enc Tryd.prog Tryd.f7 false true false false) := by
 obtain ⟨places, hx⟩ := reads os enc
 refine returnsInHanded_of_row (C := Tryd.checked) (s := OpenSpec.ofChange Rows.paperLastSpec) own started (by kernel_rfl) Tryd.func7
  (witness_row_at (enc := enc) (C := Tryd.checked) false (tbWorld os) #[.agg #[.int .i64 0, .slice none 0 0], .slice none 0 0, .agg #[.int .i64 0, .int .i64 0], .int .u8 0] rfl (by kernel_rfl) (by kernel_rfl) (by kernel_rfl)
   (OpenSpec.preRow_of_cond 8 hx (by kernel_rfl) (fun k hk => by cases hk) (by kernel_rfl) (laid_met os))) ?_
 intro W base args ds gs before hval0 hW hcnd hcond hrz hLd hsh _
 have htb := tb_of W hLd
 have hval : ∀ (j : Nat) t v, Tryd.f7.params[j]? = some t → args[j]? = some v → Value.okWide Tryd.prog W .any base t v := hval0
 have hW' := hW
 obtain ⟨p, q, hA0, hV, rfl, hfz, hnd⟩ := hW
 have hA : DataW.TrodAll enc Tryd.prog W 0 (fun _ => true) true Tryd.f7.params.toList args.toList ds p := hA0
 rw [Tryd.params7] at hA hval
 obtain ⟨v0, vs0, d0, ds0, p0, q0, ha0, rfl, rfl, h0, hr0⟩ := trodAll_cons hA
 obtain ⟨v1, vs1, d1, ds1, p1, q1, rfl, rfl, rfl, h1, hr1⟩ := trodAll_cons hr0
 obtain ⟨v2, vs2, d2, ds2, p2, q2, rfl, rfl, rfl, h2, hr2⟩ := trodAll_cons hr1
 obtain ⟨v3, vs3, d3, ds3, p3, q3, rfl, rfl, rfl, h3, hr3⟩ := trodAll_cons hr2
 obtain ⟨rfl, rfl, rfl⟩ := trodAll_nil hr3
 have ha : args = #[v0, v1, v2, v3] := by rw [← Array.toArray_toList (xs := args), ha0]
 subst ha
 obtain ⟨x0, i0, e0, b0⟩ := rd24.agg (fs := Tryd.prog.fieldsOf 24) (by kernel_rfl) (hval 0 24 v0 rfl rfl) h0
 obtain ⟨sa1, sl1, sc1, rfl⟩ := okWide_slice (e := 52) (by kernel_rfl) (hval 1 25 v1 rfl rfl)
 obtain ⟨x1, i1, e1, tp1, b1⟩ := rd25.one rfl h1
 obtain ⟨x2, i2, e2, b2⟩ := rd27.agg (fs := Tryd.prog.fieldsOf 27) (by kernel_rfl) (hval 2 27 v2 rfl rfl) h2
 obtain ⟨_, rfl, _, _, _⟩ := open_int (k := .u8) (by kernel_rfl) (hval 3 5 v3 rfl rfl) h3
 obtain ⟨x3, i3, e3, tp3, b3⟩ := rd5.one rfl h3
 have w0 := wf_i64' (a := x0.1) i0.1
 have w1 := wf_i64' (a := x2.1) i2.1
 have w2 := wf_i64' (a := x2.2) i2.2
 have w3 := wf_u8 (a := x3) i3
 have bd0 := b0 (wtB Tryd.prog) 140737488355328 wtBulk (wt_reach hrz (j := 0) rfl rfl)
 have bd1 := b1 (wtB Tryd.prog) 140737488355328 wtBulk (wt_reach hrz (j := 1) rfl rfl)
 have bd2 := b2 (wtB Tryd.prog) 140737488355328 wtBulk (wt_reach hrz (j := 2) rfl rfl)
 have bd3 := b3 (wtB Tryd.prog) 140737488355328 wtBulk (wt_reach hrz (j := 3) rfl rfl)
 have rc1 := Rd.reach (P := Tryd.prog) (e := 52) (b := 140737488355328) (by kernel_rfl) h1 tp1 (fun x y hd => Nat.le_trans (sized_slice hrz (j := 1) rfl (by rw [hd]; rfl) (by kernel_rfl)) (by decide))
 rw [show Tryd.prog.bytesOf 52 = 16 by kernel_rfl] at rc1
 refine (law_calls (W := W) ok_PLast (args := [.agg [.d (.lit (.int .i64 x0.1)), .d (.sl (.tp (.ti .i64) (.tp (.ti .i64) (.tp (.tp (.ti .i64) (.ti .i64)) (.tl (.tp (.ti .i64) (.tp (.ti .i64) (.tp (.ti .i64) (.tp (.tp (.ti .i64) (.ti .i64)) (.tp (.tp (.ti .i64) (.ti .i64)) (.tp (.ti .i64) (.tp (.ti .i64) (.ti .i64)))))))))))) x0.2)], .one (.d (.sl (.tp (.ti .i64) (.ti .i64)) x1)), .agg [.d (.lit (.int .i64 x2.1)), .d (.lit (.int .i64 x2.2))], .one (.d (.lit (.int .u8 x3)))]) rfl (List.forall_mem_cons.2 ⟨by first | assumption | omega | (unfold InI64 at *; omega) | exact ⟨i0.2, bd0.2⟩, List.forall_mem_cons.2 ⟨by first | assumption | omega | (unfold InI64 at *; omega) | exact ⟨i0.2, bd0.2⟩, List.forall_mem_cons.2 ⟨by first | assumption | omega | (unfold InI64 at *; omega) | exact ⟨i0.2, bd0.2⟩, List.forall_mem_cons.2 ⟨by first | assumption | omega | (unfold InI64 at *; omega) | exact ⟨i0.2, bd0.2⟩, List.forall_mem_cons.2 ⟨by first | assumption | omega | (unfold InI64 at *; omega) | exact ⟨i0.2, bd0.2⟩, List.forall_mem_cons.2 ⟨by first | assumption | omega | (unfold InI64 at *; omega) | exact ⟨i0.2, bd0.2⟩, fun _ h => by cases h⟩⟩⟩⟩⟩⟩) htb (.cons e0 (.cons e1 (.cons e2 (.cons e3 .nil))))).mono fun e W' ⟨he, hb⟩ => ?_
 exact ⟨_, he, law_post (tb := 4) laidOut (by kernel_rfl) (by kernel_rfl) (by kernel_rfl) rfl rfl hb hW'⟩
end ZPaperLast
theorem paperLast_holds : Rows.PaperLastSaid :=
 OpenClaim.holds_of_cond 7 Tryd.f7 rfl rfl rfl rfl rfl rfl rfl ⟨rfl, rfl, rfl, rfl, rfl⟩ rfl rfl rfl rfl rfl (by kernel_rfl) Tryd.func7 (by kernel_rfl)
  (of_decide_eq_true (by kernel_rfl)) (by unfold Func.isWrapper; first | (rw [if_pos (by decide +kernel)]; kernel_rfl) | (rw [if_neg (by decide +kernel)]; exact ⟨rfl, rfl⟩))
  (fun os started H enc _ F => by rw [OpenClaim.pre_eq_preRow]; exact ZPaperLast.lifted os started H enc F)
theorem paperLastCard_holds : Rows.PaperLastCardSaid :=
 Claim7.holds_tied_plain_at .later [] _ _ _ _ paperLast_holds (fun _ h => by cases h) (by kernel_rfl) (fun _ h => by cases h) paperLast_row_tie rfl ⟨rfl, rfl⟩ (by kernel_rfl) rfl (fun q fn hf hfn => by
  obtain rfl : q = 7 := Option.some.inj ((show Tryd.prog.funcNamed Rows.paperLastRow.func = some 7 by kernel_rfl).symm.trans hf) |>.symm
  obtain rfl : fn = Tryd.f7 := (Option.some.inj (Tryd.func7.symm.trans hfn)).symm
  refine ⟨by kernel_rfl, fun j t ht => ?_⟩
  rw [Tryd.params7] at ht
  have hm := Array.mem_of_getElem? ht
  simp only [List.mem_toArray, List.mem_cons, List.not_mem_nil, or_false] at hm
  rcases hm with rfl | rfl | rfl | rfl
  ·exact (show Tryd.prog.wantsStandIn 24 = false by kernel_rfl)
  ·exact (show Tryd.prog.wantsStandIn 25 = false by kernel_rfl)
  ·exact (show Tryd.prog.wantsStandIn 27 = false by kernel_rfl)
  ·exact (show Tryd.prog.wantsStandIn 5 = false by kernel_rfl)) (by kernel_rfl)
end Go.Proofs.YtiplcokpckkopaaDoor
