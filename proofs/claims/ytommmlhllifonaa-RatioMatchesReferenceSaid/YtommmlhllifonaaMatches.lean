/- The law that all functions of the ratio package return what the reference returns: it returns true for all arguments, and leaves them as they were. -/
import Derived.Test.YtommmlhllifonaaRw
import Derived.Test.YtommmlhllifonaaSyX
import Derived.Test.YtommmlhllifonaaWc
namespace Go.Proofs.Ytommmlhllifonaa
open Go.Sy Go.RatLaw Go.ChangeShapes Go.WideShapes Go.ChangeAt Go.RowKit

theorem rd3 : Rd Try.prog 3 (.ti .i64) := rd_int (by kernel_rfl) (by kernel_rfl)
theorem rd24 : Rd Try.prog 24 Qt := rd_struct (fs := Try.prog.fieldsOf 24) (by kernel_rfl) (by kernel_rfl) (.more (f := (Try.prog.fieldsOf 24)[0]!) (r := [(Try.prog.fieldsOf 24)[1]!]) (by kernel_rfl) rd3 (.last (by kernel_rfl) rd3))
theorem rd36 : Rd Try.prog 36 (.tl Qt) := rd_slice (e := 24) (by kernel_rfl) (by kernel_rfl) rd24

set_option maxRecDepth 100000 in
theorem matches_lifted (os : Os) (started : os.Started) (H : Type) (enc : TypeId × Value → H) :
    ReturnsInHanded {} Try.checked os 8 .any (Rows.ratioMatchesReferenceSpec.pre6 enc Try.prog Try.f8 Rows.ratioMatchesReferenceRow.domain false) (Rows.ratioMatchesReferenceSpec.post enc Try.prog Try.f8 false true false false) := by
  refine returnsInHanded_of_change (C := Try.checked) own started (by kernel_rfl) Try.func8
    (ChangeSpec.witness6 (enc := enc) (C := Try.checked) false ⟨#[], #[.agg #[.int .i64 0, .int .i64 0], .agg #[.int .i64 0, .int .i64 0], .int .i64 0, .int .i64 0, .slice none 0 0], []⟩ 8 (by kernel_rfl) (by kernel_rfl) (by kernel_rfl) (by kernel_rfl)) ?_
  intro W base args ds gs before hval0 hW hcnd _
  have hval : ∀ (j : Nat) t v, Try.f8.params[j]? = some t → args[j]? = some v → Value.okWide Try.prog W .any base t v := hval0
  have hW' := hW
  obtain ⟨p, q, hA0, hV, rfl, hfz, hnd⟩ := hW
  have hA : DataW.TrodAll enc Try.prog W 0 (fun _ => true) true Try.f8.params.toList args.toList ds p := hA0
  rw [Try.params8] at hA hval
  obtain ⟨v0, vs0, d0, ds0, p0, q0, ha0, rfl, rfl, h0, hr0⟩ := trodAll_cons hA
  obtain ⟨v1, vs1, d1, ds1, p1, q1, rfl, rfl, rfl, h1, hr1⟩ := trodAll_cons hr0
  obtain ⟨v2, vs2, d2, ds2, p2, q2, rfl, rfl, rfl, h2, hr2⟩ := trodAll_cons hr1
  obtain ⟨v3, vs3, d3, ds3, p3, q3, rfl, rfl, rfl, h3, hr3⟩ := trodAll_cons hr2
  obtain ⟨v4, vs4, d4, ds4, p4, q4, rfl, rfl, rfl, h4, hr4⟩ := trodAll_cons hr3
  obtain ⟨rfl, rfl, rfl⟩ := trodAll_nil hr4
  have ha : args = #[v0, v1, v2, v3, v4] := by rw [← Array.toArray_toList (xs := args), ha0]
  subst ha
  obtain ⟨a, b, rfl, _, _⟩ := openQ (hval 0 24 v0 rfl rfl) h0
  obtain ⟨c, d, rfl, _, _⟩ := openQ (hval 1 24 v1 rfl rfl) h1
  obtain ⟨n, rfl, _, _, _⟩ := open_int (k := .i64) (by kernel_rfl) (hval 2 _ v2 rfl rfl) h2
  obtain ⟨m, rfl, _, _, _⟩ := open_int (k := .i64) (by kernel_rfl) (hval 3 _ v3 rfl rfl) h3
  obtain ⟨sa, sl, sc, rfl⟩ := okWide_slice (e := 24) (by kernel_rfl) (hval 4 36 v4 rfl rfl)
  obtain ⟨l, _, hl⟩ := rd36.one rfl h4
  refine (law_calls (W := W) ok8 (args := [Q a b, Q c d, I n, I m, QL l]) rfl (fun c h => ?_) (.cons (VT0.Q W a b) (.cons (VT0.Q W c d) (.cons (VT0.I W _ n) (.cons (VT0.I W _ m) (.cons hl .nil)))))).mono fun e W' ⟨he, hb⟩ => ?_
  · simp only [List.mem_cons, List.not_mem_nil, or_false] at h
    subst h
    exact ⟨rfl, rfl, rfl⟩
  · exact ⟨_, he, law_post (tb := 4) laidOut (by kernel_rfl) (by kernel_rfl) (by kernel_rfl) rfl rfl hb hW'⟩

theorem matches_holds : Rows.RatioMatchesReferenceSaid :=
  OpenClaim.holds_of_wide 8 Try.f8 rfl rfl rfl rfl rfl rfl rfl ⟨rfl, rfl, rfl, rfl, rfl⟩ rfl rfl rfl rfl rfl (by kernel_rfl) Try.func8 (by kernel_rfl)
    (of_decide_eq_true (by kernel_rfl)) (by unfold Func.isWrapper; first | (rw [if_pos (by decide +kernel)]; kernel_rfl) | (rw [if_neg (by decide +kernel)]; exact ⟨rfl, rfl⟩))
    (fun os started H enc _ => matches_lifted os started H enc)
end Go.Proofs.Ytommmlhllifonaa
