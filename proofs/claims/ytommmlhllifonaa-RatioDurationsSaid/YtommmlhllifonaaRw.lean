/- How a ratio among a law's arguments is read. -/
import Derived.Test.YtommmlhllifonaaRows
import Derived.Test.YtommmlhllifonaaSyW
import Derived.Lib.SmallJoins
import Derived.Test.YtommmlhllifonaaCons
namespace Go.Proofs.Ytommmlhllifonaa
open Go.Sy Go.RatLaw Go.ChangeShapes Go.WideShapes Go.ChangeAt Go.RowKit

theorem own : ownKnob Try.prog.godebug = none := by kernel_rfl
theorem laidOut : laidOutB Try.prog = true := by kernel_rfl

theorem wf_i64 {a : Int} (h : (Lit.int .i64 a).wf = true) : InI64 a := by
  simp only [Lit.wf, Bool.and_eq_true, decide_eq_true_eq] at h
  exact h
theorem openQ {H : Type} {enc : TypeId × Value → H} {W : World} {base b0 : Nat} {v : Value} {d : DataW H} {p : List MemPlace} (hv : Value.okWide Try.prog W .any b0 24 v) (h : DataW.Trod enc Try.prog W base (fun _ => true) true 24 v d p) :
    ∃ a b, v = .agg #[.int .i64 a, .int .i64 b] ∧ InI64 a ∧ InI64 b := by
  obtain ⟨v0, v1, y0, y1, n, rfl, _, _, h0, h1⟩ := Joins.open_agg2 (P := Try.prog) (t := 24) (f0 := (Try.prog.fieldsOf 24)[0]!) (f1 := (Try.prog.fieldsOf 24)[1]!) (by kernel_rfl) (by kernel_rfl) (by kernel_rfl) hv h
  obtain ⟨a, ha, _, wa⟩ := DataW.trod_int (k := .i64) (by kernel_rfl) h0
  obtain ⟨b, hb, _, wb⟩ := DataW.trod_int (k := .i64) (by kernel_rfl) h1
  injection ha with ha; injection hb with hb; subst ha hb
  exact ⟨a, b, rfl, wf_i64 wa, wf_i64 wb⟩
theorem VT0.Q (W : World) (a b : Int) : VT0 W (Q a b) (.agg #[.int .i64 a, .int .i64 b]) := ⟨_, rfl, .cons (.d (.lit rfl)) (.cons (.d (.lit rfl)) .nil)⟩

theorem VT0.I (W : World) (k : IntKind) (a : Int) : VT0 W (.one (.d (.lit (.int k a)))) (.int k a) := .d (.lit rfl)
end Go.Proofs.Ytommmlhllifonaa
