/- A verified generator of conditions for this program, and its soundness: part 5 of the proof. -/
import Derived.Test.YtcklbglladijlaaSyX
import Derived.RowKit
import Derived.SizedLaws
namespace Go.Sy
open Go.ChangeShapes Go.WideShapes
variable {P : Program}

theorem Rd.agg {t : TypeId} {τ : Ty} (r : Rd P t τ) {H : Type} {enc : TypeId × Value → H} {w : World} {base : Nat} {spare : Nat → Bool} {held : Bool} {v : Value} {d : DataW H} {p : List MemPlace} {fs : Array Field} {re : Reach} {b0 : Nat}
  (hs : P.underlying t = some (.struct fs)) (hv : Value.okWide P w re b0 t v) (h : DataW.Trod enc P w base spare held t v d p) : ∃ x : τ.T, τ.In x ∧ VT0 w (.agg (dcells (τ.enc x) 0 τ.size)) v ∧ ∀ bk B, Bulk P bk → bk t d ≤ B → τ.Bd B x := by
 obtain ⟨cs, rfl, _⟩ := okWide_struct hs hv
 obtain ⟨fuel, hf⟩ := h
 obtain ⟨x, hx, ⟨hl, hc⟩, _, hbd⟩ := r.2.2 hf
 refine ⟨x, hx, ⟨cs, rfl, All2.of_get (by rw [dcells_len]; exact hl.symm) fun i a b ha hb => ?_⟩, hbd⟩
 have hi : i < τ.size := by
  have := (List.getElem?_eq_some_iff.1 ha).1
  rwa [dcells_len] at this
 rw [dcells_get _ _ _ _ hi] at ha
 injection ha with ha
 rw [← ha]
 exact VL.d (by rw [Nat.zero_add]; exact hc i b hb)
theorem wf_i64' {a : Int} (h : (Lit.int .i64 a).wf = true) : InI64 a := by
 simp only [Lit.wf, Bool.and_eq_true, decide_eq_true_eq] at h
 exact h
theorem wf_nat {k : IntKind} {a : Int} (h : (Lit.int k a).wf = true) : k.min ≤ a ∧ a ≤ k.max := by
 simp only [Lit.wf, Bool.and_eq_true, decide_eq_true_eq] at h
 exact h
theorem wf_u8 {a : Int} (h : (Lit.int .u8 a).wf = true) : 0 ≤ a ∧ a ≤ 255 := wf_nat h
/-! the bytes of what is read, as a measure -/
end Go.Sy
