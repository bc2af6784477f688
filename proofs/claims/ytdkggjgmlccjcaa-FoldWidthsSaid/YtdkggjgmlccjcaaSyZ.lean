/- A verified generator of conditions for this program, and its soundness: part 5 of the proof. -/
import Derived.Test.YtdkggjgmlccjcaaSyX
import Derived.RowKit
import Derived.SizedLaws
namespace Go.Sy
open Go.ChangeShapes Go.WideShapes
variable {P : Program}

theorem Rd.agg {t : TypeId} {τ : Ty} (r : Rd P t τ) {H : Type} {enc : TypeId × Value → H} {w : World} {base : Nat} {spare : Nat → Bool} {held : Bool} {v : Value} {d : DataW H} {p : List MemPlace} {fs : Array Field} {re : Reach} {b0 : Nat}
  (hs : P.underlying t = some (.struct fs)) (hv : Value.okWide P w re b0 t v) (h : DataW.Trod enc P w base spare held t v d p) : ∃ x : τ.T, τ.In x ∧ VT0 w (.agg (dcells (τ.enc x) 0 τ.size)) v ∧ ∀ bk B, Bulk P bk → bk t d ≤ B → τ.Bd B x := by
 obtain ⟨cs, rfl, _⟩ := okWide_struct hs hv
 obtain ⟨fuel, hf⟩ := h
 obtain ⟨x, hx, ⟨hl, hc⟩, _, hbd⟩ := r.2.2 hf
 refine ⟨x, hx, ⟨cs, rfl, All2.of_get (by rw [dcells_len]; exact hl.symm) fun i a b ha hb => ?_⟩, hbd⟩
 have hi : i < τ.size := by
  have := (List.getElem?_eq_some_iff.1 ha).1
  rwa [dcells_len] at this
 rw [dcells_get _ _ _ _ hi] at ha
 injection ha with ha
 rw [← ha]
 exact VL.d (by rw [Nat.zero_add]; exact hc i b hb)
theorem wf_i64' {a : Int} (h : (Lit.int .i64 a).wf = true) : InI64 a := by
 simp only [Lit.wf, Bool.and_eq_true, decide_eq_true_eq] at h
 exact h
theorem wf_nat {k : IntKind} {a : Int} (h : (Lit.int k a).wf = true) : k.min ≤ a ∧ a ≤ k.max := by
 simp only [Lit.wf, Bool.and_eq_true, decide_eq_true_eq] at h
 exact h
theorem wf_u8 {a : Int} (h : (Lit.int .u8 a).wf = true) : 0 ≤ a ∧ a ≤ 255 := wf_nat h
theorem wf_u16 {a : Int} (h : (Lit.int .u16 a).wf = true) : 0 ≤ a ∧ a ≤ 65535 := wf_nat h
theorem wf_u32 {a : Int} (h : (Lit.int .u32 a).wf = true) : 0 ≤ a ∧ a ≤ 4294967295 := wf_nat h
theorem wf_u64 {a : Int} (h : (Lit.int .u64 a).wf = true) : 0 ≤ a ∧ a ≤ 18446744073709551615 := wf_nat h
theorem wf_i32 {a : Int} (h : (Lit.int .i32 a).wf = true) : -2147483648 ≤ a ∧ a ≤ 2147483647 := wf_nat h

/-! the bytes of what is read, as a measure -/
def wtM : List Nat → Nat
 | [] => 0
 | a :: r => if a ≤ wtM r then wtM r else a
theorem wtM_ge : ∀ {l : List Nat} {n : Nat}, n ∈ l → n ≤ wtM l
 | a :: r, n, h => by
  unfold wtM
  rcases List.mem_cons.1 h with rfl | h
  ·split <;> omega
  ·have := wtM_ge h
   split <;> omega
theorem wtM_le {B : Nat} : ∀ {l : List Nat}, (∀ n ∈ l, n ≤ B) → wtM l ≤ B
 | [], _ => Nat.zero_le _
 | a :: r, h => by
  unfold wtM
  have h1 := h a (by simp)
  have h2 := wtM_le fun n hn => h n (List.mem_cons_of_mem _ hn)
  split <;> omega
theorem wtM_mono {l m : List Nat} (h : ∀ n ∈ l, n ∈ m) : wtM l ≤ wtM m := wtM_le fun n hn => wtM_ge (h n hn)
def wtB (P : Program) {H : Type} (t : TypeId) (d : DataW H) : Nat := wtM (d.weights P t)
theorem wt_all {H : Type} {e : TypeId} {d : DataW H} : ∀ {l : List (DataW H)}, d ∈ l → ∀ n ∈ d.weights P e, n ∈ DataW.weightsAll P e l
 | x :: r, h, n, hn => by
  simp only [DataW.weightsAll, List.mem_append]
  rcases List.mem_cons.1 h with rfl | h
  ·exact .inl hn
  ·exact .inr (wt_all h n hn)
theorem wtBulk {H : Type} : Bulk (H := H) P (wtB P) where
 len := fun t e l r h hb => by
  refine Nat.le_trans ?_ (wtM_ge (n := (l.length + r.length) * P.bytesOf e) (by simp [DataW.weights, h]))
  exact Nat.le_trans (Nat.le_add_right _ r.length) (Nat.le_mul_of_pos_right _ hb)
 el := fun t e l r d h hd => wtM_mono fun n hn => by
  simp only [DataW.weights, h, List.mem_cons, List.mem_append]
  exact .inr (.inl (wt_all hd n hn))
 part := fun t fs l f d j h hf hd => wtM_mono fun n hn => by
  simp only [DataW.weights, h]
  exact DataW.weights_mem_each (by rw [List.getElem?_map, hf]; rfl) hd n hn
 str := fun t s => wtM_ge (by simp [DataW.weights])
theorem wt_reach {H : Type} {ts : List TypeId} {ds : List (DataW H)} (h : (DataW.weightsEach P ts ds).all (· ≤ reachBytes) = true) {j : Nat} {t : TypeId} {d : DataW H} (ht : ts[j]? = some t) (hd : ds[j]? = some d) : wtB P t d ≤ 140737488355328 :=
 wtM_le fun n hn => by
  have := of_decide_eq_true (List.all_eq_true.1 h _ (DataW.weights_mem_each ht hd n hn))
  exact Nat.le_trans this (by decide)
end Go.Sy
