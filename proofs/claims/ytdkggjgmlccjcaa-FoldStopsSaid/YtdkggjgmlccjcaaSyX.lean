/- A verified generator of conditions for this program, and its soundness: part X of the proof. -/
import Derived.Test.YtdkggjgmlccjcaaSyW
namespace Go.Sy
open Go.ChangeShapes Go.WideShapes
variable {P : Program}

/-! an argument that is read, as a plain value -/
/-- integers are in their kind's range -/
def Ty.In : (τ : Ty) → τ.T → Prop
  | .tu, _ => True
  | .ti k, n => (Lit.int k n).wf = true
  | .tb, _ => True
  | .ts, _ => True
  | .tp x y, v => x.In v.1 ∧ y.In v.2
  | .tl x, v => ∀ u, u ∈ (show List x.T from v) → x.In u

/-- cells that hold a plain value -/
def CellsOf (w : World) (τ : Ty) (v : τ.T) (cs : List Value) : Prop := cs.length = τ.size ∧ ∀ (j : Nat) u, cs[j]? = some u → VD w M0 (τ.enc v j) u
/-- whatever is read at type t is a plain value of type τ -/
def Rd (P : Program) (t : TypeId) (τ : Ty) : Prop := P.cellsOf t = τ.size ∧ 0 < τ.size ∧
  ∀ {H : Type} {enc : TypeId × Value → H} {w : World} {base : Nat} {spare : Nat → Bool} {held : Bool} {fuel : Nat} {cs : List Value} {x : DataW H × List MemPlace}, DataW.trod enc P w base spare held fuel t cs = some x → ∃ v : τ.T, τ.In v ∧ CellsOf w τ v cs

theorem rd_int {t : TypeId} {k : IntKind} (h : P.underlying t = some (.int k)) (hc : P.cellsOf t = 1) : Rd P t (.ti k) := by
  refine ⟨hc, Nat.one_pos, fun hx => ?_⟩
  obtain ⟨n, rfl, _, hw⟩ := DataW.trod_int h hx
  refine ⟨n, hw, rfl, fun j u hu => ?_⟩
  cases j with
  | zero => simp at hu; subst hu; exact .lit rfl
  | succ j => simp at hu
theorem rd_slice {t e : TypeId} {τ : Ty} (h : P.underlying t = some (.slice e)) (hc : P.cellsOf t = 1) (r : Rd P e τ) : Rd P t (.tl τ) := by
  obtain ⟨r1, r0, r2⟩ := r
  refine ⟨hc, Nat.one_pos, fun {H enc w base spare held fuel cs x} hx => ?_⟩
  rcases DataW.trod_slice h hx with ⟨rfl, _⟩ | ⟨a, len, cap, elems, rest, n, _, rfl, _, hb, hl, hm, he, hi, _, _⟩
  · refine ⟨[], fun u hu => (List.not_mem_nil hu).elim, rfl, fun j u hu => ?_⟩
    cases j with
    | zero => simp at hu; subst hu; exact .nil
    | succ j => simp at hu
  · have hread : ∀ i, i < len → ∃ cs' v, w.cells? base (a.add (i * P.cellsOf e)) (P.cellsOf e) = some cs' ∧ τ.In v ∧ CellsOf w τ v cs' := by
      intro i hil
      have h1 := hi i hil
      rw [List.getElem?_eq_getElem (by omega)] at h1
      obtain ⟨cs', hc1, hc2⟩ := Option.bind_eq_some_iff.1 h1
      obtain ⟨v, hv⟩ := r2 hc2
      exact ⟨cs', v, hc1, hv⟩
    classical
    let f : Nat → τ.T := fun i => if hil : i < len then (hread i hil).choose_spec.choose else τ.d0
    have hf : ∀ i, i < len → ∃ cs', w.cells? base (a.add (i * P.cellsOf e)) (P.cellsOf e) = some cs' ∧ τ.In (f i) ∧ CellsOf w τ (f i) cs' := by
      intro i hil
      have := (hread i hil).choose_spec.choose_spec
      refine ⟨_, this.1, ?_, ?_⟩
      · simp only [f, dif_pos hil]; exact this.2.1
      · simp only [f, dif_pos hil]; exact this.2.2
    refine ⟨(List.range len).map f, fun u hu => ?_, rfl, fun j u hu => ?_⟩
    · obtain ⟨i, hi', rfl⟩ := List.mem_map.1 hu
      obtain ⟨_, _, h2, _⟩ := hf i (List.mem_range.1 hi')
      exact h2
    · cases j with
      | succ j => simp at hu
      | zero =>
        simp at hu; subst hu
        let g : Nat → List Value := fun i => (w.cells? base (a.add (i * P.cellsOf e)) (P.cellsOf e)).getD []
        have hg : ∀ i, i < len → w.cells? base (a.add (i * P.cellsOf e)) (P.cellsOf e) = some (g i) ∧ CellsOf w τ (f i) (g i) := by
          intro i hil
          obtain ⟨cs', h1, _, h3⟩ := hf i hil
          have : g i = cs' := by simp only [g, h1, Option.getD_some]
          rw [this]
          exact ⟨h1, h3⟩
        have hcell : ∀ i j, i < len → j < τ.size → w.cell? (a.add (i * τ.size + j)) = (g i)[j]? := by
          intro i j hil hj
          have := (World.cells?_some (hg i hil).1).2.2 j (by omega)
          rw [add_add, r1] at this
          exact this
        have hlen : ((List.range len).map f).length = len := by simp
        have hsl : VD w M0 (.sl τ ((List.range len).map f)) (.slice (some a) ((List.range len).map f).length cap) := by
          refine .sl (fun i j => (g i).getD j undef) r0 (fun i hil => ?_) (by omega) hm (fun _ _ _ _ => M0_not _ _) (fun i j hil hj => ?_) (fun i j hil hj => ?_)
          · rw [hlen] at hil
            have h1 := hcell i 0 hil r0
            have h2 := (hg i hil).2.1
            rw [List.getElem?_eq_getElem (by omega)] at h1
            have := World.block_lt_of_cell? _ _ h1
            rw [add_block] at this
            exact this
          · rw [hlen] at hil
            have h2 := (hg i hil).2.1
            rw [hcell i j hil hj, List.getD_eq_getElem?_getD, List.getElem?_eq_getElem (by omega)]
            rfl
          · rw [hlen] at hil
            have h2 := (hg i hil).2
            have e1 : ((List.range len).map f).getD i τ.d0 = f i := by simp [List.getD, hil]
            rw [e1]
            refine h2.2 j _ ?_
            rw [List.getD_eq_getElem?_getD, List.getElem?_eq_getElem (by rw [h2.1]; exact hj)]
            rfl
        rw [hlen] at hsl
        exact hsl
theorem rd_bool {t : TypeId} (h : P.underlying t = some .bool) (hc : P.cellsOf t = 1) : Rd P t .tb := by
  refine ⟨hc, Nat.one_pos, fun hx => ?_⟩
  obtain ⟨n, rfl, _⟩ := DataW.trod_bool h hx
  refine ⟨n, trivial, rfl, fun j u hu => ?_⟩
  cases j with
  | zero => simp at hu; subst hu; exact .lit rfl
  | succ j => simp at hu
theorem rd_string {t : TypeId} (h : P.underlying t = some .string) (hc : P.cellsOf t = 1) : Rd P t .ts := by
  refine ⟨hc, Nat.one_pos, fun hx => ?_⟩
  obtain ⟨n, rfl, _⟩ := DataW.trod_string h hx
  refine ⟨n, trivial, rfl, fun j u hu => ?_⟩
  cases j with
  | zero => simp at hu; subst hu; exact .lit rfl
  | succ j => simp at hu

/-- fields one behind the other, each a plain value -/
inductive RdFs (P : Program) : Nat → List Field → Ty → Prop
  | last {off : Nat} {f : Field} {τ : Ty} : f.offset = off → Rd P f.type τ → RdFs P off [f] τ
  | more {off : Nat} {f : Field} {r : List Field} {τ σ : Ty} : f.offset = off → Rd P f.type τ → RdFs P (off + τ.size) r σ → RdFs P off (f :: r) (.tp τ σ)
theorem RdFs.read {off : Nat} {fs : List Field} {τ : Ty} (h : RdFs P off fs τ) : 0 < τ.size ∧ ∀ {H : Type} {enc : TypeId × Value → H} {w : World} {base : Nat} {spare : Nat → Bool} {held : Bool} {n : Nat} {cs : List Value},
    (∀ f ∈ fs, ∃ x : DataW H × List MemPlace, DataW.trod enc P w base spare held n f.type ((cs.drop f.offset).take (P.cellsOf f.type)) = some x) → ∃ v : τ.T, τ.In v ∧ CellsOf w τ v ((cs.drop off).take τ.size) := by
  induction h with
  | @last off f τ ho r =>
    refine ⟨r.2.1, fun {H enc w base spare held n cs} hr => ?_⟩
    obtain ⟨x, hx⟩ := hr f (by simp)
    rw [ho, r.1] at hx
    exact r.2.2 hx
  | @more off f fs τ σ ho r _ ih =>
    refine ⟨by simp only [Ty.size]; have := r.2.1; omega, fun {H enc w base spare held n cs} hr => ?_⟩
    obtain ⟨x, hx⟩ := hr f (by simp)
    rw [ho, r.1] at hx
    obtain ⟨u, hu1, hu2, hu3⟩ := r.2.2 hx
    obtain ⟨v, hv1, hv2, hv3⟩ := ih.2 (fun g hg => hr g (by simp [hg]))
    refine ⟨(u, v), ⟨hu1, hv1⟩, ?_, fun j y hy => ?_⟩
    · simp only [Ty.size, List.length_take, List.length_drop] at *
      omega
    · simp only [Ty.enc]
      simp only [Ty.size] at hy
      rw [List.getElem?_take] at hy
      split at hy
      · rename_i hj
        rw [List.getElem?_drop] at hy
        by_cases hlt : j < τ.size
        · rw [show Nat.blt j τ.size = true from Nat.ble_eq_true_of_le hlt]
          refine hu3 j y ?_
          rw [List.getElem?_take, if_pos hlt, List.getElem?_drop, hy]
        · rw [show Nat.blt j τ.size = false by rw [Bool.eq_false_iff]; intro h; exact hlt (Nat.le_of_ble_eq_true h)]
          refine hv3 (j - τ.size) y ?_
          rw [List.getElem?_take, if_pos (by omega), List.getElem?_drop, ← hy]
          congr 1
          omega
      · cases hy
theorem rd_struct {t : TypeId} {fs : Array Field} {τ : Ty} (h : P.underlying t = some (.struct fs)) (hc : P.cellsOf t = τ.size) (r : RdFs P 0 fs.toList τ) : Rd P t τ := by
  refine ⟨hc, r.read.1, fun {H enc w base spare held fuel cs x} hx => ?_⟩
  obtain ⟨xs, n, _, _, hl, hxs, hf⟩ := DataW.trod_struct h hx
  obtain ⟨v, hv1, hv2⟩ := r.read.2 (enc := enc) (w := w) (base := base) (spare := spare) (held := held) (n := n) (cs := cs) (fun f hf' => by
    obtain ⟨i, hi, hif⟩ := List.mem_iff_getElem.1 hf'
    have := hf i f (by rw [← hif]; simp)
    exact ⟨_, this.trans (List.getElem?_eq_getElem (by simpa [hxs] using hi))⟩)
  rw [List.drop_zero, List.take_of_length_le (by omega)] at hv2
  exact ⟨v, hv1, hv2⟩

/-- the abstract value of a plain value of a type of one cell; of several cells -/
theorem Rd.one {t : TypeId} {τ : Ty} (r : Rd P t τ) {H : Type} {enc : TypeId × Value → H} {w : World} {base : Nat} {spare : Nat → Bool} {held : Bool} {v : Value} {d : DataW H} {p : List MemPlace} (hv : v.cells = #[v])
    (h : DataW.Trod enc P w base spare held t v d p) : ∃ x : τ.T, τ.In x ∧ VT0 w (.one (.d (τ.enc x 0))) v := by
  obtain ⟨fuel, hf⟩ := h
  obtain ⟨x, hx, _, hc⟩ := r.2.2 hf
  exact ⟨x, hx, VL.d (hc 0 v (by rw [hv]; rfl))⟩
end Go.Sy
