/- A verified generator of conditions for this program, and its soundness: part L of the proof. -/
import Derived.Test.YtdkggjgmlccjcaaSyJ
import Derived.KernelRfl
namespace Go.Sy
variable {P : Program}

/-! layouts out of closed facts -/
theorem run_zero {t : TypeId} {n : Nat} {z : Value} (h : (P.info? t).map (fun i => (i.size, i.zero)) = some (n, some z)) (w : World) : (zeroValue t).run P w = .ok z w := by
  cases hi : P.info? t with
  | none => rw [hi] at h; cases h
  | some i =>
    rw [hi] at h
    simp at h
    simp [zeroValue, typeInfo, hi, h.2]
theorem size_of_zero {t : TypeId} {n : Nat} {z : Value} (h : (P.info? t).map (fun i => (i.size, i.zero)) = some (n, some z)) : sizeIs P t n := by
  unfold sizeIs
  cases hi : P.info? t with
  | none => rw [hi] at h; cases h
  | some i => rw [hi] at h; simp at h; simp [h.1]

theorem layOne {t : TypeId} {d : TypeDesc} {z : Value} {dv : DV} {k : Option IntKind} (hu : P.underlying t = some d) (ha : aggD d = false) (hi : (P.info? t).map (fun i => (i.size, i.zero)) = some (1, some z))
    (hz : ∀ w M, VD w M dv z) (hk : ∀ q, k = some q → d = .int q) : LayOk P t { zero := [dv], kind := k } where
  agg := fun w => by rw [isAgg_run hu, ha]
  one := fun _ => rfl
  size := size_of_zero hi
  zero := ⟨z, run_zero hi, (by intro h; cases h), fun w M => by rw [one_cells (hz w M).one]; exact .cons (hz w M) .nil⟩
  fs := fun h => absurd rfl h
  el := fun s h => by cases h
  ety := fun _ _ _ h => by cases h
  kind := fun q h => by rw [hu, hk q h]
  eqs := fun ks h => by cases h
  mpt := fun _ _ h => by cases h
theorem layInt {t : TypeId} (k : IntKind) (hu : P.underlying t = some (.int k)) (hi : (P.info? t).map (fun i => (i.size, i.zero)) = some (1, some (.int k 0))) : LayOk P t { zero := [.lit (.int k 0)], kind := some k } :=
  layOne hu rfl hi (fun _ _ => .lit rfl) (fun q h => by injection h with h; rw [h])
theorem layBool {t : TypeId} (hg : P.eqGuardType P.depth t = false) (hu : P.underlying t = some .bool) (hi : (P.info? t).map (fun i => (i.size, i.zero)) = some (1, some (.bool false))) : LayOk P t { zero := [.lit (.bool false)], eqs := some [.b] } :=
  { layOne (dv := .lit (.bool false)) (k := none) hu rfl hi (fun _ _ => .lit rfl) (fun q h => by cases h) with
    eqs := fun ks h => by injection h with h; subst h; exact ⟨by simp [eqk, hu], hg⟩ }
theorem layStr {t : TypeId} (hu : P.underlying t = some .string) (hi : (P.info? t).map (fun i => (i.size, i.zero)) = some (1, some (.string ByteArray.empty))) : LayOk P t { zero := [.lit (.string ByteArray.empty)] } :=
  layOne hu rfl hi (fun _ _ => .lit rfl) (fun q h => by cases h)
theorem layFn {t : TypeId} {d : TypeDesc} (hu : P.underlying t = some d) (ha : aggD d = false) (hi : (P.info? t).map (fun i => (i.size, i.zero)) = some (1, some .nilFunc)) : LayOk P t { zero := [.lit .nilFunc] } :=
  layOne hu ha hi (fun _ _ => .lit rfl) (fun q h => by cases h)
theorem laySlice {t : TypeId} (e : Nat) (τ : Ty) (bytes : Nat) (hu : P.underlying t = some (.slice e)) (hi : (P.info? t).map (fun i => (i.size, i.zero)) = some (1, some (.slice none 0 0)))
    (hs : (P.info? e).map (fun i => (i.size, i.bytes, i.zero.map (·.cells.size))) = some (τ.size, bytes, some τ.size)) (h0 : 0 < τ.size) (hb : 0 < bytes) :
    LayOk P t { zero := [.sl τ []], el := some τ.size, ety := some (τ, e, bytes) } := by
  obtain ⟨i, z, h1, h2, h3, h4, h5⟩ : ∃ i z, P.info? e = some i ∧ i.size = τ.size ∧ i.bytes = bytes ∧ i.zero = some z ∧ z.cells.size = τ.size := by
    cases hx : P.info? e with
    | none => rw [hx] at hs; cases hs
    | some i =>
      rw [hx] at hs
      simp only [Option.map_some, Option.some.injEq, Prod.mk.injEq] at hs
      cases hz : i.zero with
      | none => rw [hz] at hs; cases hs.2.2
      | some z => rw [hz] at hs; exact ⟨i, z, rfl, hs.1, hs.2.1, hz, by simpa using hs.2.2⟩
  exact { layOne (dv := .sl τ []) (k := none) hu rfl hi (fun _ _ => .nil) (fun q h => by cases h) with
    el := fun s' h => by
      injection h with h; subst h
      exact ⟨e, hu, by unfold sizeIs; simp [h1, h2], Nat.ne_of_gt h0, z, fun w => by simp [zeroValue, typeInfo, h1, h4]⟩
    ety := fun τ' e' b' h => by
      injection h with h; injection h with g1 g2; injection g2 with g2 g3
      subst g1 g2 g3
      exact ⟨hu, h0, run_zero hi, hb, i, z, h1, h2, h3, h4, h5⟩ }

/-- the cells of a plain zero value -/
def dv0 (ν : Ty) : List DV := (List.range ν.size).map (ν.enc ν.d0)
/-- what a zero leaf is -/
def zv : DV → Option Value
  | .lit v => if v.oneCell' then some v else none
  | .sl _ l => if l.isEmpty then some (.slice none 0 0) else none
def zvs : List DV → Option (List Value)
  | [] => some []
  | x :: r => match zv x, zvs r with
    | some v, some l => some (v :: l)
    | _, _ => none
theorem zvs_sound {w : World} {M : CM} : ∀ {l : List DV} {vs : List Value}, zvs l = some vs → All2 (VD w M) l vs
  | [], vs, h => by injection h with h; subst h; exact .nil
  | x :: r, vs, h => by
    simp only [zvs] at h
    split at h
    · rename_i v l hv hl
      injection h with h; subst h
      refine .cons ?_ (zvs_sound hl)
      unfold zv at hv
      split at hv
      · split at hv
        · rename_i ho; injection hv with hv; subst hv; exact .lit ho
        · cases hv
      · rename_i τ l
        split at hv
        · rename_i ho
          injection hv with hv; subst hv
          rw [List.isEmpty_iff.1 ho]
          exact .nil
        · cases hv
    · cases h

theorem all2_fs : ∀ {fs : List (Nat × Nat)} {l : List Field}, l.map (fun f => (f.offset, (P.info? f.type).map (·.size))) = fs.map (fun q => (q.1, some q.2)) → fs.all (fun q => q.2 != 0) = true →
    All2 (fun q (f : Field) => f.offset = q.1 ∧ sizeIs P f.type q.2 ∧ q.2 ≠ 0) fs l
  | [], [], _, _ => .nil
  | [], _ :: _, h, _ => by simp at h
  | _ :: _, [], h, _ => by simp at h
  | q :: fs, f :: l, h, h0 => by
    simp only [List.map_cons, List.cons.injEq, Prod.mk.injEq] at h
    simp only [List.all_cons, Bool.and_eq_true, bne_iff_ne] at h0
    exact .cons ⟨h.1.1, h.1.2, h0.1⟩ (all2_fs h.2 h0.2)

theorem layStruct {t : TypeId} {size : Nat} {zero : List DV} {fs : List (Nat × Nat)} {eqs : Option (List LK)} {zs : List Value} {cv : List (Nat × (Ty × (Nat × Bool)))} {cz : List (Nat × Ty)} (hu : P.underlying t = some (.struct (P.fieldsOf t))) (hz : zvs zero = some zs)
    (hi : (P.info? t).map (fun i => (i.size, i.zero)) = some (size, some (.agg zs.toArray)))
    (hf : (P.fieldsOf t).toList.map (fun f => (f.offset, (P.info? f.type).map (·.size))) = fs.map (fun q => (q.1, some q.2))) (h0 : fs.all (fun q => q.2 != 0) = true)
    (he : ∀ ks, eqs = some ks → eqk P 20 t = some ks ∧ P.eqGuardType P.depth t = false) : LayOk P t { size := size, agg := true, zero := zero, fs := fs, eqs := eqs, cv := cv, cz := cz } where
  agg := fun w => isAgg_run hu w
  one := fun h => by cases h
  size := size_of_zero hi
  zero := ⟨_, run_zero hi, fun _ => ⟨_, rfl⟩, fun w M => by simpa [Value.cells] using zvs_sound hz⟩
  fs := fun _ => ⟨_, hu, all2_fs hf h0⟩
  el := fun s h => by cases h
  ety := fun _ _ _ h => by cases h
  kind := fun q h => by cases h
  eqs := he
  mpt := fun _ _ h => by cases h

/-- a map of plain keys and plain values -/
theorem layMap {t : TypeId} (kt et : Nat) (κ ν : Ty) (z : Value) (hu : P.underlying t = some (.map kt et)) (hi : (P.info? t).map (fun i => (i.size, i.zero)) = some (1, some (.map none)))
    (hc : κ.cmp = true) (hk : (P.underlying kt).map aggD = some κ.ag) (hks : eqk P 20 kt = some κ.lks) (hz : (P.info? et).map (fun i => (i.size, i.zero)) = some (ν.size, some z))
    (hzv : zvs (dv0 ν) = some z.cells.toList) (hza : ν.ag = true → ∃ arr, z = .agg arr) (hzo : ν.ag = false → z.oneCell' = true) :
    LayOk P t { zero := [.lit (.map none)], mpt := some (κ, ν) } :=
  { layOne (dv := .lit (.map none)) (k := none) hu rfl hi (fun _ _ => .lit rfl) (fun q h => by cases h) with
    mpt := fun κ' ν' h => by
      injection h with h; injection h with g1 g2
      subst g1 g2
      refine ⟨kt, et, z, hu, ⟨hc, fun e he => ?_, hks⟩, run_zero hz, fun w M => ?_⟩
      · rw [he] at hk; injection hk
      · have hall := zvs_sound (w := w) (M := M) hzv
        refine ⟨hza, hzo, ?_, fun j x hx => ?_⟩
        · have := hall.length
          rw [← this]; simp [dv0]
        · obtain ⟨a, ha, hr⟩ := hall.get_right hx
          unfold dv0 at ha
          rw [List.getElem?_map] at ha
          cases hr' : (List.range ν.size)[j]? with
          | none => rw [hr'] at ha; cases ha
          | some i =>
            rw [hr'] at ha
            obtain ⟨hlt, hi⟩ := List.getElem?_eq_some_iff.1 hr'
            simp at hi
            subst hi
            injection ha with ha
            rw [ha]; exact hr }

theorem look_ok {l : List (Nat × Lay)} (h : ∀ q ∈ l, LayOk P q.1 q.2) : LOk P (look l) := fun t y hy => h (t, y) (look_mem hy)
theorem look_con {l : List (Nat × Con)} (h : ∀ q ∈ l, FnOk P q.1 q.2) : ConOk P (look l) := fun f con hc => h (f, con) (look_mem hc)

theorem enters {f : FuncId} {fn : Func} {c : Code} (hf : P.funcs[f]? = some fn) (hb : fn.body = some c) (hn : (fn.name == "runtime.NumGoroutine") = false) (args : Array Value) (w : World) : (callFunc f args).run P w = .ok (.enter f args) w := by
  simp [callFunc, hf, hb]
  simpa using hn

theorem castH {v : VC} {p : Prop} (h : v.holds = p) (hp : p) : v.holds := h ▸ hp

theorem noDraw {L : Nat → Option Lay} {Γ : Nat → Option Con} {F : Fence} {n : Nat} {X : Cx} : DrawOk P L Γ F n X (fun _ _ => false) := fun _ _ _ _ _ _ _ _ _ _ h => by cases h
end Go.Sy
