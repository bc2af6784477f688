/- A verified generator of conditions for this program, and its soundness: part D of the proof. -/
import Derived.Test.YtommmlhllifonaaSyC
namespace Go.Sy
variable {P : Program}

/-! operations, one by one -/
section
variable {X : Cx} {β : Nat → Option Nat} {σ : St} {a : Act} {w : World}

/-- the same state in a world in which what may not be written is as it was -/
theorem Rel.evo {β' : Nat → Option Nat} {h' : List (Nat × HO)} {w' : World} (R : Rel X β σ a w)
    (e : Evo (Mt X.M0 β (look σ.h)) (Mt X.M0 β' (look h')) w w') (b : BEvo β β' (dm (look σ.h)) (dm (look h')))
    (fr : Fr X.B0 X.w0 w') (own : ∀ n k, look h' n ≠ none → β' n = some k → X.B0 k ∨ X.w0.heap.size ≤ k) (hr : HR X.M0 β' (look h') w') :
    Rel X β' { σ with h := h' } a w' where
  tn := R.tn
  df := R.df
  fr := fr
  own := own
  bd := fun m hm => b.d m (R.bd m hm)
  bb := fun m hm => (b.b m (R.bd m hm)).trans (R.bb m hm)
  hr := hr
  sl := fun t v h => ⟨(R.sl t v h).1, VA.evo e b (R.sl t v h).2⟩
  gd := fun t g q x h => ⟨(R.gd t g q x h).1, (R.gd t g q x h).2.imp (fun h => ⟨h.1, VT.evo e b h.2⟩) id⟩

theorem evo_alloc {M M' : CM} (o : Obj) (hm : ∀ k off, k < w.heap.size → ¬ M k off → ¬ M' k off) : Evo M M' w (w.alloc o) :=
  ⟨by simp, fun p hp _ => World.cell?_alloc_lt (w := w) (a := p) (o := o) hp, hm⟩

/-- a new block -/
theorem Rel.alloc (R : Rel X β σ a w) {d : Nat} (hd : look σ.h d = none) {b : List LV} {arr : Array Value} (e : TypeId)
    (hb : All2 (VL w (Mt X.M0 β (look σ.h)) β (dm (look σ.h))) b arr.toList) :
    ∃ β', Rel X β' { σ with h := (d, .cells b) :: σ.h } a (w.alloc (.cells arr e (0, 0))) ∧ β' d = some w.heap.size := by
  let β' : Nat → Option Nat := fun n => if n = d then some w.heap.size else β n
  have hβ : ∀ n, look σ.h n ≠ none → β' n = β n := fun n hn => by
    have : n ≠ d := fun h => hn (h ▸ hd)
    simp [β', this]
  have hbe : BEvo β β' (dm (look σ.h)) (dm (look ((d, .cells b) :: σ.h))) :=
    ⟨fun n hn => by unfold dm; rw [look_cons]; split <;> simp_all [dm], fun n hn => hβ n hn⟩
  have hcase : ∀ n k, look ((d, HO.cells b) :: σ.h) n ≠ none → β' n = some k → (n = d ∧ k = w.heap.size) ∨ (n ≠ d ∧ look σ.h n ≠ none ∧ β n = some k ∧ k < w.heap.size) := by
    intro n k hn hk
    rw [look_cons] at hn
    by_cases h : n = d
    · subst h; simp [β'] at hk; exact .inl ⟨rfl, hk.symm⟩
    · have h' : look σ.h n ≠ none := by simpa [Ne.symm h] using hn
      have hk' : β n = some k := by rw [← hβ n h']; exact hk
      exact .inr ⟨h, h', hk', R.hr.lt n k h' hk'⟩
  have hev : Evo (Mt X.M0 β (look σ.h)) (Mt X.M0 β' (look ((d, .cells b) :: σ.h))) w (w.alloc (.cells arr e (0, 0))) := by
    refine evo_alloc _ fun k off hk hm hm' => hm ?_
    rcases hm' with h | ⟨n, hn, hnk⟩
    · exact .inl h
    · rcases hcase n k hn hnk with ⟨_, rfl⟩ | ⟨_, h1, h2, _⟩
      · exact absurd hk (Nat.lt_irrefl _)
      · exact .inr ⟨n, h1, h2⟩
  refine ⟨β', R.evo hev hbe ?_ ?_ ?_, by simp [β']⟩
  · exact ⟨R.fr.os, R.fr.tape, R.fr.output, by simpa using Nat.le_succ_of_le R.fr.size, fun k hk hB => by
      rw [← R.fr.block k hk hB]
      have := R.fr.size
      show (w.heap.push _)[k]? = _
      rw [Array.getElem?_push, if_neg (by omega)]⟩
  · intro n k hn hk
    rcases hcase n k hn hk with ⟨_, rfl⟩ | ⟨_, h1, h2, _⟩
    · exact .inr R.fr.size
    · exact R.own n k h1 h2
  · refine ⟨fun k off h => by have := R.hr.m0 k off h; simp; omega, fun n k hn hk => ?_, fun n k off hn hk hM => ?_, fun n m k hn hm h1 h2 => ?_, fun n o hn => ?_⟩
    · rcases hcase n k hn hk with ⟨_, rfl⟩ | ⟨_, _, _, h3⟩
      · simp
      · simp; omega
    · rcases hcase n k hn hk with ⟨_, rfl⟩ | ⟨_, h1, h2, _⟩
      · exact absurd (R.hr.m0 _ _ hM) (Nat.lt_irrefl _)
      · exact R.hr.fresh n k off h1 h2 hM
    · rcases hcase n k hn h1 with ⟨rfl, rfl⟩ | ⟨_, q1, q2, q3⟩ <;> rcases hcase m _ hm h2 with ⟨rfl, h⟩ | ⟨_, p1, p2, p3⟩
      · rfl
      · exact absurd p3 (Nat.lt_irrefl _)
      · omega
      · exact R.hr.inj n m k q1 p1 q2 p2
    · rw [look_cons] at hn
      by_cases h : d = n
      · subst h
        simp at hn
        subst hn
        exact ⟨w.heap.size, arr, e, by simp [β'], (by show (w.heap.push _)[_]? = _; simp), hb.mono fun _ _ _ h => VL.evo hev hbe h⟩
      · simp only [h, if_false] at hn
        have ho := R.hr.blk n o hn
        cases o with
        | cells c =>
          obtain ⟨k, arr', e', h1, h2, h3⟩ := ho
          have hlt := R.hr.lt n k (by rw [hn]; simp) h1
          refine ⟨k, arr', e', by rw [hβ n (by rw [hn]; simp)]; exact h1, ?_, h3.mono fun _ _ _ h => VL.evo hev hbe h⟩
          show (w.heap.push _)[k]? = _
          rw [Array.getElem?_push, if_neg (by omega)]
          exact h2
        | gr => exact ho.elim

/-- what storing cells into a block does -/
theorem run_storeCells : ∀ (vs : List Value) (w : World) (k off i : Nat) (arr : Array Value) (e : TypeId), w.heap[k]? = some (.cells arr e (0, 0)) → off + i + vs.length ≤ arr.size → (∀ v ∈ vs, v.oneCell' = true) →
    ∃ w', (storeCells ⟨k, off, none⟩ vs i).run P w = .ok () w' ∧ w'.heap[k]? = some (.cells (arr.toList.take (off + i) ++ (vs ++ arr.toList.drop (off + i + vs.length))).toArray e (0, 0)) ∧
      w'.heap.size = w.heap.size ∧ (∀ j, j ≠ k → w'.heap[j]? = w.heap[j]?) ∧ w'.os = w.os ∧ w'.tape = w.tape ∧ w'.output = w.output
  | [], w, k, off, i, arr, e, hk, _, _ => ⟨w, by simp [storeCells], by simpa using hk, rfl, fun _ _ => rfl, rfl, rfl, rfl⟩
  | v :: vs, w, k, off, i, arr, e, hk, hlen, hone => by
    simp only [List.length_cons] at hlen
    have hadd : (⟨k, off, none⟩ : Addr).add i = ⟨k, off + i, none⟩ := Addr.add_lit k off i
    have hc : w.cell? ⟨k, off + i, none⟩ = some arr[off + i] := by
      simp only [World.cell?, hk]
      simp
    have hf : w.frozen? ⟨k, off + i, none⟩ = false := by simp [World.frozen?, hk]
    have hstep : (store ((⟨k, off, none⟩ : Addr).add i) v).run P w = .ok () (w.setCell ⟨k, off + i, none⟩ v) := by
      rw [run_store P w _ v _ (hone v (by simp)), hadd, hc]
      simp [hf]
    have hk' : (w.setCell ⟨k, off + i, none⟩ v).heap[k]? = some (.cells (arr.setIfInBounds (off + i) v) e (0, 0)) := by
      simp [World.setCell, Array.getElem?_modify, hk]
    obtain ⟨w', h1, h2, h3, h4, h5, h6, h7⟩ := run_storeCells vs (w.setCell ⟨k, off + i, none⟩ v) k off (i + 1) _ e hk' (by simp; omega) (fun v hv => hone v (by simp [hv]))
    refine ⟨w', ?_, ?_, by rw [h3]; simp, fun j hj => ?_, h5, h6, h7⟩
    · simp only [storeCells, Sem.run_bind, hstep, Result.andThen_ok, h1]
    · rw [h2]
      congr 2
      apply congrArg List.toArray
      have hset : (arr.setIfInBounds (off + i) v).toList = arr.toList.set (off + i) v := by simp
      rw [hset]
      have e1 : off + (i + 1) = (off + i) + 1 := by omega
      have e2 : off + (i + 1) + vs.length = off + i + (vs.length + 1) := by omega
      rw [List.length_cons, e2]
      have hlt : off + i < arr.toList.length := by simp; omega
      have t1 : (arr.toList.set (off + i) v).take (off + (i + 1)) = arr.toList.take (off + i) ++ [v] := by
        rw [e1, List.take_succ_eq_append_getElem (by simp; omega)]
        rw [List.take_set_of_le (Nat.le_refl _)]
        simp
      have t2 : (arr.toList.set (off + i) v).drop (off + i + (vs.length + 1)) = arr.toList.drop (off + i + (vs.length + 1)) := by
        rw [List.drop_set, if_pos (by omega)]
      rw [t1, t2]
      simp
    · rw [h4 j hj]
      simp only [World.setCell, Array.getElem?_modify]
      rw [if_neg (fun h => hj h.symm)]

theorem cell_of_heap {w w' : World} {p : Addr} (h : w'.heap[p.block]? = w.heap[p.block]?) : w'.cell? p = w.cell? p := by
  unfold World.cell?
  rw [h]

/-- a block of the state's is written -/
theorem Rel.write (R : Rel X β σ a w) {n k : Nat} {b b' : List LV} {arr' : Array Value} {e : TypeId} {w' : World} (hn : look σ.h n = some (.cells b)) (hk : β n = some k)
    (h2 : w'.heap[k]? = some (.cells arr' e (0, 0))) (h3 : w'.heap.size = w.heap.size) (h4 : ∀ j, j ≠ k → w'.heap[j]? = w.heap[j]?) (h5 : w'.os = w.os) (h6 : w'.tape = w.tape) (h7 : w'.output = w.output)
    (hb : All2 (VL w (Mt X.M0 β (look σ.h)) β (dm (look σ.h))) b' arr'.toList) :
    Rel X β { σ with h := (n, .cells b') :: σ.h } a w' := by
  have hdm : ∀ m, dm (look ((n, HO.cells b') :: σ.h)) m ↔ dm (look σ.h) m := by
    intro m
    unfold dm
    rw [look_cons]
    by_cases h : n = m
    · subst h; simp [hn]
    · simp [h]
  have hMt : ∀ k off, Mt X.M0 β (look ((n, HO.cells b') :: σ.h)) k off ↔ Mt X.M0 β (look σ.h) k off := by
    intro k off
    unfold Mt
    constructor
    · rintro (h | ⟨m, h1, h2⟩)
      · exact .inl h
      · exact .inr ⟨m, (hdm m).1 h1, h2⟩
    · rintro (h | ⟨m, h1, h2⟩)
      · exact .inl h
      · exact .inr ⟨m, (hdm m).2 h1, h2⟩
  have hbe : BEvo β β (dm (look σ.h)) (dm (look ((n, .cells b') :: σ.h))) := ⟨fun m hm => (hdm m).2 hm, fun _ _ => rfl⟩
  have hnn : look σ.h n ≠ none := by rw [hn]; simp
  have hev : Evo (Mt X.M0 β (look σ.h)) (Mt X.M0 β (look ((n, .cells b') :: σ.h))) w w' :=
    ⟨by omega, fun p hp hm => cell_of_heap (h4 _ fun h => hm (.inr ⟨n, hnn, by rw [h]; exact hk⟩)), fun k off _ h h' => h ((hMt k off).1 h')⟩
  refine R.evo hev hbe ?_ (fun m j hm hj => R.own m j ((hdm m).1 hm) hj) ?_
  · refine ⟨h5.trans R.fr.os, h6.trans R.fr.tape, h7.trans R.fr.output, by rw [h3]; exact R.fr.size, fun j hj hB => ?_⟩
    rw [h4 j ?_, R.fr.block j hj hB]
    intro h
    subst h
    rcases R.own n j hnn hk with h | h
    · exact hB h
    · omega
  · refine ⟨fun j off h => by rw [h3]; exact R.hr.m0 j off h, fun m j hm hj => by rw [h3]; exact R.hr.lt m j ((hdm m).1 hm) hj, fun m j off hm hj => R.hr.fresh m j off ((hdm m).1 hm) hj,
      fun m q j hm hq h1 h2 => R.hr.inj m q j ((hdm m).1 hm) ((hdm q).1 hq) h1 h2, fun m o hm => ?_⟩
    rw [look_cons] at hm
    by_cases h : n = m
    · subst h
      simp at hm
      subst hm
      exact ⟨k, arr', e, hk, h2, hb.mono fun _ _ _ h => VL.evo hev hbe h⟩
    · simp only [h, if_false] at hm
      have ho := R.hr.blk m o hm
      cases o with
      | cells c =>
        obtain ⟨j, arr, e', g1, g2, g3⟩ := ho
        refine ⟨j, arr, e', g1, ?_, g3.mono fun _ _ _ h => VL.evo hev hbe h⟩
        rw [h4 j ?_]
        · exact g2
        · intro hjk
          subst hjk
          exact h (R.hr.inj n m _ hnn (by rw [hm]; simp) hk g1)
      | gr => exact ho.elim
end
end Go.Sy
