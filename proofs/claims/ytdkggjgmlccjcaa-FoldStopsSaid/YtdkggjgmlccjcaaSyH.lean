/- A verified generator of conditions for this program, and its soundness: part H of the proof. -/
import Derived.Test.YtdkggjgmlccjcaaSyG
import Derived.Test.YtdkggjgmlccjcaaSyV
import Derived.Deep.LoopGhost
namespace Go.Sy
variable {P : Program} {L : Nat → Option Lay} {Γ : Nat → Option Con} {F : Fence} {n : Nat}

theorem VC.all_holds : ∀ {ps : List Prop}, (VC.all ps).holds → ∀ p ∈ ps, p
  | [], _, p, hp => by cases hp
  | [q], h, p, hp => by rw [List.mem_singleton.1 hp]; exact h
  | q :: r :: s, h, p, hp => by
    rcases List.mem_cons.1 hp with e | hp
    · rw [e]; exact h.1
    · exact VC.all_holds h.2 p hp

theorem eqDV_sound {x y : DV} (h : ∀ p ∈ eqDV x y, p) : x = y := by
  unfold eqDV at h
  split at h
  · split at h
    · rename_i hk
      subst hk
      have := h _ (List.mem_singleton.2 rfl)
      rw [this]
    · exact (h _ (List.mem_singleton.2 rfl)).elim
  · have := h _ (List.mem_singleton.2 rfl)
    rw [this]
  · split at h
    · rename_i hh _
      subst hh
      have := h _ (List.mem_singleton.2 rfl)
      rw [← this]
    · exact (h _ (List.mem_singleton.2 rfl)).elim
  · exact h _ (List.mem_singleton.2 rfl)
theorem eqLV_sound {x y : LV} (h : ∀ p ∈ eqLV x y, p) : x = y := by
  unfold eqLV at h
  split at h
  · rw [eqDV_sound h]
  · split at h
    · rename_i hk
      rw [hk.1, hk.2]
    · exact (h _ (List.mem_singleton.2 rfl)).elim
  · split at h
    · rename_i hk
      rw [hk, eqDV_sound h]
    · exact (h _ (List.mem_singleton.2 rfl)).elim
  · split at h
    · rename_i hk
      rw [hk]
    · exact (h _ (List.mem_singleton.2 rfl)).elim
  · split at h
    · rename_i hk
      rw [hk]
    · exact (h _ (List.mem_singleton.2 rfl)).elim
  · split at h
    · rename_i hk
      have := h _ (List.mem_singleton.2 rfl)
      rw [hk, this]
    · exact (h _ (List.mem_singleton.2 rfl)).elim
  · exact h _ (List.mem_singleton.2 rfl)
theorem eqLVs_sound : ∀ {x y : List LV}, (∀ p ∈ eqLVs x y, p) → x = y
  | [], [], _ => rfl
  | x :: r, y :: q, h => by
    simp only [eqLVs, List.mem_append] at h
    rw [eqLV_sound fun p hp => h p (.inl hp), eqLVs_sound fun p hp => h p (.inr hp)]
  | [], _ :: _, h => (h _ (List.mem_singleton.2 rfl)).elim
  | _ :: _, [], h => (h _ (List.mem_singleton.2 rfl)).elim
theorem eqTV_sound {x y : TV} (h : ∀ p ∈ eqTV x y, p) : x = y := by
  unfold eqTV at h
  split at h
  · rw [eqLV_sound h]
  · rw [eqLVs_sound h]
  · exact (h _ (List.mem_singleton.2 rfl)).elim
theorem eqTVs_sound : ∀ {x y : List TV}, (∀ p ∈ eqTVs x y, p) → x = y
  | [], [], _ => rfl
  | x :: r, y :: q, h => by
    simp only [eqTVs, List.mem_append] at h
    rw [eqTV_sound fun p hp => h p (.inl hp), eqTVs_sound fun p hp => h p (.inr hp)]
  | [], _ :: _, h => (h _ (List.mem_singleton.2 rfl)).elim
  | _ :: _, [], h => (h _ (List.mem_singleton.2 rfl)).elim
theorem eqAV_sound {x y : AV} (h : ∀ p ∈ eqAV x y, p) : x = y := by
  unfold eqAV at h
  split at h
  · rw [eqTV_sound h]
  · rw [eqTVs_sound h]
  · exact (h _ (List.mem_singleton.2 rfl)).elim
theorem eqHO_sound {x y : HO} (h : ∀ p ∈ eqHO x y, p) : x = y := by
  unfold eqHO at h
  split at h
  · rw [eqLVs_sound h]
  · split at h
    · rename_i hk
      have := h _ (List.mem_singleton.2 rfl)
      rw [hk.1, hk.2, this]
    · exact (h _ (List.mem_singleton.2 rfl)).elim
  · split at h
    · rename_i e _
      subst e
      have h1 := h _ (List.mem_cons_self ..)
      have h2 := h _ (List.mem_cons_of_mem _ (List.mem_singleton.2 rfl))
      rw [← h1, ← h2]
    · exact (h _ (List.mem_singleton.2 rfl)).elim
  · split at h
    · rename_i e1 e2 _ _
      subst e1 e2
      have := h _ (List.mem_singleton.2 rfl)
      rw [← this]
    · exact (h _ (List.mem_singleton.2 rfl)).elim
  · split at h
    · rename_i he
      split at h
      · rename_i e1 _
        subst e1
        have := h _ (List.mem_singleton.2 rfl)
        rw [← this, he]
      · exact (h _ (List.mem_singleton.2 rfl)).elim
    · exact (h _ (List.mem_singleton.2 rfl)).elim
  · exact h _ (List.mem_singleton.2 rfl)

section
variable {w : World} {M : CM} {β : Bt} {D : Nat → Prop}
theorem coD_sound {c x : DV} {v : Value} (h : VD w M x v) : VD w M (coD c x) v := by
  unfold coD
  split
  · cases h with
    | nil => exact .nil
    | sl _ h0 => exact absurd h0 (Nat.lt_irrefl _)
  · exact h
theorem coL_sound {c x : LV} {v : Value} (h : VL w M β D x v) : VL w M β D (coL c x) v := by
  unfold coL
  split
  · cases h with | own h _ => exact .d (coD_sound h)
  · cases h with | d h => exact .d (coD_sound h)
  · exact h
theorem coLs_sound : ∀ {cs xs : List LV} {vs : List Value}, All2 (VL w M β D) xs vs → All2 (VL w M β D) (coLs cs xs) vs
  | _ :: _, _ :: _, _, .cons h r => .cons (coL_sound h) (coLs_sound r)
  | [], _, _, h => h
  | _ :: _, [], _, h => h
theorem coT_sound {c x : TV} {v : Value} (h : VT w M β D x v) : VT w M β D (coT c x) v := by
  unfold coT
  split
  · exact coL_sound h
  · obtain ⟨arr, h1, h2⟩ := h; exact ⟨arr, h1, coLs_sound h2⟩
  · exact h
theorem coTs_sound : ∀ {cs xs : List TV} {vs : List Value}, All2 (VT w M β D) xs vs → All2 (VT w M β D) (coTs cs xs) vs
  | _ :: _, _ :: _, _, .cons h r => .cons (coT_sound h) (coTs_sound r)
  | [], _, _, h => h
  | _ :: _, [], _, h => h
theorem coA_sound {c x : AV} {v : Value} (h : VA w M β D x v) : VA w M β D (coA c x) v := by
  unfold coA
  split
  · exact coT_sound h
  · obtain ⟨arr, h1, h2⟩ := h; exact ⟨arr, h1, coTs_sound h2⟩
  · exact h
theorem coA_none (u : AV) : coA (.tup []) u = u := by
  cases u with
  | t => rfl
  | tup xs => cases xs <;> rfl
end

theorem look_mem {β : Type _} : ∀ {l : List (Nat × β)} {k : Nat} {v : β}, look l k = some v → (k, v) ∈ l
  | (a, x) :: r, k, v, h => by
    rw [look_cons] at h
    split at h
    · rename_i e; subst e; injection h with h; subst h; exact List.mem_cons_self ..
    · exact List.mem_cons_of_mem _ (look_mem h)
theorem look_append {β : Type _} : ∀ (l m : List (Nat × β)) (k : Nat), look (l ++ m) k = match look l k with | some y => some y | none => look m k
  | [], m, k => by simp [look]
  | (a, x) :: l, m, k => by
    rw [List.cons_append, look_cons, look_cons]
    split
    · rfl
    · exact look_append l m k

theorem entS_sound : ∀ {l : List (Nat × AV)} {σ : List (Nat × AV)}, (∀ p ∈ entS σ l, p) → ∀ k v, (k, v) ∈ l → ∃ c u, look σ k = some u ∧ v = coA c u
  | (a, x) :: r, σ, h, k, v, hm => by
    simp only [entS, List.mem_append] at h
    rcases List.mem_cons.1 hm with e | hm
    · injection e with e1 e2
      subst e1 e2
      cases hl : look σ k with
      | none => rw [hl] at h; exact (h _ (.inl (List.mem_singleton.2 rfl))).elim
      | some u => rw [hl] at h; exact ⟨v, u, rfl, (eqAV_sound fun p hp => h p (.inl hp)).symm⟩
    · exact entS_sound (fun p hp => h p (.inr hp)) k v hm
theorem entH_sound : ∀ {l : List (Nat × HO)} {σ : List (Nat × HO)}, (∀ p ∈ entH σ l, p) → ∀ k v, (k, v) ∈ l → look σ k = some v
  | (a, x) :: r, σ, h, k, v, hm => by
    simp only [entH, List.mem_append] at h
    rcases List.mem_cons.1 hm with e | hm
    · injection e with e1 e2
      subst e1 e2
      cases hl : look σ k with
      | none => rw [hl] at h; exact (h _ (.inl (List.mem_singleton.2 rfl))).elim
      | some u => rw [hl] at h; rw [eqHO_sound fun p hp => h p (.inl hp)]
    · exact entH_sound (fun p hp => h p (.inr hp)) k v hm

theorem mem_iff : ∀ {l : List Nat} {k : Nat}, mem l k = true ↔ k ∈ l
  | [], _ => by simp [mem]
  | a :: r, k => by
    simp only [mem, Bool.or_eq_true, beq_iff_eq, List.mem_cons]
    rw [mem_iff (l := r)]
    exact ⟨fun h => h.imp (fun e => e.symm) id, fun h => h.imp (fun e => e.symm) id⟩

theorem keepS_sub {keep : List Nat} : ∀ {l : List (Nat × AV)} {seen : List Nat} {k : Nat} {v : AV}, look (keepS keep l seen) k = some v → k ∉ seen ∧ look l k = some v
  | [], _, _, _, h => by cases h
  | (a, x) :: r, seen, k, v, h => by
    simp only [keepS] at h
    split at h
    · rename_i hc
      simp only [Bool.and_eq_true, Bool.not_eq_true'] at hc
      rw [look_cons] at h
      split at h
      · rename_i e
        subst e
        exact ⟨fun hm => by rw [mem_iff.2 hm] at hc; exact absurd hc.2 (by simp), by rw [look_cons, if_pos rfl]; exact h⟩
      · rename_i e
        obtain ⟨h1, h2⟩ := keepS_sub h
        simp only [List.mem_cons, not_or] at h1
        exact ⟨h1.2, by rw [look_cons, if_neg e]; exact h2⟩
    · obtain ⟨h1, h2⟩ := keepS_sub h
      simp only [List.mem_cons, not_or] at h1
      exact ⟨h1.2, by rw [look_cons, if_neg (fun e => h1.1 e.symm)]; exact h2⟩
theorem keepH_eq : ∀ {l : List (Nat × HO)} {seen : List Nat} {k : Nat}, k ∉ seen → look (keepH l seen) k = look l k
  | [], _, _, _ => rfl
  | (a, x) :: r, seen, k, h => by
    simp only [keepH]
    split
    · rw [look_cons, look_cons]
      split
      · rfl
      · rename_i e; exact keepH_eq (by simp only [List.mem_cons, not_or]; exact ⟨fun h => e h.symm, h⟩)
    · rename_i hc
      have hm : a ∈ seen := mem_iff.1 (by simpa using hc)
      rw [look_cons, if_neg (fun e => h (by rw [← e]; exact hm))]
      exact keepH_eq h
theorem keepH_nil (l : List (Nat × HO)) : look (keepH l []) = look l := by
  funext k; exact keepH_eq (by simp)

/-! pointers lead to blocks of the state -/
section
variable {w : World} {M M' : CM} {β : Bt} {h h' : List (Nat × HO)}
theorem ptrOk_iff {k : Nat} : ptrOk h k = true ↔ dm (look h) k := by
  unfold ptrOk dm
  cases look h k <;> simp
theorem ptrsOk_of {ps : List (Nat × Nat)} {vs : List Value} (hv : All2 (PV β (dm (look h))) ps vs) : ptrsOk h ps = true := by
  induction hv with
  | nil => rfl
  | @cons q v _ _ h1 _ ih =>
    obtain ⟨k, hd, _⟩ := h1
    simp [ptrsOk, ih, ptrOk_iff.2 hd]
theorem lvOk_of {x : LV} {v : Value} (hv : VL w M β (dm (look h)) x v) : lvOk h x = true := by
  cases hv with
  | d => rfl
  | ptr h1 => obtain ⟨k, hd, _⟩ := h1; exact ptrOk_iff.2 hd
  | dptr => rfl
  | clo h1 h2 => simp [lvOk, ptrsOk_of h1, ptrsOk_of h2]
  | own _ h => exact ptrOk_iff.2 h.1
  | mp h => exact ptrOk_iff.2 h
  | yl h => exact ptrOk_iff.2 h
  | vr _ _ h => exact ptrOk_iff.2 h.1
  | vp h => exact ptrOk_iff.2 h.1
theorem lvsOk_of {xs : List LV} {vs : List Value} (hv : All2 (VL w M β (dm (look h))) xs vs) : lvsOk h xs = true := by
  induction hv with
  | nil => rfl
  | cons h1 _ ih => simp [lvsOk, ih, lvOk_of h1]
theorem tvOk_of {x : TV} {v : Value} (hv : VT w M β (dm (look h)) x v) : tvOk h x = true := by
  cases x with
  | one x => exact lvOk_of hv
  | agg xs => obtain ⟨arr, _, hv⟩ := hv; exact lvsOk_of hv
theorem tvsOk_of {xs : List TV} {vs : List Value} (hv : All2 (VT w M β (dm (look h))) xs vs) : tvsOk h xs = true := by
  induction hv with
  | nil => rfl
  | cons h1 _ ih => simp [tvsOk, ih, tvOk_of h1]
theorem avOk_of {x : AV} {v : Value} (hv : VA w M β (dm (look h)) x v) : avOk h x = true := by
  cases x with
  | t x => exact tvOk_of hv
  | tup xs => obtain ⟨arr, _, hv⟩ := hv; exact tvsOk_of hv

theorem PV.re {q : Nat × Nat} {v : Value} {D : Nat → Prop} (hv : PV β D q v) (ho : ptrOk h' q.1 = true) : PV β (dm (look h')) q v := by
  obtain ⟨k, _, h1, h2⟩ := hv
  exact ⟨k, ptrOk_iff.1 ho, h1, h2⟩
theorem PVs.re {ps : List (Nat × Nat)} {vs : List Value} {D : Nat → Prop} (hv : All2 (PV β D) ps vs) (ho : ptrsOk h' ps = true) : All2 (PV β (dm (look h'))) ps vs := by
  induction hv with
  | nil => exact .nil
  | cons h1 _ ih =>
    simp only [ptrsOk, Bool.and_eq_true] at ho
    exact .cons (h1.re ho.1) (ih ho.2)
theorem VL.re {x : LV} {v : Value} {D : Nat → Prop} (e : Evo M M' w w) (hv : VL w M β D x v) (ho : lvOk h' x = true) : VL w M' β (dm (look h')) x v := by
  cases hv with
  | d h => exact .d (h.evo e)
  | ptr h => exact .ptr (h.re ho)
  | dptr vs hb hM hc hv => exact .dptr vs hb (fun j hj => e.mt _ _ hb (hM j hj)) hc (fun j hj => (hv j hj).evo e)
  | clo h1 h2 =>
    simp only [lvOk, Bool.and_eq_true] at ho
    exact .clo (PVs.re h1 ho.1) (PVs.re h2 ho.2)
  | own h h1 => exact .own (h.evo e) ⟨ptrOk_iff.1 ho, h1.2⟩
  | mp h1 h2 h3 => exact .mp (ptrOk_iff.1 ho) h2 h3
  | yl h1 h2 h3 => exact .yl (ptrOk_iff.1 ho) h2 h3
  | vr hs hk h => exact .vr hs hk (h.to (ptrOk_iff.1 ho) rfl)
  | vp h => exact .vp (h.to (ptrOk_iff.1 ho) rfl)
theorem VLs.re {xs : List LV} {vs : List Value} {D : Nat → Prop} (e : Evo M M' w w) (hv : All2 (VL w M β D) xs vs) (ho : lvsOk h' xs = true) : All2 (VL w M' β (dm (look h'))) xs vs := by
  induction hv with
  | nil => exact .nil
  | cons h1 _ ih =>
    simp only [lvsOk, Bool.and_eq_true] at ho
    exact .cons (h1.re e ho.1) (ih ho.2)
theorem VT.re {x : TV} {v : Value} {D : Nat → Prop} (e : Evo M M' w w) (hv : VT w M β D x v) (ho : tvOk h' x = true) : VT w M' β (dm (look h')) x v := by
  cases x with
  | one x => exact VL.re e hv ho
  | agg xs => obtain ⟨arr, rfl, hv⟩ := hv; exact ⟨arr, rfl, VLs.re e hv ho⟩
theorem VTs.re {xs : List TV} {vs : List Value} {D : Nat → Prop} (e : Evo M M' w w) (hv : All2 (VT w M β D) xs vs) (ho : tvsOk h' xs = true) : All2 (VT w M' β (dm (look h'))) xs vs := by
  induction hv with
  | nil => exact .nil
  | cons h1 _ ih =>
    simp only [tvsOk, Bool.and_eq_true] at ho
    exact .cons (VT.re e h1 ho.1) (ih ho.2)
theorem VA.re {x : AV} {v : Value} {D : Nat → Prop} (e : Evo M M' w w) (hv : VA w M β D x v) (ho : avOk h' x = true) : VA w M' β (dm (look h')) x v := by
  cases x with
  | t x => exact VT.re e hv ho
  | tup xs => obtain ⟨arr, rfl, hv⟩ := hv; exact ⟨arr, rfl, VTs.re e hv ho⟩
end

section
variable {X : Cx} {β : Bt} {σ : St} {a : Act} {w : World}

theorem HOR.re {M M' : CM} {n : Nat} {o : HO} {D : Nat → Prop} {h' : List (Nat × HO)} (h : HOR w M β D n o) (hM : ∀ k off, M' k off → M k off) (ok : ∀ b, o = .cells b → lvsOk h' b = true)
    (hdis : o.isOb = true → ∀ q off, M q off → q < w.heap.size ∧ ∀ off', ¬ β.ym n q off → ¬ β.ym n q off') : HOR w M' β (dm (look h')) n o := by
  have e : Evo M M' w w := Evo.less hM
  cases o with
  | cells b =>
    obtain ⟨k, arr, t, e0, e1, e2, e3⟩ := h
    exact ⟨k, arr, t, e0, e1, e2, VLs.re e e3 (ok b rfl)⟩
  | gr t sz len => exact h
  | mp κ ν l =>
    obtain ⟨k, es, clock, h0, h1, h2, h3⟩ := h
    exact ⟨k, es, clock, h0, h1, h2, h3.mono fun _ _ _ h => ⟨h.1.evo e, h.2.evo e⟩⟩
  | vec τ t l =>
    rcases h with h | ⟨k, cap, arr, h0, h1, h2, h3, h4, h5, h6⟩
    · exact .inl h
    · exact .inr ⟨k, cap, arr, h0, h1, h2, h3, h4, h5, fun i j u hi hj hu => (h6 i j u hi hj hu).evo e⟩
  | ob sg hist go =>
    obtain ⟨h0, k, h1, h2, h3⟩ := h
    exact ⟨h0, k, h1, h2, h2.stay _ _ _ _ _ _ h3 ⟨Nat.le_refl _, fun _ _ _ => rfl, fun _ _ _ => rfl, rfl, rfl, rfl⟩ (fun q off hq => .inl ⟨hM q off hq.1, hq.2⟩) (fun q off off' hq => (hdis rfl q off (hM q off hq.1)).2 off' hq.2)⟩

/-- what names nothing -/
theorem VL.any {w' : World} {M M' : CM} {β' : Bt} {D D' : Nat → Prop} {x : LV} {v : Value} (e : Evo M M' w w') (hv : VL w M β D x v) (ho : lvOk [] x = true) : VL w' M' β' D' x v := by
  cases hv with
  | d h => exact .d (h.evo e)
  | ptr h => cases ho
  | dptr vs hb hM hc hv =>
    refine .dptr vs (Nat.lt_of_lt_of_le hb e.size) (fun j hj => e.mt _ _ hb (hM j hj)) (fun j hj => ?_) (fun j hj => (hv j hj).evo e)
    rw [e.cell _ (by rw [add_block]; exact hb) (by rw [add_block, add_off]; exact hM j hj)]
    exact hc j hj
  | @clo f fi ca vf vc h1 h2 =>
    simp only [lvOk, Bool.and_eq_true] at ho
    cases h1 with
    | nil => cases h2 with
      | nil => exact VL.clo (vf := []) (vc := []) .nil .nil
      | cons => exact absurd ho.2 (by simp [ptrsOk, ptrOk, look])
    | cons => exact absurd ho.1 (by simp [ptrsOk, ptrOk, look])
  | own => cases ho
  | mp => cases ho
  | yl => cases ho
  | vr => cases ho
  | vp => cases ho
theorem VLs.any {w' : World} {M M' : CM} {β' : Bt} {D D' : Nat → Prop} {xs : List LV} {vs : List Value} (e : Evo M M' w w') (hv : All2 (VL w M β D) xs vs) (ho : lvsOk [] xs = true) : All2 (VL w' M' β' D') xs vs := by
  induction hv with
  | nil => exact .nil
  | cons h1 _ ih =>
    simp only [lvsOk, Bool.and_eq_true] at ho
    exact .cons (h1.any e ho.1) (ih ho.2)
theorem VT.any {w' : World} {M M' : CM} {β' : Bt} {D D' : Nat → Prop} {x : TV} {v : Value} (e : Evo M M' w w') (hv : VT w M β D x v) (ho : tvOk [] x = true) : VT w' M' β' D' x v := by
  cases x with
  | one x => exact VL.any e hv ho
  | agg xs => obtain ⟨arr, rfl, hv⟩ := hv; exact ⟨arr, rfl, VLs.any e hv ho⟩
theorem VTs.any {w' : World} {M M' : CM} {β' : Bt} {D D' : Nat → Prop} {xs : List TV} {vs : List Value} (e : Evo M M' w w') (hv : All2 (VT w M β D) xs vs) (ho : tvsOk [] xs = true) : All2 (VT w' M' β' D') xs vs := by
  induction hv with
  | nil => exact .nil
  | cons h1 _ ih =>
    simp only [tvsOk, Bool.and_eq_true] at ho
    exact .cons (VT.any e h1 ho.1) (ih ho.2)
theorem VA.any {w' : World} {M M' : CM} {β' : Bt} {D D' : Nat → Prop} {x : AV} {v : Value} (e : Evo M M' w w') (hv : VA w M β D x v) (ho : avOk [] x = true) : VA w' M' β' D' x v := by
  cases x with
  | t x => exact VT.any e hv ho
  | tup xs => obtain ⟨arr, rfl, hv⟩ := hv; exact ⟨arr, rfl, VTs.any e hv ho⟩

/-- less is known -/
theorem Rel.weaken (R : Rel X β σ a w) {s' : List (Nat × AV)} {h' : List (Nat × HO)} (hs : ∀ k v, look s' k = some v → ∃ c u, look σ.s k = some u ∧ v = coA c u) (hh : ∀ k o, look h' k = some o → look σ.h k = some o)
    (hb : ∀ n, X.D0 n → look h' n ≠ none) (ok1 : ∀ k v, look s' k = some v → avOk h' v = true) (ok2 : ∀ k b, look h' k = some (.cells b) → lvsOk h' b = true) : Rel X β { s := s', g := [], h := h' } a w := by
  have hd : ∀ n, look h' n ≠ none → look σ.h n ≠ none := by
    intro n hn
    cases ho : look h' n with
    | none => exact absurd ho hn
    | some o => rw [hh n o ho]; simp
  have hM : ∀ k off, Mt β (look h') k off → Mt β (look σ.h) k off := fun k off hm' => by
    rcases hm' with h | ⟨n, o, h1, h2⟩
    · exact .inl h
    · exact .inr ⟨n, o, hh n o h1, h2⟩
  have ev : Evo (Mt β (look σ.h)) (Mt β (look h')) w w := Evo.less hM
  refine ⟨R.tn, R.df, R.fr, fun n k hn hk => R.own n k (hd n hn) hk, ⟨hb, R.be.b, R.be.o, R.be.pr⟩, R.bm, ⟨R.hr.m0, fun n k hn hk => R.hr.lt n k (hd n hn) hk, fun n k off hn hk => R.hr.fresh n k off (hd n hn) hk,
    fun n m k hn hm => R.hr.inj n m k (hd n hn) (hd m hm), fun n o ho => R.hr.ye n o (hh n o ho), fun n o ho => (R.hr.blk n o (hh n o ho)).re hM (fun b hb => ok2 n b (by rw [ho, hb])) fun hob => dis_of R.hr.m0 R.hr.lt R.hr.fresh R.hr.inj (hh n o ho) hob⟩, R.ev.trans ev, fun t v h => ?_, fun t g b x h => by cases h⟩
  obtain ⟨c, u, h1, rfl⟩ := hs t v h
  exact ⟨(R.sl t u h1).1, VA.re ev (coA_sound (R.sl t u h1).2) (ok1 t _ h)⟩

theorem Rel.ok1 (R : Rel X β σ a w) {k : Nat} {v : AV} (h : look σ.s k = some v) : avOk σ.h v = true := avOk_of (R.sl k v h).2
theorem Rel.ok2 (R : Rel X β σ a w) {k : Nat} {b : List LV} (h : look σ.h k = some (.cells b)) : lvsOk σ.h b = true := by
  obtain ⟨_, _, _, _, _, _, h3⟩ := R.hr.blk k _ h
  exact lvsOk_of h3

theorem ok_congr {h h' : List (Nat × HO)} (e : ∀ n, look h n ≠ none → look h' n ≠ none) : (∀ n, ptrOk h n = true → ptrOk h' n = true) := fun n hn => ptrOk_iff.2 (e n (ptrOk_iff.1 hn))
theorem ptrsOk_mono {h h' : List (Nat × HO)} (e : ∀ n, ptrOk h n = true → ptrOk h' n = true) : ∀ {ps : List (Nat × Nat)}, ptrsOk h ps = true → ptrsOk h' ps = true
  | [], _ => rfl
  | q :: r, hp => by simp only [ptrsOk, Bool.and_eq_true] at hp ⊢; exact ⟨e _ hp.1, ptrsOk_mono e hp.2⟩
theorem lvOk_mono {h h' : List (Nat × HO)} (e : ∀ n, ptrOk h n = true → ptrOk h' n = true) {x : LV} (hx : lvOk h x = true) : lvOk h' x = true := by
  cases x with
  | d => rfl
  | ptr n o => exact e n hx
  | dptr => rfl
  | clo f a b => simp only [lvOk, Bool.and_eq_true] at hx ⊢; exact ⟨ptrsOk_mono e hx.1, ptrsOk_mono e hx.2⟩
  | own n _ => exact e n hx
  | mp n => exact e n hx
  | yl n => exact e n hx
  | vr n _ => exact e n hx
  | vp n _ _ _ _ _ => exact e n hx
theorem lvsOk_mono {h h' : List (Nat × HO)} (e : ∀ n, ptrOk h n = true → ptrOk h' n = true) : ∀ {xs : List LV}, lvsOk h xs = true → lvsOk h' xs = true
  | [], _ => rfl
  | q :: r, hp => by simp only [lvsOk, Bool.and_eq_true] at hp ⊢; exact ⟨lvOk_mono e hp.1, lvsOk_mono e hp.2⟩
theorem tvOk_mono {h h' : List (Nat × HO)} (e : ∀ n, ptrOk h n = true → ptrOk h' n = true) {x : TV} (hx : tvOk h x = true) : tvOk h' x = true := by
  cases x with
  | one x => exact lvOk_mono e hx
  | agg xs => exact lvsOk_mono e hx
theorem tvsOk_mono {h h' : List (Nat × HO)} (e : ∀ n, ptrOk h n = true → ptrOk h' n = true) : ∀ {xs : List TV}, tvsOk h xs = true → tvsOk h' xs = true
  | [], _ => rfl
  | q :: r, hp => by simp only [tvsOk, Bool.and_eq_true] at hp ⊢; exact ⟨tvOk_mono e hp.1, tvsOk_mono e hp.2⟩
theorem avOk_mono {h h' : List (Nat × HO)} (e : ∀ n, ptrOk h n = true → ptrOk h' n = true) {x : AV} (hx : avOk h x = true) : avOk h' x = true := by
  cases x with
  | t x => exact tvOk_mono e hx
  | tup xs => exact tvsOk_mono e hx

/-- the state behind a region -/
theorem Rel.clean (R : Rel X β σ a w) (keep : List Nat) : Rel X β { s := keepS keep σ.s [], g := [], h := keepH σ.h [] } a w := by
  have hk : ∀ n, ptrOk σ.h n = true → ptrOk (keepH σ.h []) n = true := fun n hn => by rw [ptrOk_iff] at hn ⊢; rw [keepH_nil]; exact hn
  refine R.weaken (fun k v h => ⟨.tup [], v, (keepS_sub h).2, (coA_none v).symm⟩) (fun k o h => by rw [keepH_nil] at h; exact h) (fun m hm => by rw [keepH_nil]; exact R.be.d m hm) (fun k v h => avOk_mono hk (R.ok1 (keepS_sub h).2)) (fun k b h => lvsOk_mono hk (R.ok2 (by rw [keepH_nil] at h; exact h)))

theorem slotsOk_sound {h : List (Nat × HO)} : ∀ {l : List (Nat × AV)} {k : Nat} {v : AV}, slotsOk h l = true → (k, v) ∈ l → avOk h v = true
  | (a, x) :: r, k, v, hs, hm => by
    simp only [slotsOk, Bool.and_eq_true] at hs
    rcases List.mem_cons.1 hm with e | hm
    · injection e with e1 e2; subst e2; exact hs.1
    · exact slotsOk_sound hs.2 hm
theorem heapOk_sound {h : List (Nat × HO)} : ∀ {l : List (Nat × HO)} {k : Nat} {b : List LV}, heapOk h l = true → (k, .cells b) ∈ l → lvsOk h b = true
  | (a, .cells c) :: r, k, b, hs, hm => by
    simp only [heapOk, Bool.and_eq_true] at hs
    rcases List.mem_cons.1 hm with e | hm
    · injection e with e1 e2; injection e2 with e2; subst e2; exact hs.1
    · exact heapOk_sound hs.2 hm
  | (a, .gr _ _ _) :: r, k, b, hs, hm => by
    rcases List.mem_cons.1 hm with e | hm
    · injection e with e1 e2; cases e2
    · exact heapOk_sound (l := r) hs hm
  | (a, .mp _ _ _) :: r, k, b, hs, hm => by
    rcases List.mem_cons.1 hm with e | hm
    · injection e with e1 e2; cases e2
    · exact heapOk_sound (l := r) hs hm
  | (a, .ob _ _ _) :: r, k, b, hs, hm => by
    rcases List.mem_cons.1 hm with e | hm
    · injection e with e1 e2; cases e2
    · exact heapOk_sound (l := r) hs hm
  | (a, .vec _ _ _) :: r, k, b, hs, hm => by
    rcases List.mem_cons.1 hm with e | hm
    · injection e with e1 e2; cases e2
    · exact heapOk_sound (l := r) hs hm

theorem dropS_sub {ds : List Nat} : ∀ {l : List (Nat × AV)} {k : Nat} {v : AV}, look (dropS ds l) k = some v → look l k = some v
  | [], _, _, h => by cases h
  | (a, x) :: r, k, v, h => by
    simp only [dropS] at h
    by_cases hc : mem ds a = true
    · rw [if_pos hc] at h
      have h1 := dropS_sub h
      rw [look_cons]
      split
      · rename_i e
        subst e
        exfalso
        have : ∀ (l : List (Nat × AV)), look (dropS ds l) a = none := by
          intro l
          induction l with
          | nil => rfl
          | cons y l ih =>
            obtain ⟨b, y⟩ := y
            simp only [dropS]
            split
            · exact ih
            · rename_i hb
              rw [look_cons, if_neg (fun e => by rw [e] at hb; exact hb hc)]
              exact ih
        rw [this] at h
        cases h
      · exact h1
    · rw [if_neg hc] at h
      rw [look_cons] at h ⊢
      split at h
      · rename_i e; rw [if_pos e]; exact h
      · rename_i e; rw [if_neg e]; exact dropS_sub h
theorem dropH_sub {ds : List (Nat × HO)} : ∀ {l : List (Nat × HO)} {k : Nat}, look ds k = none → look (dropH ds l) k = look l k
  | [], _, _ => rfl
  | (a, x) :: r, k, h => by
    simp only [dropH]
    split
    · rename_i y hy
      rw [look_cons, if_neg (fun e => by rw [e, h] at hy; cases hy)]
      exact dropH_sub h
    · rw [look_cons, look_cons]
      split
      · rfl
      · exact dropH_sub h

/-- what is known at a loop's head -/
abbrev headOf (A : Ann) (ds : List Nat) (σ : St) (x : A.X) : St := { s := A.s x ++ dropS ds σ.s, g := [], h := A.h x ++ dropH (A.h x) σ.h }
end
end Go.Sy
