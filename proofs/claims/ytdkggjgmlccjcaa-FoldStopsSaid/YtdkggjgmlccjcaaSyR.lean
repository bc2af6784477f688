/- A verified generator of conditions for this program, and its soundness: part R of the proof. -/
import Derived.Test.YtdkggjgmlccjcaaSyQ
namespace Go.Sy
variable {P : Program} {L : Nat → Option Lay} {Γ : Nat → Option Con} {F : Fence} {n : Nat} {Pu : Nat → Bool} {N : Nat}

def Good (D : Nat → List Nat) (q : Nat × Oper × Foot) : Prop :=
  (∀ e ∈ q.2.1.after, Region.binds .any e = true → e.on < q.1) ∧ ∀ x ∈ D q.1, ∃ e ∈ q.2.1.after, Region.binds .any e = true ∧ (x = e.on ∨ x ∈ D e.on)
def Ahead (D : Nat → List Nat) (p q : Nat × Oper × Foot) : Prop := p.1 < q.1 ∧ (p.1 ∈ D q.1 ∨ apartF p.2.2 q.2.2 = true)

theorem depsOf_mem {acc : List (List Nat)} {o : Oper} {x : Nat} (h : x ∈ depsOf acc o) : ∃ e ∈ o.after, Region.binds .any e = true ∧ (x = e.on ∨ x ∈ acc.getD e.on []) := by
  unfold depsOf at h
  have key : ∀ (l : List Edge), x ∈ depsOf.go acc l → ∃ e ∈ l, x = e.on ∨ x ∈ acc.getD e.on [] := by
    intro l
    induction l with
    | nil => intro h; cases h
    | cons e l ih =>
      intro h
      simp only [depsOf.go, List.cons_append, List.mem_cons, List.mem_append] at h
      rcases h with h | h | h
      · exact ⟨e, List.mem_cons_self .., .inl h⟩
      · exact ⟨e, List.mem_cons_self .., .inr h⟩
      · obtain ⟨e', h1, h2⟩ := ih h
        exact ⟨e', List.mem_cons_of_mem _ h1, h2⟩
  obtain ⟨e, h1, h2⟩ := key _ h
  rw [List.mem_filter] at h1
  exact ⟨e, by simpa using h1.1, h1.2, h2⟩

theorem backOk_spec {i : Nat} {o : Oper} (h : backOk i o = true) : ∀ e ∈ o.after, Region.binds .any e = true → e.on < i := by
  intro e he hb
  unfold backOk at h
  have := List.all_eq_true.1 h e (by rw [List.mem_filter]; exact ⟨by simpa using he, hb⟩)
  simpa using this

theorem drawGo_run {ops : List Oper} : ∀ {r : List Oper} {i : Nat} {acc : List (List Nat)} {seen : List (Nat × Foot)} {σ σ' : St} {cs : List Cd}, drawGo L Γ Pu N ops r i acc seen σ = true → asteps L Γ N ops r σ = some (cs, σ') → acc.length = i →
    ∃ (items : List (Nat × Oper × Foot)) (ext : List (List Nat)), Run L Γ Pu N ops items σ cs σ' ∧ items.length = r.length ∧
      (∀ q ∈ items, i ≤ q.1 ∧ r[q.1 - i]? = some q.2.1 ∧ Good (fun j => (acc ++ ext).getD j []) q ∧ ∀ p ∈ seen, p.1 ∈ (acc ++ ext).getD q.1 [] ∨ apartF p.2 q.2.2 = true) ∧
      items.Pairwise (Ahead fun j => (acc ++ ext).getD j []) ∧ (∀ j o, r[j]? = some o → ∃ f, (i + j, o, f) ∈ items)
  | [], i, acc, seen, σ, σ', cs, h, hs, hl => by
    injection hs with hs; injection hs with e1 e2; subst e1 e2
    exact ⟨[], [], .nil, rfl, (fun q hq => by cases hq), List.Pairwise.nil, (fun j o hj => by simp at hj)⟩
  | o :: r, i, acc, seen, σ, σ', cs, h, hs, hl => by
    simp only [asteps] at hs
    simp only [drawGo] at h
    split at h
    · rename_i f c1 σ1 hf h1
      rw [h1] at hs
      simp only at hs
      split at hs
      · rename_i c2 σ2 h2
        injection hs with hs; injection hs with e1 e2; subst e1 e2
        simp only [Bool.and_eq_true] at h
        obtain ⟨hb, hseen, hgo⟩ := h
        obtain ⟨items, ext, g1, g2, g3, g4, g5⟩ := drawGo_run hgo h2 (by simp [hl])
        have hD : (acc ++ [depsOf acc o]) ++ ext = acc ++ (depsOf acc o :: ext) := by simp
        rw [hD] at g3 g4
        have hDi : (acc ++ (depsOf acc o :: ext)).getD i [] = depsOf acc o := by
          rw [List.getD_eq_getElem?_getD, List.getElem?_append_right (by omega), hl]
          simp
        have hDlt : ∀ j, j < i → (acc ++ (depsOf acc o :: ext)).getD j [] = acc.getD j [] := by
          intro j hj
          rw [List.getD_eq_getElem?_getD, List.getElem?_append_left (by omega), List.getD_eq_getElem?_getD]
        refine ⟨(i, o, f) :: items, depsOf acc o :: ext, .cons hf h1 g1, by simp [g2], fun q hq => ?_, ?_, fun j o' hj => ?_⟩
        · rcases List.mem_cons.1 hq with e | hq
          · subst e
            refine ⟨Nat.le_refl _, by simp, ⟨backOk_spec hb, fun x hx => ?_⟩, fun p hp => ?_⟩
            · simp only [hDi] at hx
              obtain ⟨e, h1, h2, h3⟩ := depsOf_mem hx
              refine ⟨e, h1, h2, h3.imp id fun h3 => ?_⟩
              show x ∈ (acc ++ (depsOf acc o :: ext)).getD e.on []
              rw [hDlt _ (backOk_spec hb e h1 h2)]
              exact h3
            · have := List.all_eq_true.1 hseen p hp
              rw [Bool.or_eq_true, mem_iff] at this
              rw [hDi]
              exact this
          · obtain ⟨a1, a2, a3, a4⟩ := g3 q hq
            refine ⟨by omega, ?_, a3, fun p hp => a4 p (List.mem_append_left _ hp)⟩
            have : q.1 - i = (q.1 - (i + 1)) + 1 := by omega
            rw [this]
            simpa using a2
        · refine List.Pairwise.cons (fun q hq => ?_) g4
          obtain ⟨a1, _, _, a4⟩ := g3 q hq
          exact ⟨by show i < q.1; omega, a4 (i, f) (by simp)⟩
        · cases j with
          | zero => simp at hj; subst hj; exact ⟨f, by simp⟩
          | succ j =>
            obtain ⟨f', hf'⟩ := g5 j o' (by simpa using hj)
            exact ⟨f', List.mem_cons_of_mem _ (by rw [show i + (j + 1) = i + 1 + j by omega]; exact hf')⟩
      · cases hs
    · cases h

theorem ands_intro : ∀ {cs : List Cd} {u : VC}, (∀ p, Cd.ob p ∈ cs → p) → ((∀ f, Cd.fact f ∈ cs → f) → u.holds) → (VC.ands cs u).holds
  | [], u, _, h => h fun f hf => by cases hf
  | .ob p :: cs, u, ho, h => ⟨ho p (List.mem_cons_self ..), ands_intro (fun q hq => ho q (List.mem_cons_of_mem _ hq)) fun hf => h fun f hm => by
      rcases List.mem_cons.1 hm with e | hm
      · cases e
      · exact hf f hm⟩
  | .fact p :: cs, u, ho, h => fun hp => ands_intro (fun q hq => ho q (List.mem_cons_of_mem _ hq)) fun hf => h fun f hm => by
      rcases List.mem_cons.1 hm with e | hm
      · injection e with e; rw [e]; exact hp
      · exact hf f hm
theorem obs_elim : ∀ {cs : List Cd} {u : VC}, (VC.obs cs u).holds → (∀ p, Cd.ob p ∈ cs → p) ∧ u.holds
  | [], _, h => ⟨(fun p hp => by cases hp), h⟩
  | .ob q :: cs, u, h => by
    obtain ⟨h1, h2⟩ := obs_elim h.2
    exact ⟨fun p hp => by
      rcases List.mem_cons.1 hp with e | hp
      · injection e with e; rw [e]; exact h.1
      · exact h1 p hp, h2⟩
  | .fact q :: cs, u, h => by
    obtain ⟨h1, h2⟩ := obs_elim (cs := cs) h
    exact ⟨fun p hp => by
      rcases List.mem_cons.1 hp with e | hp
      · cases e
      · exact h1 p hp, h2⟩
theorem fcts_elim : ∀ {cs : List Cd} {u : VC}, (VC.fcts cs u).holds → (∀ p, Cd.fact p ∈ cs → p) → u.holds
  | [], _, h, _ => h
  | .ob _ :: cs, _, h, hf => fcts_elim (cs := cs) h fun p hp => hf p (List.mem_cons_of_mem _ hp)
  | .fact q :: cs, _, h, hf => fcts_elim (cs := cs) (h (hf q (List.mem_cons_self ..))) fun p hp => hf p (List.mem_cons_of_mem _ hp)

theorem getD_both' {listed : Array Bool} {j : Nat} (hj : j < listed.size) : (listed.getD j true = false ↔ ¬ listed.getD j false = true) := by
  simp [Array.getD, hj]

section
variable {X : Cx}
theorem any_sound (hF : Wide F) (hpr : X.b0.pr = P) (hL : LOk P L) (hΓ : ConOk P Γ) (hPu : PuOk Γ Pu) {ops : Array Oper} {D : Nat → List Nat} {Q : Exit → Act → World → Prop} {v : VC} {σe : St} (hn : ∀ a' w' β' σe', Eqv σe σe' → Rel X β' σe' a' w' → v.holds → Q .normal a' w') :
    ∀ (m : Nat) (rem : List (Nat × Oper × Foot)) (listed : Array Bool) (σ σf : St) (cs : List Cd) (β : Bt) (a : Act) (w : World), rem.length = m → Run L Γ Pu X.N ops.toList rem σ cs σf → Eqv σe σf → Rel X β σ a w →
      rem.Pairwise (Ahead D) → (∀ q ∈ rem, Good D q) → (∀ q ∈ rem, ops[q.1]? = some q.2.1) → listed.size = ops.size → (∀ j, j < ops.size → (listed.getD j true = false ↔ ∃ o f, (j, o, f) ∈ rem)) →
      (∀ j, listed.getD j false = true → ∀ x ∈ D j, x < ops.size → listed.getD x false = true) →
      (∀ p, Cd.ob p ∈ cs → p) → ((∀ f, Cd.fact f ∈ cs → f) → v.holds) → wpAnyIn F n P .any ops Q m listed a w := by
  intro m
  induction m with
  | zero =>
    intro rem listed σ σf cs β a w hm hr he R _ _ _ hsz hlist _ _ hv
    have hrem : rem = [] := List.eq_nil_of_length_eq_zero hm
    subst hrem
    cases hr
    refine ⟨?_, hn a w β σ he R (hv fun f hf => by cases hf)⟩
    refine List.eq_nil_iff_forall_not_mem.2 fun j hj => ?_
    obtain ⟨h0, o, ho, _⟩ := mem_ready.1 hj
    have hlt : j < ops.size := (Array.getElem?_eq_some_iff.1 ho).1
    obtain ⟨_, _, h⟩ := (hlist j hlt).1 h0
    cases h
  | succ m ih =>
    intro rem listed σ σf cs β a w hm hr he R hpw hgood hops hsz hlist hclo hob hv
    refine ⟨fun hre => ?_, fun i hi => ?_⟩
    · exfalso
      match rem, hm with
      | q :: rem', _ =>
        have hq := hops q (List.mem_cons_self ..)
        have hlt : q.1 < ops.size := (Array.getElem?_eq_some_iff.1 hq).1
        have : q.1 ∈ Region.ready .any ops listed := by
          refine mem_ready.2 ⟨(hlist q.1 hlt).2 ⟨q.2.1, q.2.2, List.mem_cons_self ..⟩, q.2.1, hq, fun e he hb => ?_⟩
          have hlt' := (hgood q (List.mem_cons_self ..)).1 e he hb
          cases hc : listed.getD e.on false with
          | true => rfl
          | false =>
            exfalso
            have h2 := (getD_both' (listed := listed) (j := e.on) (by omega)).2 (by rw [hc]; simp)
            obtain ⟨o, f, hmem⟩ := (hlist e.on (by omega)).1 h2
            rcases List.mem_cons.1 hmem with h3 | h3
            · have : q.1 = e.on := by rw [← h3]
              omega
            · have := (List.rel_of_pairwise_cons hpw h3).1
              simp only at this
              omega
        rw [hre] at this
        cases this
    · obtain ⟨hun, o, ho, hall⟩ := mem_ready.1 hi
      have hlt : i < ops.size := (Array.getElem?_eq_some_iff.1 ho).1
      obtain ⟨o', f, hmem⟩ := (hlist i hlt).1 hun
      have ho' : o' = o := by
        have h1 := hops _ hmem
        simp only at h1
        rw [ho] at h1
        exact (Option.some.inj h1).symm
      subst ho'
      obtain ⟨A, B, rfl⟩ := List.append_of_mem hmem
      have hDl : ∀ x ∈ D i, x < ops.size → listed.getD x false = true := fun x hx hxs => by
        obtain ⟨e, h1, h2, h3⟩ := (hgood _ hmem).2 x hx
        rcases h3 with rfl | h3
        · exact hall e h1 h2
        · exact hclo e.on (hall e h1 h2) x h3 hxs
      have hapart : ∀ k ∈ A, apartF k.2.2 (i, o', f).2.2 = true := fun k hk => by
        have hk1 := (List.pairwise_append.1 hpw).2.2 k hk (i, o', f) (List.mem_cons_self ..)
        rcases hk1.2 with h | h
        · exfalso
          have hklt : k.1 < ops.size := by have := hk1.1; simp only at this; omega
          have h2 := hDl k.1 h hklt
          have h3 := (hlist k.1 hklt).2 ⟨k.2.1, k.2.2, List.mem_append_left _ hk⟩
          rw [getD_both' (by omega)] at h3
          exact h3 h2
        · exact h
      obtain ⟨ci, σi, cs', σ'', g1, g2, g3, g4, g5⟩ := hr.front hPu hapart
      unfold wpOpIn
      simp only [ho]
      refine step_sound hF hpr hL hΓ R g2 (v := .at (∀ f, Cd.fact f ∈ ci → f)) (ands_intro (fun p hp => hob p ((g5 _).2 (.inl hp))) (fun h => h)) fun a' w' β' R' hf => ?_
      have hsub : ∀ q, q ∈ A ++ B → q ∈ A ++ (i, o', f) :: B := fun q hq => by
        rcases List.mem_append.1 hq with h | h
        · exact List.mem_append_left _ h
        · exact List.mem_append_right _ (List.mem_cons_of_mem _ h)
      have hsl : (A ++ B).Sublist (A ++ (i, o', f) :: B) := (List.Sublist.refl A).append (List.sublist_cons_self ..)
      refine ih (A ++ B) (listed.setIfInBounds i true) σi σ'' cs' β' a' w' (by simp at hm ⊢; omega) g3 (he.trans g4) R' (hpw.sublist hsl) (fun q hq => hgood q (hsub q hq)) (fun q hq => hops q (hsub q hq)) (by simp [hsz]) (fun j hj => ?_) (fun j hj x hx hxs => ?_)
        (fun p hp => hob p ((g5 _).2 (.inr hp))) (fun hf' => hv fun f hfm => ((g5 _).1 hfm).elim (hf f) (hf' f))
      · by_cases hji : j = i
        · subst hji
          have h1 : (listed.setIfInBounds j true).getD j true = true := by simp [Array.getD, hsz, hlt]
          rw [h1]
          refine ⟨(fun h => by cases h), fun ⟨o, f', h⟩ => ?_⟩
          exfalso
          rcases List.mem_append.1 h with h | h
          · have := ((List.pairwise_append.1 hpw).2.2 _ h (j, o', _) (List.mem_cons_self ..)).1
            simp at this
          · have := (List.rel_of_pairwise_cons (List.pairwise_append.1 hpw).2.1 h).1
            simp at this
        · rw [getD_set_ne true (Ne.symm hji), hlist j hj]
          constructor
          · rintro ⟨o, f', h⟩
            refine ⟨o, f', ?_⟩
            rcases List.mem_append.1 h with h | h
            · exact List.mem_append_left _ h
            · rcases List.mem_cons.1 h with e | h
              · injection e with e; exact absurd e hji
              · exact List.mem_append_right _ h
          · rintro ⟨o, f', h⟩
            exact ⟨o, f', hsub _ h⟩
      · by_cases hji : j = i
        · subst hji
          exact getD_set_true (hDl x hx hxs)
        · rw [getD_set_ne false (Ne.symm hji)] at hj
          exact getD_set_true (hclo j hj x hx hxs)

/-- **a region that draws its order, by one run in the text's order** -/
theorem drawOk (hF : Wide F) (hpr : X.b0.pr = P) (hL : LOk P L) (hΓ : ConOk P Γ) (hPu : PuOk Γ Pu) (hm : P.follows .mixedOrders = true) : DrawOk P L Γ F n X (draws L Γ Pu X.N) := by
  intro ops id cs σ σ' β a w v Q hd R hs hv hn
  unfold draws at hd
  obtain ⟨items, ext, h1, h2, h3, h4, h5⟩ := drawGo_run hd hs rfl
  obtain ⟨ho, hf⟩ := obs_elim hv
  have hsize : items.length = ops.size := by rw [h2]; simp
  refine wpIn_region_any hm ?_
  have R' : Rel X β σ a { w with drawn := w.drawn + 1 } := by
    have hev : Evo (Mt β (look σ.h)) (Mt β (look σ.h)) w { w with drawn := w.drawn + 1 } := ⟨Nat.le_refl _, fun _ _ _ => rfl, fun _ _ _ h => h, fun _ _ _ => rfl, rfl, rfl, rfl⟩
    exact R.evo (β' := β) (h' := σ.h) (w' := { w with drawn := w.drawn + 1 }) hev BEvo.refl (fun _ _ h => h) (fun _ _ h => h) ⟨R.fr.os, R.fr.tape, R.fr.output, R.fr.size, R.fr.block⟩ R.own
      ⟨R.hr.m0, R.hr.lt, R.hr.fresh, R.hr.inj, R.hr.ye, fun m o hm => (R.hr.blk m o hm).evo hev BEvo.refl rfl rfl rfl rfl (fun _ _ => rfl) fun hob => dis_of R.hr.m0 R.hr.lt R.hr.fresh R.hr.inj hm hob⟩
  refine any_sound hF hpr hL hΓ hPu (D := fun j => ([] ++ ext).getD j []) (σe := σ') (v := v) (fun a' w' β' σe' e R'' hv' => ?_) ops.size items _ σ σ' cs β a _ hsize h1 Eqv.refl R' h4 (fun q hq => (h3 q hq).2.2.1) (fun q hq => by
    have := (h3 q hq).2.1
    simpa using this) (by simp) (fun j hj => ?_) (fun j hj => ?_) ho (fcts_elim hf)
  · refine hn a' w' β' ?_ hv'
    have hl : look σe'.h = look σ'.h := by funext k; exact (e.h k).symm
    refine ⟨R''.tn, R''.df, R''.fr, fun m k hm hk => R''.own m k (by rw [hl]; exact hm) hk, by rw [← hl]; exact R''.be, R''.bm, ?_, by rw [← hl]; exact R''.ev, fun t u h => ?_, fun t g b x h => ?_⟩
    · rw [← hl]; exact R''.hr
    · rw [← hl]; exact R''.sl t u (by rw [← e.s]; exact h)
    · rw [← hl]; exact R''.gd t g b x (by rw [← e.g]; exact h)
  · have hget : (Array.replicate ops.size false).getD j true = false := by simp [Array.getD, hj]
    rw [hget]
    refine ⟨fun _ => ?_, fun _ => rfl⟩
    obtain ⟨f, hf⟩ := h5 j ops[j] (by simp [hj])
    exact ⟨ops[j], f, by simpa using hf⟩
  · exfalso
    by_cases hj' : j < ops.size
    · simp [Array.getD, hj'] at hj
    · simp [Array.getD, hj'] at hj
end
end Go.Sy
