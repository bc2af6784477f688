/- A verified generator of conditions for this program, and its soundness: part N of the proof. -/
import Derived.Test.YtommmlhllifonaaSyM
namespace Go.Sy
variable {P : Program} {L : Nat → Option Lay} {Γ : Nat → Option Con} {F : Fence} {n : Nat}

theorem look_map_rn {ρ : Nat → Nat} {g : HO → HO} : ∀ {l : List (Nat × HO)} {a : Nat} {o : HO}, look (l.map fun q => (ρ q.1, g q.2)) a = some o → ∃ c o', look l c = some o' ∧ ρ c = a ∧ o = g o' ∨ (∃ c o', (c, o') ∈ l ∧ ρ c = a ∧ o = g o')
  | (c, o') :: l, a, o, h => by
    rw [List.map_cons, look_cons] at h
    split at h
    · rename_i e
      injection h with h
      exact ⟨c, o', .inl ⟨by rw [look_cons, if_pos rfl], e, h.symm⟩⟩
    · obtain ⟨c', o'', hh⟩ := look_map_rn h
      refine ⟨c', o'', .inr ?_⟩
      rcases hh with ⟨h1, h2, h3⟩ | ⟨c2, o2, h1, h2, h3⟩
      · exact ⟨c', o'', List.mem_cons_of_mem _ (look_mem h1), h2, h3⟩
      · exact ⟨c2, o2, List.mem_cons_of_mem _ h1, h2, h3⟩

theorem look_map_inj {ρ : Nat → Nat} {g : HO → HO} : ∀ {l : List (Nat × HO)}, (∀ c c' , look l c ≠ none → look l c' ≠ none → ρ c = ρ c' → c = c') → ∀ {c : Nat} {o : HO}, look l c = some o → look (l.map fun q => (ρ q.1, g q.2)) (ρ c) = some (g o)
  | (c', o') :: l, hi, c, o, h => by
    rw [List.map_cons, look_cons]
    by_cases e : ρ c' = ρ c
    · have : c' = c := hi c' c (by rw [look_cons, if_pos rfl]; simp) (by rw [h]; simp) e
      subst this
      rw [look_cons, if_pos rfl] at h
      injection h with h
      rw [if_pos e, h]
    · rw [if_neg e]
      have hne : c' ≠ c := fun h => e (by rw [h])
      rw [look_cons, if_neg hne] at h
      refine look_map_inj (fun x y hx hy hxy => ?_) h
      refine hi x y ?_ ?_ hxy
      · rw [look_cons]; split <;> simp_all
      · rw [look_cons]; split <;> simp_all
theorem look_map_none {ρ : Nat → Nat} {g : HO → HO} : ∀ {l : List (Nat × HO)} {a : Nat}, (∀ c, look l c ≠ none → ρ c ≠ a) → look (l.map fun q => (ρ q.1, g q.2)) a = none
  | [], _, _ => rfl
  | (c', o') :: l, a, h => by
    rw [List.map_cons, look_cons, if_neg (h c' (by rw [look_cons, if_pos rfl]; simp))]
    refine look_map_none fun c hc => h c ?_
    rw [look_cons]; split <;> simp_all

theorem fnOk_of_meets {f : FuncId} {fn : Func} {con : Con} (hL : LOk P L) (hΓ : ConOk P Γ) (hf : P.funcs[f]? = some fn) (hb : fn.body.isSome = true) (hn : (fn.name == "runtime.NumGoroutine") = false)
    (hcon : ∀ args hp fr cs r up, con args hp fr = some (cs, r, up) → (∀ c ∈ cs, c) → ∃ φ bs fs cargs ch rc uc, fn.ntmps = φ.N ∧ (∀ X : Cx, X.N = φ.N → DrawOk P L Γ Fence.wide 1 X φ.draw) ∧ Meets L Γ φ fn args hp r up bs fs cargs ch rc uc) : FnOk P f con := by
  have hb' : fn.body = some (fn.body.getD .skip) := by
    cases hx : fn.body with
    | none => rw [hx] at hb; cases hb
    | some c => rfl
  refine ⟨enters hf hb' hn, fun args hp fr cs r up hc hcs w M0 β vals hH hargs => ?_, fun _ _ _ _ _ _ _ => trivial⟩
  obtain ⟨φ, bs, fs, cargs, ch, rc, uc, hN, hD, m⟩ := hcon args hp fr cs r up hc hcs
  rw [← callsIn_wide (n := 1)]
  -- the callee's own names
  let βc : Nat → Option Nat := fun n => match look bs n with | some a => β a | none => none
  let X : Cx := { w0 := w, B0 := fun k => ∃ c a, look bs c = some a ∧ β a = some k, M0 := fun k off => M0 k off ∨ ∃ a, hp a ≠ none ∧ (∀ c, look bs c ≠ some a) ∧ β a = some k, N := φ.N, D := [], b0 := fun n => match look bs n with | some a => β a | none => none }
  have hbf : ∀ c a, look bs c = some a → look (bs ++ fs) c = some a := fun c a h => by rw [look_append, h]
  have hρ : ∀ c a, look (bs ++ fs) c = some a → rn (bs ++ fs) c = a := fun c a h => by simp [rn, h]
  have hpa : ∀ c a, look bs c = some a → hp a ≠ none := fun c a h => by
    obtain ⟨o, _, h2⟩ := m.sh.bo c a h
    rw [h2]; simp
  have hchb : ∀ c, look ch c ≠ none → ∃ a, look bs c = some a := fun c h => by
    cases ho : look ch c with
    | none => exact absurd ho h
    | some o => exact m.sh.ch c o ho
  have hin : In (Mt M0 β hp) (Mt X.M0 βc (look ch)) β βc (dm (look ch)) (rn (bs ++ fs)) w := by
    refine ⟨fun k off _ h h' => h ?_, fun c hc => ?_⟩
    · rcases h' with (h' | ⟨a, h1, _, h2⟩) | ⟨c, h1, h2⟩
      · exact .inl h'
      · exact .inr ⟨a, h1, h2⟩
      · obtain ⟨a, ha⟩ := hchb c h1
        simp only [βc, ha] at h2
        exact .inr ⟨a, hpa c a ha, h2⟩
    · obtain ⟨a, ha⟩ := hchb c hc
      simp only [βc, ha]
      rw [hρ c a (hbf c a ha)]
  have hbcc : ∀ c k, look ch c ≠ none → βc c = some k → ∃ a, look bs c = some a ∧ β a = some k := fun c k h hk => by
    obtain ⟨a, ha⟩ := hchb c h
    simp only [βc, ha] at hk
    exact ⟨a, ha, hk⟩
  have hHc : HR X.M0 βc (look ch) w := by
    refine ⟨?_, fun c k hc hk => ?_, fun c k off hc hk hM => ?_, fun c c' k hc hc' h1 h2 => ?_, fun c o ho => ?_⟩
    · rintro k off (h | ⟨a, h1, _, h2⟩)
      · exact hH.m0 k off h
      · exact hH.lt a k h1 h2
    · obtain ⟨a, ha, hk⟩ := hbcc c k hc hk
      exact hH.lt a k (hpa c a ha) hk
    · obtain ⟨a, ha, hk⟩ := hbcc c k hc hk
      rcases hM with h | ⟨a', h1, h2, h3⟩
      · exact hH.fresh a k off (hpa c a ha) hk h
      · exact h2 c (by rw [ha, hH.inj a a' k (hpa c a ha) h1 hk h3])
    · obtain ⟨a, ha, hk⟩ := hbcc c k hc h1
      obtain ⟨a', ha', hk'⟩ := hbcc c' k hc' h2
      have : a = a' := hH.inj a a' k (hpa c a ha) (hpa c' a' ha') hk hk'
      subst this
      exact m.sh.inj c c' a (hbf _ _ ha) (hbf _ _ ha')
    · obtain ⟨a, ha⟩ := m.sh.ch c o ho
      obtain ⟨o', h1, h2⟩ := m.sh.bo c a ha
      rw [ho] at h1
      injection h1 with h1
      subst h1
      have h3 := hH.blk a _ h2
      cases o with
      | cells b =>
        obtain ⟨k, arr, e, g1, g2, g3⟩ := h3
        exact ⟨k, arr, e, by simp only [βc, ha]; exact g1, g2, VLs.in_ hin g3 (heapOk_sound m.ok2 (look_mem ho))⟩
      | gr => exact h3.elim
  have hvals : All2 (VT w (Mt X.M0 βc (look ch)) βc (dm (look ch))) cargs vals := VTs.in_ hin (m.eqa ▸ hargs) m.ok1
  have hlv : vals.length = args.length := hargs.length.symm
  have hlc : cargs.length = vals.length := hvals.length
  have hlen := m.len
  refine callsIn_of_wp hf hb' trivial ?_
  have hR0 : Rel X βc { s := args0 0 cargs, g := [], h := ch } { tmps := vals.toArray ++ Array.replicate (fn.ntmps - vals.toArray.size) undef, defers := [] } w := by
    refine ⟨?_, rfl, Fr.refl, fun c k hc hk => ?_, fun c hc => ?_, fun c _ => rfl, hHc, fun t v h => ?_, fun t g b x h => by cases h⟩
    · simp [hN, X]; omega
    · obtain ⟨a, ha, hk⟩ := hbcc c k hc hk
      exact .inl ⟨c, a, ha, hk⟩
    · simp only [X] at hc
      cases hl : look bs c with
      | none => rw [hl] at hc; exact absurd rfl hc
      | some a => obtain ⟨o, h1, _⟩ := m.sh.bo c a hl; show look ch c ≠ none; rw [h1]; simp
    · obtain ⟨j, x, h1, h2, rfl⟩ := args0_look h
      have hj : j < cargs.length := (List.getElem?_eq_some_iff.1 h2).1
      obtain ⟨u, hu, hv⟩ := hvals.get h2
      refine ⟨by show t < φ.N; omega, ?_⟩
      have : (vals.toArray ++ Array.replicate (fn.ntmps - vals.toArray.size) undef).getD t undef = u := by
        rw [Array.getD_eq_getD_getElem?, Array.getElem?_append_left (by simp; omega)]
        have : t = j := by omega
        subst this
        simp [hu]
      rw [this]
      exact hv
  have hpost : ∀ β' σ a w', (postH L fn.results.toList rc uc σ).holds → Rel X β' σ a w' →
      a.defers = [] ∧ ∃ v, (results fn a.tmps).run P w' = .ok v w' ∧ ∃ u, Ending.returned v = Ending.returned u ∧ FnPost M0 hp (upd hp up) β r w w' u := by
    intro β' σ a w' hp0 R
    unfold postH at hp0
    split at hp0
    · rename_i xs hxs
      have hp0 := VC.all_holds hp0
      simp only [List.mem_append] at hp0
      obtain ⟨v, hv1, hv2⟩ := results_sound hL R hxs
      have heq : resAV xs = rc := eqAV_sound (fun p hp => hp0 p (.inl hp))
      have hue := entH_sound (fun p hp => hp0 p (.inr hp))
      rw [heq] at hv2
      -- in the names of uc alone
      have hud : ∀ c, look uc c ≠ none → look σ.h c ≠ none := fun c hc => by
        cases ho : look uc c with
        | none => exact absurd ho hc
        | some o => rw [hue c o (look_mem ho)]; simp
      have hev0 : Evo (Mt X.M0 β' (look σ.h)) (Mt X.M0 β' (look uc)) w' w' := ⟨Nat.le_refl _, fun _ _ _ => rfl, fun k off _ h h' => h (by
        rcases h' with h' | ⟨c, h1, h2⟩
        · exact .inl h'
        · exact .inr ⟨c, hud c h1, h2⟩)⟩
      have hv3 : VA w' (Mt X.M0 β' (look uc)) β' (dm (look uc)) rc v := VA.re hev0 hv2 m.ok3
      have hblk : ∀ c b, look uc c = some (.cells b) → ∃ k arr e, β' c = some k ∧ w'.heap[k]? = some (.cells arr e (0, 0)) ∧ All2 (VL w' (Mt X.M0 β' (look uc)) β' (dm (look uc))) b arr.toList := fun c b hc => by
        obtain ⟨k, arr, e, g1, g2, g3⟩ := R.hr.blk c _ (hue c _ (look_mem hc))
        exact ⟨k, arr, e, g1, g2, VLs.re hev0 g3 (heapOk_sound m.ok4 (look_mem hc))⟩
      -- the caller's names
      let β'' : Nat → Option Nat := fun a => open Classical in if h : ∃ c, look (bs ++ fs) c = some a then β' h.choose else β a
      have hβ1 : ∀ c a, look (bs ++ fs) c = some a → β'' a = β' c := fun c a hc => by
        have hex : ∃ c, look (bs ++ fs) c = some a := ⟨c, hc⟩
        simp only [β'', dif_pos hex]
        rw [m.sh.inj _ c a hex.choose_spec hc]
      have hβ2 : ∀ a, (∀ c, look (bs ++ fs) c ≠ some a) → β'' a = β a := fun a ha => by
        have hex : ¬ ∃ c, look (bs ++ fs) c = some a := fun ⟨c, hc⟩ => ha c hc
        simp only [β'', dif_neg hex]
      have hb0 : ∀ c a, look bs c = some a → β a ≠ none → β' c = β a := fun c a hc hne => by
        have h1 := R.bb c (by simp only [X, hc]; exact hne)
        simpa only [X, hc] using h1
      have hβne : ∀ a, hp a ≠ none → β a ≠ none := fun a ha => by
        cases ho : hp a with
        | none => exact absurd ho ha
        | some o =>
          have := hH.blk a o ho
          cases o with
          | cells b => obtain ⟨k, _, _, g1, _⟩ := this; rw [g1]; simp
          | gr => exact this.elim
      have hold : ∀ a, hp a ≠ none → β'' a = β a := fun a ha => by
        by_cases hex : ∃ c, look (bs ++ fs) c = some a
        · obtain ⟨c, hc⟩ := hex
          rw [hβ1 c a hc]
          rw [look_append] at hc
          split at hc
          · rename_i a' ha'
            injection hc with hc
            subst hc
            exact hb0 c a' ha' (hβne a' ha)
          · rename_i hnone
            exact absurd (m.sh.fr c a hnone hc) ha
        · exact hβ2 a (fun c hc => hex ⟨c, hc⟩)
      have hinjρ : ∀ c c', look uc c ≠ none → look uc c' ≠ none → rn (bs ++ fs) c = rn (bs ++ fs) c' → c = c' := fun c c' hc hc' he => by
        cases h1 : look (bs ++ fs) c with
        | none => exact absurd h1 (m.uc2 c hc)
        | some a =>
          cases h2 : look (bs ++ fs) c' with
          | none => exact absurd h2 (m.uc2 c' hc')
          | some a' =>
            rw [hρ c a h1, hρ c' a' h2] at he
            subst he
            exact m.sh.inj c c' a h1 h2
      -- what the caller's heap holds of each name
      have hexp : ∀ c o, look uc c = some o → ∃ a, look (bs ++ fs) c = some a ∧ upd hp up a = some (rnH (rn (bs ++ fs)) o) := fun c o hc => by
        cases h1 : look (bs ++ fs) c with
        | none => exact absurd h1 (m.uc2 c (by rw [hc]; simp))
        | some a =>
          refine ⟨a, rfl, ?_⟩
          rw [m.eqh a]
          have := look_map_inj (g := rnH (rn (bs ++ fs))) hinjρ hc
          rw [hρ c a h1] at this
          rw [this]
      have hnexp : ∀ a, (∀ c, look (bs ++ fs) c ≠ some a) → upd hp up a = hp a := fun a ha => by
        rw [m.eqh a, look_map_none fun c hc h => ?_]
        cases h1 : look (bs ++ fs) c with
        | none => exact m.uc2 c hc h1
        | some a' => rw [hρ c a' h1] at h; subst h; exact ha c h1
      have hcase : ∀ a, upd hp up a ≠ none → (∃ c, look (bs ++ fs) c = some a ∧ look uc c ≠ none) ∨ ((∀ c, look (bs ++ fs) c ≠ some a) ∧ hp a ≠ none) := fun a ha => by
        by_cases hex : ∃ c, look (bs ++ fs) c = some a
        · obtain ⟨c, hc⟩ := hex
          exact .inl ⟨c, hc, m.uc1 c a hc⟩
        · have hno : ∀ c, look (bs ++ fs) c ≠ some a := fun c hc => hex ⟨c, hc⟩
          exact .inr ⟨hno, by rw [hnexp a hno] at ha; exact ha⟩
      have hkeep : ∀ a, hp a ≠ none → upd hp up a ≠ none := fun a ha => by
        by_cases hex : ∃ c, look (bs ++ fs) c = some a
        · obtain ⟨c, hc⟩ := hex
          cases ho : look uc c with
          | none => exact absurd ho (m.uc1 c a hc)
          | some o =>
            obtain ⟨a', h1, h2⟩ := hexp c o ho
            rw [hc] at h1; injection h1 with h1; subst h1
            rw [h2]; simp
        · rw [hnexp a (fun c hc => hex ⟨c, hc⟩)]; exact ha
      -- where a block of the callee's lies
      have hplace : ∀ c a k, look (bs ++ fs) c = some a → look uc c ≠ none → β' c = some k → (hp a ≠ none ∧ β a = some k ∧ ∃ c, look bs c = some a) ∨ (hp a = none ∧ w.heap.size ≤ k) := fun c a k hc hu hk => by
        cases h1 : look bs c with
        | some a' =>
          have := hbf c a' h1
          rw [hc] at this; injection this with this; subst this
          refine .inl ⟨hpa c a h1, ?_, c, h1⟩
          rw [← hb0 c a h1 (hβne a (hpa c a h1))]; exact hk
        | none =>
          have h2 : look fs c = some a := by rw [look_append, h1] at hc; exact hc
          refine .inr ⟨m.sh.fr c a h1 h2, ?_⟩
          rcases R.own c k (hud c hu) hk with ⟨c', a', h3, h4⟩ | h
          · exfalso
            have h5 : β' c' = some k := by rw [hb0 c' a' h3 (by rw [h4]; simp)]; exact h4
            have h6 : look σ.h c' ≠ none := R.bd c' (by simp only [X, h3]; rw [h4]; simp)
            have := R.hr.inj c c' k (hud c hu) h6 hk h5
            rw [this, h3] at h1
            cases h1
          · exact h
      have hMt : ∀ k off, ¬ Mt X.M0 β' (look uc) k off → k < w'.heap.size → ¬ Mt M0 β'' (upd hp up) k off := fun k off h _ h' => h (by
        rcases h' with h' | ⟨a, h1, h2⟩
        · exact .inl (.inl h')
        · rcases hcase a h1 with ⟨c, hc, hu⟩ | ⟨hno, ha⟩
          · exact .inr ⟨c, hu, by rw [← hβ1 c a hc]; exact h2⟩
          · exact .inl (.inr ⟨a, ha, fun c hc => hno c (hbf c a hc), by rw [← hβ2 a hno]; exact h2⟩))
      have hout : Out (Mt X.M0 β' (look uc)) (Mt M0 β'' (upd hp up)) β' β'' (dm (look uc)) (dm (upd hp up)) (rn (bs ++ fs)) w' := by
        refine ⟨fun k off hk h => hMt k off h hk, fun c hc => ?_, fun c hc => ?_⟩
        · cases h1 : look (bs ++ fs) c with
          | none => exact absurd h1 (m.uc2 c hc)
          | some a => rw [hρ c a h1]; exact hβ1 c a h1
        · cases ho : look uc c with
          | none => exact absurd ho hc
          | some o =>
            obtain ⟨a, h1, h2⟩ := hexp c o ho
            unfold dm
            rw [hρ c a h1, h2]; simp
      -- old memory
      have hnew : ∀ a k, upd hp up a ≠ none → β'' a = some k → hp a ≠ none ∨ w.heap.size ≤ k := fun a k ha hk => by
        rcases hcase a ha with ⟨c, hc, hu⟩ | ⟨_, h⟩
        · rcases hplace c a k hc hu (by rw [← hβ1 c a hc]; exact hk) with ⟨h, _⟩ | ⟨_, h⟩
          · exact .inl h
          · exact .inr h
        · exact .inl h
      have hevo : Evo (Mt M0 β hp) (Mt M0 β'' (upd hp up)) w w' := by
        refine ⟨R.fr.size, fun p hp' hm => cell_of_heap (R.fr.block _ hp' fun ⟨c, a, h1, h2⟩ => hm (.inr ⟨a, hpa c a h1, h2⟩)), fun k off hk h h' => h ?_⟩
        rcases h' with h' | ⟨a, h1, h2⟩
        · exact .inl h'
        · rcases hnew a k h1 h2 with h3 | h3
          · exact .inr ⟨a, h3, by rw [← hold a h3]; exact h2⟩
          · omega
      refine ⟨R.df, v, hv1, v, rfl, ⟨β'', hold, ?_, by rw [m.res]; exact VA.out hout hv3, hnew, hevo⟩, ?_⟩
      · refine ⟨fun k off h => Nat.lt_of_lt_of_le (hH.m0 k off h) R.fr.size, fun a k ha hk => ?_, fun a k off ha hk hM => ?_, fun a a' k ha ha' h1 h2 => ?_, fun a o ho => ?_⟩
        · rcases hcase a ha with ⟨c, hc, hu⟩ | ⟨hno, h⟩
          · exact R.hr.lt c k (hud c hu) (by rw [← hβ1 c a hc]; exact hk)
          · exact Nat.lt_of_lt_of_le (hH.lt a k h (by rw [← hβ2 a hno]; exact hk)) R.fr.size
        · rcases hnew a k ha hk with h | h
          · exact hH.fresh a k off h (by rw [← hold a h]; exact hk) hM
          · have := hH.m0 k off hM; omega
        · rcases hcase a ha with ⟨c, hc, hu⟩ | ⟨hno, h⟩ <;> rcases hcase a' ha' with ⟨c', hc', hu'⟩ | ⟨hno', h'⟩
          · have := R.hr.inj c c' k (hud c hu) (hud c' hu') (by rw [← hβ1 c a hc]; exact h1) (by rw [← hβ1 c' a' hc']; exact h2)
            subst this
            rw [hc] at hc'; injection hc'
          · rcases hplace c a k hc hu (by rw [← hβ1 c a hc]; exact h1) with ⟨g1, g2, _⟩ | ⟨_, g⟩
            · exact hH.inj a a' k g1 h' g2 (by rw [← hβ2 a' hno']; exact h2)
            · have := hH.lt a' k h' (by rw [← hβ2 a' hno']; exact h2); omega
          · rcases hplace c' a' k hc' hu' (by rw [← hβ1 c' a' hc']; exact h2) with ⟨g1, g2, _⟩ | ⟨_, g⟩
            · exact hH.inj a a' k h g1 (by rw [← hβ2 a hno]; exact h1) g2
            · have := hH.lt a k h (by rw [← hβ2 a hno]; exact h1); omega
          · exact hH.inj a a' k h h' (by rw [← hβ2 a hno]; exact h1) (by rw [← hβ2 a' hno']; exact h2)
        · rcases hcase a (by rw [ho]; simp) with ⟨c, hc, hu⟩ | ⟨hno, h⟩
          · cases hoc : look uc c with
            | none => exact absurd hoc hu
            | some oc =>
              obtain ⟨a', h1, h2⟩ := hexp c oc hoc
              rw [hc] at h1; injection h1 with h1; subst h1
              rw [h2] at ho; injection ho with ho; subst ho
              cases oc with
              | cells b =>
                obtain ⟨k, arr, e, g1, g2, g3⟩ := hblk c b hoc
                exact ⟨k, arr, e, by rw [hβ1 c a hc]; exact g1, g2, VLs.out hout g3⟩
              | gr => have := R.hr.blk c _ (hue c _ (look_mem hoc)); exact this.elim
          · rw [hnexp a hno] at ho
            have h3 := hH.blk a o ho
            cases o with
            | cells b =>
              obtain ⟨k, arr, e, g1, g2, g3⟩ := h3
              refine ⟨k, arr, e, by rw [hβ2 a hno]; exact g1, ?_, g3.mono fun _ _ _ hv => VL.evo hevo ⟨fun m hm => hkeep m hm, fun m hm => hold m hm⟩ hv⟩
              rw [R.fr.block k (hH.lt a k h g1) fun ⟨c, a', h1, h2⟩ => ?_]
              · exact g2
              · exact hno c (by rw [hbf c a' h1, hH.inj a a' k h (hpa c a' h1) g1 h2])
            | gr => exact h3.elim
      · exact ⟨R.fr.os, R.fr.tape, R.fr.output, R.fr.size, fun k hk hB => R.fr.block k hk fun ⟨c, a, h1, h2⟩ => hB ⟨a, hpa c a h1, h2⟩⟩
    · exact hp0.elim
  have := vc_sound (F := Fence.wide) (n := 1) (X := X) (Q := bodyPost P fn fun e w' => ∃ v, e = .returned v ∧ FnPost M0 hp (upd hp up) β r w w' v) ⟨fun _ => trivial, rfl, rfl⟩ hL hΓ (φ := φ) rfl (hD X rfl)
    (post := postH L fn.results.toList rc uc) (fun β' σ a w' h R => ⟨hpost β' σ a w' h R, hpost β' σ a w' h R⟩) 4000 [.code (fn.body.getD .skip)] _ βc _ w m.vc hR0
  exact this
end Go.Sy
