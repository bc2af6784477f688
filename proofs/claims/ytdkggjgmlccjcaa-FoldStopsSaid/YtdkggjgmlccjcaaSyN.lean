/- A verified generator of conditions for this program, and its soundness: part N of the proof. -/
import Derived.Test.YtdkggjgmlccjcaaSyM
namespace Go.Sy
variable {P : Program} {L : Nat → Option Lay} {Γ : Nat → Option Con} {F : Fence} {n : Nat}

theorem look_map_rn {ρ : Nat → Nat} {g : HO → HO} : ∀ {l : List (Nat × HO)} {a : Nat} {o : HO}, look (l.map fun q => (ρ q.1, g q.2)) a = some o → ∃ c o', look l c = some o' ∧ ρ c = a ∧ o = g o' ∨ (∃ c o', (c, o') ∈ l ∧ ρ c = a ∧ o = g o')
  | (c, o') :: l, a, o, h => by
    rw [List.map_cons, look_cons] at h
    split at h
    · rename_i e
      injection h with h
      exact ⟨c, o', .inl ⟨by rw [look_cons, if_pos rfl], e, h.symm⟩⟩
    · obtain ⟨c', o'', hh⟩ := look_map_rn h
      refine ⟨c', o'', .inr ?_⟩
      rcases hh with ⟨h1, h2, h3⟩ | ⟨c2, o2, h1, h2, h3⟩
      · exact ⟨c', o'', List.mem_cons_of_mem _ (look_mem h1), h2, h3⟩
      · exact ⟨c2, o2, List.mem_cons_of_mem _ h1, h2, h3⟩

theorem look_map_inj {ρ : Nat → Nat} {g : HO → HO} : ∀ {l : List (Nat × HO)}, (∀ c c' , look l c ≠ none → look l c' ≠ none → ρ c = ρ c' → c = c') → ∀ {c : Nat} {o : HO}, look l c = some o → look (l.map fun q => (ρ q.1, g q.2)) (ρ c) = some (g o)
  | (c', o') :: l, hi, c, o, h => by
    rw [List.map_cons, look_cons]
    by_cases e : ρ c' = ρ c
    · have : c' = c := hi c' c (by rw [look_cons, if_pos rfl]; simp) (by rw [h]; simp) e
      subst this
      rw [look_cons, if_pos rfl] at h
      injection h with h
      rw [if_pos e, h]
    · rw [if_neg e]
      have hne : c' ≠ c := fun h => e (by rw [h])
      rw [look_cons, if_neg hne] at h
      refine look_map_inj (fun x y hx hy hxy => ?_) h
      refine hi x y ?_ ?_ hxy
      · rw [look_cons]; split <;> simp_all
      · rw [look_cons]; split <;> simp_all
theorem look_map_none {ρ : Nat → Nat} {g : HO → HO} : ∀ {l : List (Nat × HO)} {a : Nat}, (∀ c, look l c ≠ none → ρ c ≠ a) → look (l.map fun q => (ρ q.1, g q.2)) a = none
  | [], _, _ => rfl
  | (c', o') :: l, a, h => by
    rw [List.map_cons, look_cons, if_neg (h c' (by rw [look_cons, if_pos rfl]; simp))]
    refine look_map_none fun c hc => h c ?_
    rw [look_cons]; split <;> simp_all

theorem fnOk_of_meets {f : FuncId} {fn : Func} {con : Con} (hL : LOk P L) (hΓ : ConOk P Γ) (hf : P.funcs[f]? = some fn) (hb : fn.body.isSome = true) (hn : (fn.name == "runtime.NumGoroutine") = false)
    (hcon : ∀ args hp fr cs r up, con args hp fr = some (cs, r, up) → (∀ c ∈ cs, c) → ∃ φ bs fs cargs ch rc uc, fn.ntmps = φ.N ∧ (∀ (F : Fence) (n : Nat) (X : Cx), Wide F → X.N = φ.N → X.b0.pr = P → DrawOk P L Γ F n X φ.draw) ∧ Meets L Γ φ fn args hp r up bs fs cargs ch rc uc) : FnOk P f con := by
  have hb' : fn.body = some (fn.body.getD .skip) := by
    cases hx : fn.body with
    | none => rw [hx] at hb; cases hb
    | some c => rfl
  refine ⟨enters hf hb' hn, fun args hp fr cs r up hc hcs w β vals hpr hH hargs => ?_⟩
  obtain ⟨φ, bs, fs, cargs, ch, rc, uc, hN, hD, m⟩ := hcon args hp fr cs r up hc hcs
  rw [← callsIn_wide (n := 1)]
  -- the callee's own names
  let βc : Bt := ⟨fun n => match look bs n with | some a => β a | none => none, fun n => match look bs n with | some a => β.o a | none => none,
    fun k off => β.m k off ∨ ∃ a o, hp a = some o ∧ (∀ c, look bs c ≠ some a) ∧ ((β a = some k ∧ o.mut off) ∨ β.ym a k off),
    fun n => match look bs n with | some a => β.ym a | none => fun _ _ => False, fun n => match look bs n with | some a => β.yj a | none => fun _ _ _ _ => True, β.pr⟩
  let X : Cx := { w0 := w, B0 := fun k => ∃ c a, look bs c = some a ∧ bk β a k, N := φ.N, b0 := βc, D0 := fun n => look ch n ≠ none, M := Mt βc (look ch), mb := w.heap.size }
  have hbf : ∀ c a, look bs c = some a → look (bs ++ fs) c = some a := fun c a h => by rw [look_append, h]
  have hρ : ∀ c a, look (bs ++ fs) c = some a → rn (bs ++ fs) c = a := fun c a h => by simp [rn, h]
  have hpa : ∀ c a, look bs c = some a → hp a ≠ none := fun c a h => by
    obtain ⟨o, _, h2⟩ := m.sh.bo c a h
    rw [h2]; simp
  have hchb : ∀ c, look ch c ≠ none → ∃ a, look bs c = some a := fun c h => by
    cases ho : look ch c with
    | none => exact absurd ho h
    | some o => exact m.sh.ch c o ho
  have hbc : ∀ c a, look bs c = some a → βc c = β a ∧ βc.o c = β.o a ∧ βc.ym c = β.ym a ∧ βc.yj c = β.yj a := fun c a h => by simp only [βc, h]; exact ⟨trivial, trivial, trivial, trivial⟩
  have hin : In (Mt β hp) (Mt βc (look ch)) β βc (dm (look ch)) (rn (bs ++ fs)) w := by
    refine ⟨fun k off _ h h' => h ?_, fun c hc => ?_, rfl⟩
    · rcases h' with (h' | ⟨a, o, h1, _, h2⟩) | ⟨c, o, h1, h2⟩
      · exact .inl h'
      · exact .inr ⟨a, o, h1, h2⟩
      · obtain ⟨a, ha⟩ := m.sh.ch c o h1
        obtain ⟨o', g1, g2⟩ := m.sh.bo c a ha
        rw [h1] at g1; injection g1 with g1; subst g1
        rw [(hbc c a ha).1, (hbc c a ha).2.2.1] at h2
        exact .inr ⟨a, _, g2, h2.imp (fun h => ⟨h.1, mut_rn.2 h.2⟩) id⟩
    · obtain ⟨a, ha⟩ := hchb c hc
      rw [hρ c a (hbf c a ha)]
      exact hbc c a ha
  have hbcc : ∀ c k, look ch c ≠ none → bk βc c k → ∃ a, look bs c = some a ∧ bk β a k := fun c k h hk => by
    obtain ⟨a, ha⟩ := hchb c h
    unfold bk at hk
    rw [(hbc c a ha).1, (hbc c a ha).2.2.1] at hk
    exact ⟨a, ha, hk⟩
  have bko : ∀ {a o k off}, hp a = some o → ((β a = some k ∧ o.mut off) ∨ β.ym a k off) → hp a ≠ none ∧ bk β a k := fun h1 h2 => ⟨by rw [h1]; simp, h2.elim (fun h => .inl h.1) fun h => .inr ⟨_, h⟩⟩
  have hcf : ∀ c k off, look ch c ≠ none → bk βc c k → ¬ βc.m k off := fun c k off hc hk hM => by
    obtain ⟨a, ha, hk⟩ := hbcc c k hc hk
    rcases hM with h | ⟨a', o', h1, h2, h3⟩
    · exact hH.fresh a k off (hpa c a ha) hk h
    · exact h2 c (by rw [ha, hH.inj a a' k (hpa c a ha) (bko h1 h3).1 hk (bko h1 h3).2])
  have hci : ∀ c c' k, look ch c ≠ none → look ch c' ≠ none → bk βc c k → bk βc c' k → c = c' := fun c c' k hc hc' h1 h2 => by
    obtain ⟨a, ha, hk⟩ := hbcc c k hc h1
    obtain ⟨a', ha', hk'⟩ := hbcc c' k hc' h2
    have : a = a' := hH.inj a a' k (hpa c a ha) (hpa c' a' ha') hk hk'
    subst this
    exact m.sh.inj c c' a (hbf _ _ ha) (hbf _ _ ha')
  have hcm : ∀ k off, βc.m k off → k < w.heap.size := by
    rintro k off (h | ⟨a, o, h1, _, h2⟩)
    · exact hH.m0 k off h
    · exact hH.lt a k (bko h1 h2).1 (bko h1 h2).2
  have hcl : ∀ c k, look ch c ≠ none → bk βc c k → k < w.heap.size := fun c k hc hk => by
    obtain ⟨a, ha, hk⟩ := hbcc c k hc hk
    exact hH.lt a k (hpa c a ha) hk
  have hHc : HR βc (look ch) w := by
    refine ⟨hcm, hcl, hcf, hci, fun c o ho hob => ?_, fun c o ho => ?_⟩
    · obtain ⟨a, ha⟩ := m.sh.ch c o ho
      obtain ⟨o', h1, h2⟩ := m.sh.bo c a ha
      rw [ho] at h1; injection h1 with h1; subst h1
      rw [(hbc c a ha).2.2.1]
      exact hH.ye a _ h2 (by cases o <;> first | rfl | cases hob)
    · obtain ⟨a, ha⟩ := m.sh.ch c o ho
      obtain ⟨o', h1, h2⟩ := m.sh.bo c a ha
      rw [ho] at h1
      injection h1 with h1
      subst h1
      have h3 := hH.blk a _ h2
      rw [← hρ c a (hbf c a ha)] at h3
      exact h3.in_ hin (by unfold dm; rw [ho]; simp) (fun b hb => heapOk_sound m.ok2 (look_mem (by rw [ho, hb]))) fun hob => dis_of hcm hcl hcf hci ho hob
  have hvals : All2 (VT w (Mt βc (look ch)) βc (dm (look ch))) cargs vals := VTs.in_ hin (m.eqa ▸ hargs) m.ok1
  have hlv : vals.length = args.length := hargs.length.symm
  have hlc : cargs.length = vals.length := hvals.length
  have hlen := m.len
  refine callsIn_of_wp_marks hf hb' trivial ?_
  have hR0 : Rel X βc { s := args0 0 cargs, g := [], h := ch } { tmps := vals.toArray ++ Array.replicate (fn.ntmps - vals.toArray.size) undef, defers := [] } w := by
    refine ⟨?_, trivial, Fr.refl, fun c k hc hk => ?_, BEvo.refl, fun _ _ h => h, hHc, Evo.refl, fun t v h => ?_, fun t g b x h => by cases h⟩
    · simp [hN, X]; omega
    · obtain ⟨a, ha, hk⟩ := hbcc c k hc hk
      exact .inl ⟨c, a, ha, hk⟩
    · obtain ⟨j, x, h1, h2, rfl⟩ := args0_look h
      have hj : j < cargs.length := (List.getElem?_eq_some_iff.1 h2).1
      obtain ⟨u, hu, hv⟩ := hvals.get h2
      refine ⟨by show t < φ.N; omega, ?_⟩
      have : (vals.toArray ++ Array.replicate (fn.ntmps - vals.toArray.size) undef).getD t undef = u := by
        rw [Array.getD_eq_getD_getElem?, Array.getElem?_append_left (by simp; omega)]
        have : t = j := by omega
        subst this
        simp [hu]
      rw [this]
      exact hv
  have hpost : ∀ β' σ a w', (postH L fn.results.toList rc uc σ).holds → Rel X β' σ a w' →
      LeavesInM Fence.wide 1 P fn a.tmps (fun e w' => ∃ v, e = .returned v ∧ FnPost hp (upd hp up) β r w w' v) a.defers .returning w' := by
    intro β' σ a w' hp0 R
    unfold postH at hp0
    split at hp0
    · rename_i xs hxs
      refine Rel.leaves (Nat.le_refl _) R fun w' R => ?_
      obtain ⟨v, hv1, hv2⟩ := results_sound hL R hxs
      obtain ⟨β', σ, R, hv2, hue⟩ : ∃ β' σ', Rel X β' σ' { tmps := a.tmps, defers := [] } w' ∧ VA w' (Mt β' (look σ'.h)) β' (dm (look σ'.h)) rc v ∧ ∀ k o, (k, o) ∈ uc → look σ'.h k = some o := by
        split at hp0
        · rcases hfz : frzA σ.h (resAV xs) with ⟨ps, y, es⟩
          rw [hfz] at hp0
          simp only at hp0
          have hp0 := VC.all_holds hp0
          simp only [List.mem_append] at hp0
          obtain ⟨β2, R2, _, _, hy⟩ := frzA_sound R hfz fun p hp => hp0 p (.inl hp)
          have hv3 := coA_sound (c := rc) (hy v hv2)
          rw [eqAV_sound fun p hp => hp0 p (.inr (.inl hp))] at hv3
          exact ⟨β2, { σ with h := upds es σ.h }, R2, hv3, entH_sound (σ := upds es σ.h) fun p hp => hp0 p (.inr (.inr hp))⟩
        · have hp0 := VC.all_holds hp0
          simp only [List.mem_append] at hp0
          have hv3 := coA_sound (c := rc) hv2
          rw [eqAV_sound fun p hp => hp0 p (.inl hp)] at hv3
          exact ⟨β', σ, R, hv3, entH_sound fun p hp => hp0 p (.inr hp)⟩
      have hm : ∀ k off, βc.m k off → β'.m k off := R.bm
      -- in the names of uc alone
      have hue' : ∀ c o, look uc c = some o → look σ.h c = some o := fun c o hc => hue c o (look_mem hc)
      have hud : ∀ c, look uc c ≠ none → look σ.h c ≠ none := fun c hc => by
        cases ho : look uc c with
        | none => exact absurd ho hc
        | some o => rw [hue' c o ho]; simp
      have hMu : ∀ k off, Mt β' (look uc) k off → Mt β' (look σ.h) k off := fun k off h => by
        rcases h with h | ⟨c, o, h1, h2⟩
        · exact .inl h
        · exact .inr ⟨c, o, hue' c o h1, h2⟩
      have hev0 : Evo (Mt β' (look σ.h)) (Mt β' (look uc)) w' w' := Evo.less hMu
      have hv3 : VA w' (Mt β' (look uc)) β' (dm (look uc)) rc v := VA.re hev0 hv2 m.ok3
      have hblk : ∀ c o, look uc c = some o → HOR w' (Mt β' (look uc)) β' (dm (look uc)) c o := fun c o hc =>
        (R.hr.blk c _ (hue' c o hc)).re hMu (fun b hb => heapOk_sound m.ok4 (look_mem (by rw [hc, hb]))) fun hob => dis_of R.hr.m0 R.hr.lt R.hr.fresh R.hr.inj (hue' c o hc) hob
      -- the caller's names
      let β'' : Bt := ⟨fun a => open Classical in if h : ∃ c, look (bs ++ fs) c = some a then β' h.choose else β a, fun a => open Classical in if h : ∃ c, look (bs ++ fs) c = some a then β'.o h.choose else β.o a, β.m,
        fun a => open Classical in if h : ∃ c, look (bs ++ fs) c = some a then β'.ym h.choose else β.ym a, fun a => open Classical in if h : ∃ c, look (bs ++ fs) c = some a then β'.yj h.choose else β.yj a, β.pr⟩
      have hβ1 : ∀ c a, look (bs ++ fs) c = some a → β'' a = β' c ∧ β''.o a = β'.o c ∧ β''.ym a = β'.ym c ∧ β''.yj a = β'.yj c := fun c a hc => by
        have hex : ∃ c, look (bs ++ fs) c = some a := ⟨c, hc⟩
        simp only [β'', dif_pos hex]
        rw [m.sh.inj _ c a hex.choose_spec hc]
        exact ⟨rfl, rfl, rfl, rfl⟩
      have hβ2 : ∀ a, (∀ c, look (bs ++ fs) c ≠ some a) → β'' a = β a ∧ β''.o a = β.o a ∧ β''.ym a = β.ym a ∧ β''.yj a = β.yj a := fun a ha => by
        have hex : ¬ ∃ c, look (bs ++ fs) c = some a := fun ⟨c, hc⟩ => ha c hc
        simp only [β'', dif_neg hex]
        exact ⟨trivial, trivial, trivial, trivial⟩
      have hk1 : ∀ c a k, look (bs ++ fs) c = some a → (bk β'' a k ↔ bk β' c k) := fun c a k hc => by unfold bk; rw [(hβ1 c a hc).1, (hβ1 c a hc).2.2.1]
      have hk2 : ∀ a k, (∀ c, look (bs ++ fs) c ≠ some a) → (bk β'' a k ↔ bk β a k) := fun a k ha => by unfold bk; rw [(hβ2 a ha).1, (hβ2 a ha).2.2.1]
      have hinjρ : ∀ c c', look uc c ≠ none → look uc c' ≠ none → rn (bs ++ fs) c = rn (bs ++ fs) c' → c = c' := fun c c' hc hc' he => by
        cases h1 : look (bs ++ fs) c with
        | none => exact absurd h1 (m.uc2 c hc)
        | some a =>
          cases h2 : look (bs ++ fs) c' with
          | none => exact absurd h2 (m.uc2 c' hc')
          | some a' =>
            rw [hρ c a h1, hρ c' a' h2] at he
            subst he
            exact m.sh.inj c c' a h1 h2
      -- what the caller's heap holds of each name
      have hexp : ∀ c o, look uc c = some o → ∃ a, look (bs ++ fs) c = some a ∧ upd hp up a = some (rnH (rn (bs ++ fs)) o) := fun c o hc => by
        cases h1 : look (bs ++ fs) c with
        | none => exact absurd h1 (m.uc2 c (by rw [hc]; simp))
        | some a =>
          refine ⟨a, rfl, ?_⟩
          rw [m.eqh a]
          have := look_map_inj (g := rnH (rn (bs ++ fs))) hinjρ hc
          rw [hρ c a h1] at this
          rw [this]
      have hnexp : ∀ a, (∀ c, look (bs ++ fs) c ≠ some a) → upd hp up a = hp a := fun a ha => by
        rw [m.eqh a, look_map_none fun c hc h => ?_]
        cases h1 : look (bs ++ fs) c with
        | none => exact m.uc2 c hc h1
        | some a' => rw [hρ c a' h1] at h; subst h; exact ha c h1
      have hcase : ∀ a o, upd hp up a = some o → (∃ c oc, look (bs ++ fs) c = some a ∧ look uc c = some oc ∧ o = rnH (rn (bs ++ fs)) oc) ∨ ((∀ c, look (bs ++ fs) c ≠ some a) ∧ hp a = some o) := fun a o ha => by
        by_cases hex : ∃ c, look (bs ++ fs) c = some a
        · obtain ⟨c, hc⟩ := hex
          cases hu : look uc c with
          | none => exact absurd hu (m.uc1 c a hc)
          | some oc =>
            obtain ⟨a', h1, h2⟩ := hexp c oc hu
            rw [hc] at h1; injection h1 with h1; subst h1
            rw [h2] at ha; injection ha with ha
            exact .inl ⟨c, oc, hc, hu, ha.symm⟩
        · have hno : ∀ c, look (bs ++ fs) c ≠ some a := fun c hc => hex ⟨c, hc⟩
          exact .inr ⟨hno, by rw [hnexp a hno] at ha; exact ha⟩
      have hcase' : ∀ a, upd hp up a ≠ none → ∃ o, upd hp up a = some o := fun a ha => by
        cases ho : upd hp up a with
        | none => exact absurd ho ha
        | some o => exact ⟨o, rfl⟩
      have hkeep : ∀ a, hp a ≠ none → upd hp up a ≠ none := fun a ha => by
        by_cases hex : ∃ c, look (bs ++ fs) c = some a
        · obtain ⟨c, hc⟩ := hex
          cases ho : look uc c with
          | none => exact absurd ho (m.uc1 c a hc)
          | some o =>
            obtain ⟨a', h1, h2⟩ := hexp c o ho
            rw [hc] at h1; injection h1 with h1; subst h1
            rw [h2]; simp
        · rw [hnexp a (fun c hc => hex ⟨c, hc⟩)]; exact ha
      have hshare : ∀ a, hp a ≠ none → (∃ c, look bs c = some a ∧ look (bs ++ fs) c = some a) ∨ ∀ c, look (bs ++ fs) c ≠ some a := fun a ha => by
        by_cases hex : ∃ c, look (bs ++ fs) c = some a
        · obtain ⟨c, hc⟩ := hex
          cases h1 : look bs c with
          | some a' =>
            have := hbf c a' h1
            rw [hc] at this; injection this with this; subst this
            exact .inl ⟨c, h1, hc⟩
          | none =>
            have h2 : look fs c = some a := by rw [look_append, h1] at hc; exact hc
            exact absurd (m.sh.fr c a h1 h2) ha
        · exact .inr fun c hc => hex ⟨c, hc⟩
      have hD0 : ∀ c a, look bs c = some a → X.D0 c := fun c a h => by
        obtain ⟨o, h1, _⟩ := m.sh.bo c a h
        show look ch c ≠ none
        rw [h1]; simp
      have hbevo : BEvo β β'' (dm hp) (dm (upd hp up)) := by
        refine ⟨hkeep, fun a ha h0 => ?_, fun a u ha hu => ?_, rfl⟩
        · rcases hshare a ha with ⟨c, h1, h2⟩ | hno
          · obtain ⟨g1, g2, g3⟩ := R.be.b c (hD0 c a h1) ((hbc c a h1).2.1.trans h0)
            exact ⟨(hβ1 c a h2).2.1.trans g1, (hβ1 c a h2).1.trans (g2.trans (hbc c a h1).1), (hβ1 c a h2).2.2.2.trans (g3.trans (hbc c a h1).2.2.2)⟩
          · exact ⟨(hβ2 a hno).2.1.trans h0, (hβ2 a hno).1, (hβ2 a hno).2.2.2⟩
        · rcases hshare a ha with ⟨c, h1, h2⟩ | hno
          · obtain ⟨u', g1, g2⟩ := R.be.o c u (hD0 c a h1) ((hbc c a h1).2.1.trans hu)
            exact ⟨u', (hβ1 c a h2).2.1.trans g1, g2⟩
          · exact ⟨u, (hβ2 a hno).2.1.trans hu, .inl rfl⟩
      -- what may be written in the end
      have hMt : ∀ k off, Mt β'' (upd hp up) k off → Mt β' (look uc) k off := fun k off h' => by
        rcases h' with h' | ⟨a, o, h1, h2⟩
        · exact .inl (hm k off (.inl h'))
        · rcases hcase a o h1 with ⟨c, oc, hc, hu, rfl⟩ | ⟨hno, ha⟩
          · rw [(hβ1 c a hc).1, (hβ1 c a hc).2.2.1] at h2
            exact .inr ⟨c, oc, hu, h2.imp (fun h => ⟨h.1, mut_rn.1 h.2⟩) id⟩
          · rw [(hβ2 a hno).1, (hβ2 a hno).2.2.1] at h2
            exact .inl (hm k off (.inr ⟨a, o, ha, fun c hc => hno c (hbf c a hc), h2⟩))
      have hout : Out (Mt β' (look uc)) (Mt β'' (upd hp up)) β' β'' (dm (look uc)) (dm (upd hp up)) (rn (bs ++ fs)) w' := by
        refine ⟨fun k off _ h h' => h (hMt k off h'), fun c hc => ?_, R.be.pr.symm, fun c hc => ?_⟩
        · cases h1 : look (bs ++ fs) c with
          | none => exact absurd h1 (m.uc2 c hc)
          | some a => rw [hρ c a h1]; exact hβ1 c a h1
        · cases ho : look uc c with
          | none => exact absurd ho hc
          | some o =>
            obtain ⟨a, h1, h2⟩ := hexp c o ho
            unfold dm
            rw [hρ c a h1, h2]; simp
      have hevo : Evo (Mt β hp) (Mt β'' (upd hp up)) w w' :=
        ⟨R.ev.size, fun p hp' hm' => R.ev.cell p hp' (hin.m _ _ hp' hm'), fun k off hk h h' => R.ev.mt k off hk (hin.m k off hk h) (hMu k off (hMt k off h')),
          fun k hk h => R.ev.blk k hk fun off => hin.m k off hk (h off), R.ev.sys⟩
      -- old memory
      have hplace : ∀ a k o, upd hp up a = some o → bk β'' a k → (∃ m, hp m ≠ none ∧ bk β m k) ∨ w.heap.size ≤ k := fun a k o ha hk => by
        rcases hcase a o ha with ⟨c, oc, hc, hu, rfl⟩ | ⟨hno, h⟩
        · rcases R.own c k (hud c (by rw [hu]; simp)) ((hk1 c a k hc).1 hk) with ⟨c', a', h3, h4⟩ | h
          · exact .inl ⟨a', hpa c' a' h3, h4⟩
          · exact .inr h
        · exact .inl ⟨a, by rw [h]; simp, (hk2 a k hno).1 hk⟩
      have hff : ∀ a k off, upd hp up a ≠ none → bk β'' a k → ¬ β''.m k off := fun a k off ha hk hM => by
        obtain ⟨o, ho⟩ := hcase' a ha
        rcases hcase a o ho with ⟨c, oc, hc, hu, rfl⟩ | ⟨hno, h⟩
        · exact R.hr.fresh c k off (hud c (by rw [hu]; simp)) ((hk1 c a k hc).1 hk) (hm k off (.inl hM))
        · exact hH.fresh a k off (by rw [h]; simp) ((hk2 a k hno).1 hk) hM
      have hii : ∀ a a' k, upd hp up a ≠ none → upd hp up a' ≠ none → bk β'' a k → bk β'' a' k → a = a' := fun a a' k ha ha' h1 h2 => by
        have clash : ∀ c b ob oc k, look uc c = some oc → bk β' c k → hp b = some ob → (∀ c, look (bs ++ fs) c ≠ some b) → bk β b k → False := fun c b ob oc k hu hk hb hno hkb => by
          have hno' : ∀ c, look bs c ≠ some b := fun c hc => hno c (hbf c b hc)
          rcases R.own c k (hud c (by rw [hu]; simp)) hk with ⟨c', a', h3, h4⟩ | h
          · exact hno' c' (by rw [h3, hH.inj a' b k (hpa c' a' h3) (by rw [hb]; simp) h4 hkb])
          · exact absurd (hH.lt b k (by rw [hb]; simp) hkb) (Nat.not_lt.2 h)
        obtain ⟨o, ho⟩ := hcase' a ha
        obtain ⟨o', ho'⟩ := hcase' a' ha'
        rcases hcase a o ho with ⟨c, oc, hc, hu, rfl⟩ | ⟨hno, h⟩ <;> rcases hcase a' o' ho' with ⟨c', oc', hc', hu', rfl⟩ | ⟨hno', h'⟩
        · have := R.hr.inj c c' k (hud c (by rw [hu]; simp)) (hud c' (by rw [hu']; simp)) ((hk1 c a k hc).1 h1) ((hk1 c' a' k hc').1 h2)
          subst this
          rw [hc] at hc'; injection hc'
        · exact (clash c a' o' oc k hu ((hk1 c a k hc).1 h1) h' hno' ((hk2 a' k hno').1 h2)).elim
        · exact (clash c' a o oc' k hu' ((hk1 c' a' k hc').1 h2) h hno ((hk2 a k hno).1 h1)).elim
        · exact hH.inj a a' k (by rw [h]; simp) (by rw [h']; simp) ((hk2 a k hno).1 h1) ((hk2 a' k hno').1 h2)
      have hfm : ∀ k off, β''.m k off → k < w'.heap.size := fun k off h => Nat.lt_of_lt_of_le (hH.m0 k off h) R.fr.size
      have hfl : ∀ a k, upd hp up a ≠ none → bk β'' a k → k < w'.heap.size := fun a k ha hk => by
        obtain ⟨o, ho⟩ := hcase' a ha
        rcases hcase a o ho with ⟨c, oc, hc, hu, rfl⟩ | ⟨hno, h⟩
        · exact R.hr.lt c k (hud c (by rw [hu]; simp)) ((hk1 c a k hc).1 hk)
        · exact Nat.lt_of_lt_of_le (hH.lt a k (by rw [h]; simp) ((hk2 a k hno).1 hk)) R.fr.size
      refine ⟨v, hv1, v, rfl, ⟨β'', hbevo, fun _ _ h => h, ?_, by rw [m.res]; exact VA.out hout hv3, fun a k ha hk => by obtain ⟨o, ho⟩ := hcase' a ha; exact hplace a k o ho hk, hevo⟩, ?_⟩
      · refine ⟨hfm, hfl, hff, hii, fun a o ho hob => ?_, fun a o ho => ?_⟩
        · rcases hcase a o ho with ⟨c, oc, hc, hu, rfl⟩ | ⟨hno, h⟩
          · rw [(hβ1 c a hc).2.2.1]
            exact R.hr.ye c oc (hue' c oc hu) (by cases oc <;> first | rfl | cases hob)
          · rw [(hβ2 a hno).2.2.1]
            exact hH.ye a o h hob
        · rcases hcase a o ho with ⟨c, oc, hc, hu, rfl⟩ | ⟨hno, h⟩
          · have h1 := (hblk c oc hu).out hout (by unfold dm; rw [hu]; simp) (fun hob => by
              rw [hρ c a hc]
              exact dis_of hfm hfl hff hii ho (by cases oc <;> first | rfl | cases hob))
            rw [hρ c a hc] at h1
            exact h1
          · refine (hH.blk a o h).evo hevo hbevo (hβ2 a hno).1 (hβ2 a hno).2.1 (hβ2 a hno).2.2.1 (hβ2 a hno).2.2.2 (fun k hk => ?_) fun hob => dis_of hfm hfl hff hii ho hob
            refine R.fr.block k (hH.lt a k (by rw [h]; simp) hk) fun ⟨c, a', h1, h2⟩ => ?_
            exact hno c (by rw [hbf c a' h1, hH.inj a a' k (by rw [h]; simp) (hpa c a' h1) hk h2])
      · exact ⟨R.fr.os, R.fr.tape, R.fr.output, R.fr.size, fun k hk hB => R.fr.block k hk fun ⟨c, a, h1, h2⟩ => hB ⟨a, hpa c a h1, h2⟩⟩
    · exact hp0.elim
  have := vc_sound (F := Fence.wide) (n := 1) (X := X) (Q := bodyPostM Fence.wide 1 P fn fun e w' => ∃ v, e = .returned v ∧ FnPost hp (upd hp up) β r w w' v) ⟨fun _ => trivial, rfl, rfl⟩ hpr hL hΓ (φ := φ) rfl (fun _ => ⟨rfl, Nat.le_refl _⟩) hD
    (post := fun e σ => match e with | .ex _ => .ff | _ => postH L fn.results.toList rc uc σ) (fun e β' σ a w' h R => by cases e <;> first | exact hpost β' σ a w' h R | exact h.elim) 4000 [.code (fn.body.getD .skip)] _ βc _ w m.vc hR0
  exact this
end Go.Sy
