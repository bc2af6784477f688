/- A verified generator of conditions for this program, and its soundness: part Q of the proof. -/
import Derived.Test.YtdkggjgmlccjcaaSyO
namespace Go.Sy
variable {P : Program} {L : Nat → Option Lay} {Γ : Nat → Option Con} {F : Fence} {n : Nat} {Pu : Nat → Bool} {N : Nat} {ops : List Oper}

structure Eqv (σ τ : St) : Prop where
  s : ∀ k, look σ.s k = look τ.s k
  g : ∀ k, look σ.g k = look τ.g k
  gf : ∀ d, gfree d σ.g = gfree d τ.g
  h : ∀ k, look σ.h k = look τ.h k
theorem Eqv.refl {σ : St} : Eqv σ σ := ⟨fun _ => rfl, fun _ => rfl, fun _ => rfl, fun _ => rfl⟩
theorem Eqv.trans {σ τ υ : St} (a : Eqv σ τ) (b : Eqv τ υ) : Eqv σ υ := ⟨fun k => (a.s k).trans (b.s k), fun k => (a.g k).trans (b.g k), fun k => (a.gf k).trans (b.gf k), fun k => (a.h k).trans (b.h k)⟩

def app (o : Oper) (G : List (Nat × Bool)) (r : Res) (σ : St) : St :=
  match o.dst, G with
  | none, _ => { σ with h := upds r.h σ.h }
  | some d, [] => { σ with s := (d, r.v) :: σ.s, h := upds r.h σ.h }
  | some d, (t, w) :: _ => match r.v with
    | .t x => { σ with g := (d, (t, w, x)) :: σ.g, h := upds r.h σ.h }
    | _ => { σ with h := upds r.h σ.h }
def okc (N : Nat) (o : Oper) (G : List (Nat × Bool)) (r : Res) (σ : St) : Prop :=
  match o.dst, G with
  | none, [] => True
  | none, _ :: _ => False
  | some d, [] => gfree d σ.g = true ∧ d < N
  | some d, (t, _) :: _ => gfree d σ.g = true ∧ d ≠ t ∧ d < N ∧ (∃ x, r.v = .t x) ∧ True ∧ look σ.s d = none

theorem astep_iff {o : Oper} {σ σ' : St} {c : List Cd} : astep L Γ N ops o σ = some (c, σ') ↔
    (o.guard.isSome && (chain ops 10 o.guard).isEmpty) = false ∧ ∃ gs r, guards σ (chain ops 10 o.guard) = some gs ∧ aopG L Γ (chain ops 10 o.guard) σ o = some r ∧ okc N o (chain ops 10 o.guard) r σ ∧ c = cds gs r ∧ σ' = app o (chain ops 10 o.guard) r σ := by
  unfold astep
  constructor
  · intro h
    split at h
    · cases h
    · rename_i hchk
      refine ⟨by simpa using hchk, ?_⟩
      split at h
      · cases h
      · rename_i gs hgs
        split at h
        · cases h
        · rename_i r hr
          refine ⟨gs, r, hgs, hr, ?_⟩
          unfold okc app
          cases hd : o.dst with
          | none =>
            cases hG : chain ops 10 o.guard with
            | nil => simp only [hd, hG] at h; injection h with h; injection h with h1 h2; exact ⟨trivial, h1.symm, h2.symm⟩
            | cons q G => simp only [hd, hG] at h; cases h
          | some d =>
            cases hG : chain ops 10 o.guard with
            | nil =>
              simp only [hd, hG] at h
              split at h
              · rename_i hf
                simp only [Bool.and_eq_true, decide_eq_true_eq] at hf
                injection h with h; injection h with h1 h2
                exact ⟨hf, h1.symm, h2.symm⟩
              · cases h
            | cons q G =>
              obtain ⟨t, w⟩ := q
              simp only [hd, hG] at h
              split at h
              · rename_i hf
                simp only [Bool.and_eq_true, decide_eq_true_eq, bne_iff_ne, ne_eq] at hf
                split at h
                · rename_i x hx hl
                  injection h with h; injection h with h1 h2
                  simp only [hx]
                  exact ⟨⟨hf.1, hf.2.1, hf.2.2, ⟨x, rfl⟩, trivial, hl⟩, h1.symm, h2.symm⟩
                · cases h
              · cases h
  · rintro ⟨hchk, gs, r, hgs, hr, hok, rfl, rfl⟩
    rw [if_neg (by rw [hchk]; simp)]
    rw [hgs]
    simp only
    rw [hr]
    simp only
    unfold okc at hok
    unfold app
    cases hd : o.dst with
    | none =>
      cases hG : chain ops 10 o.guard with
      | nil => rfl
      | cons q G => rw [hd, hG] at hok; exact hok.elim
    | some d =>
      cases hG : chain ops 10 o.guard with
      | nil =>
        rw [hd, hG] at hok
        simp only
        rw [if_pos (by simp [hok.1, hok.2])]
      | cons q G =>
        obtain ⟨t, w⟩ := q
        rw [hd, hG] at hok
        obtain ⟨h1, h2, h3, ⟨x, h4⟩, h5, h6⟩ := hok
        simp only [h4]
        rw [if_pos (by simp [h1, h2, h3]), h6]

theorem guards_local {σ τ : St} : ∀ {G : List (Nat × Bool)}, (∀ t, t ∈ gslots G → look σ.s t = look τ.s t) → (∀ t, t ∈ gslots G → look σ.g t = look τ.g t) → guards σ G = guards τ G
  | [], _, _ => rfl
  | [(t, w)], hs, hg => by
    have h1 := hs t (by simp [gslots])
    have h2 := hg t (by simp [gslots])
    simp only [guards, h1, h2]
  | (t, w) :: (t', w') :: r, hs, hg => by
    have h2 := hg t (by simp [gslots])
    have ih := guards_local (G := (t', w') :: r) (fun t ht => hs t (by simp only [gslots, List.mem_cons] at ht ⊢; exact .inr ht)) (fun t ht => hg t (by simp only [gslots, List.mem_cons] at ht ⊢; exact .inr ht))
    unfold guards
    simp only [h2, ih]

theorem gfree_cons {d a t : Nat} {w : Bool} {x : TV} {g : List (Nat × (Nat × Bool × TV))} : gfree d ((a, (t, w, x)) :: g) = (a != d && (t != d && gfree d g)) := rfl

theorem look_upds_congr {up h h' : List (Nat × HO)} {k : Nat} (e : look h k = look h' k) : look (upds up h) k = look (upds up h') k := by
  rw [look_upds, look_upds, e]

theorem app_congr {o : Oper} {G : List (Nat × Bool)} {r : Res} {σ τ : St} (e : Eqv σ τ) : Eqv (app o G r σ) (app o G r τ) := by
  unfold app
  cases o.dst with
  | none => exact ⟨e.s, e.g, e.gf, fun k => look_upds_congr (e.h k)⟩
  | some d =>
    cases G with
    | nil => exact ⟨fun k => by simp only [look_cons, e.s], e.g, e.gf, fun k => look_upds_congr (e.h k)⟩
    | cons q G =>
      obtain ⟨t, w⟩ := q
      simp only
      split
      · exact ⟨e.s, fun k => by simp only [look_cons, e.g], fun d' => by simp only [gfree_cons, e.gf], fun k => look_upds_congr (e.h k)⟩
      · exact ⟨e.s, e.g, e.gf, fun k => look_upds_congr (e.h k)⟩

theorem okc_congr {o : Oper} {G : List (Nat × Bool)} {r : Res} {σ τ : St} (e : Eqv σ τ) (h : okc N o G r σ) : okc N o G r τ := by
  unfold okc at h ⊢
  cases hd : o.dst with
  | none => cases G <;> simp_all
  | some d =>
    cases G with
    | nil => rw [hd] at h; simp only at h ⊢; rw [← e.gf]; exact h
    | cons q G =>
      obtain ⟨t, w⟩ := q
      rw [hd] at h
      simp only at h ⊢
      rw [← e.gf, ← e.s]
      exact h

/-- an operation at another state that agrees on what it sees -/
theorem step_at (hPu : PuOk Γ Pu) {o : Oper} {σ τ σ' : St} {c : List Cd} {f : Foot} (hs : astep L Γ N ops o σ = some (c, σ')) (hf : footOf L Γ Pu ops o σ = some f) (ha : Ag f.rs f.hr σ τ) :
    ∃ r, aopG L Γ (chain ops 10 o.guard) σ o = some r ∧ σ' = app o (chain ops 10 o.guard) r σ ∧ fsts r.h = f.hw ∧ o.dst = f.d ∧ gslots (chain ops 10 o.guard) ⊆ f.rs ∧ okc N o (chain ops 10 o.guard) r σ ∧
      (okc N o (chain ops 10 o.guard) r τ → astep L Γ N ops o τ = some (c, app o (chain ops 10 o.guard) r τ) ∧ footOf L Γ Pu ops o τ = some f) := by
  obtain ⟨hchk, gs, r, hgs, hr, hok, rfl, rfl⟩ := astep_iff.1 hs
  unfold footOf at hf
  rw [hr] at hf
  injection hf with hf
  subst hf
  have hsub : ∀ t, t ∈ gslots (chain ops 10 o.guard) → t ∈ tmpsOf o.op.operands.toList ++ gslots (chain ops 10 o.guard) := fun t ht => List.mem_append_right _ ht
  obtain ⟨h1, h2⟩ := aopG_local (rs := gslots (chain ops 10 o.guard)) hPu hr (fun _ h => h) ha
  refine ⟨r, hr, rfl, rfl, rfl, hsub, hok, fun hok' => ⟨astep_iff.2 ⟨hchk, gs, r, ?_, h1, hok', rfl, rfl⟩, ?_⟩⟩
  · rw [← guards_local (fun t ht => ha.s t (hsub t ht)) (fun t ht => ha.g t (hsub t ht))]; exact hgs
  · unfold footOf; rw [h1, h2]

theorem look_fsts_none {up : List (Nat × HO)} {k : Nat} (h : k ∉ fsts up) : look up.reverse k = none := by
  cases hl : look up.reverse k with
  | none => rfl
  | some o =>
    exfalso
    have hm := look_mem hl
    rw [List.mem_reverse] at hm
    have : ∀ (l : List (Nat × HO)), (k, o) ∈ l → k ∈ fsts l := by
      intro l
      induction l with
      | nil => intro h; cases h
      | cons q l ih =>
        obtain ⟨a, x⟩ := q
        intro h
        rcases List.mem_cons.1 h with e | h
        · injection e with e; subst e; exact List.mem_cons_self ..
        · exact List.mem_cons_of_mem _ (ih h)
    exact h (this up hm)

theorem app_s {o : Oper} {G : List (Nat × Bool)} {r : Res} {σ : St} {t : Nat} (ht : o.dst ≠ some t) : look (app o G r σ).s t = look σ.s t := by
  unfold app
  cases hd : o.dst with
  | none => rfl
  | some d =>
    have hdt : ¬ d = t := fun e => ht (by rw [hd, e])
    cases G with
    | nil => simp only [look_cons, if_neg hdt]
    | cons q G => obtain ⟨t', w⟩ := q; simp only; split <;> rfl
theorem app_g {o : Oper} {G : List (Nat × Bool)} {r : Res} {σ : St} {t : Nat} (ht : o.dst ≠ some t) : look (app o G r σ).g t = look σ.g t := by
  unfold app
  cases hd : o.dst with
  | none => rfl
  | some d =>
    have hdt : ¬ d = t := fun e => ht (by rw [hd, e])
    cases G with
    | nil => rfl
    | cons q G =>
      obtain ⟨t', w⟩ := q
      simp only
      split
      · simp only [look_cons, if_neg hdt]
      · rfl
theorem app_h {o : Oper} {G : List (Nat × Bool)} {r : Res} {σ : St} {k : Nat} (hk : k ∉ fsts r.h) : look (app o G r σ).h k = look σ.h k := by
  have key : look (upds r.h σ.h) k = look σ.h k := by rw [look_upds, look_fsts_none hk]
  unfold app
  cases o.dst with
  | none => exact key
  | some d => cases G with
    | nil => exact key
    | cons q G => obtain ⟨t', w⟩ := q; simp only; split <;> exact key
theorem app_gfree {o : Oper} {G : List (Nat × Bool)} {r : Res} {σ : St} {d : Nat} (h : gfree d (app o G r σ).g = true) : gfree d σ.g = true := by
  unfold app at h
  cases hd : o.dst with
  | none => rw [hd] at h; exact h
  | some d' =>
    rw [hd] at h
    cases G with
    | nil => exact h
    | cons q G =>
      obtain ⟨t', w⟩ := q
      simp only at h
      split at h
      · rw [gfree_cons] at h
        simp only [Bool.and_eq_true] at h
        exact h.2.2
      · exact h
theorem app_gfree' {o : Oper} {G : List (Nat × Bool)} {r : Res} {σ : St} {d : Nat} (h : gfree d σ.g = true) (h1 : o.dst ≠ some d) (h2 : d ∉ gslots G) : gfree d (app o G r σ).g = true := by
  unfold app
  cases hd : o.dst with
  | none => exact h
  | some d' =>
    cases G with
    | nil => exact h
    | cons q G =>
      obtain ⟨t', w⟩ := q
      simp only
      split
      · rw [gfree_cons]
        simp only [Bool.and_eq_true, bne_iff_ne, ne_eq]
        refine ⟨fun e => h1 (by rw [hd, e]), fun e => h2 (by simp [gslots, e]), h⟩
      · exact h

theorem dIn_spec {d : Option Nat} {l : List Nat} (h : dIn d l = false) {t : Nat} (ht : t ∈ l) : d ≠ some t := by
  intro e
  subst e
  simp only [dIn] at h
  rw [mem_iff.2 ht] at h
  cases h
theorem disj_spec {b : Option (List Nat)} : ∀ {a : List Nat}, disj a b = true → ∀ k, (∀ l, b = some l → k ∈ l) → k ∉ a
  | [], _, _, _ => by simp
  | x :: r, h, k, hk => by
    simp only [disj, Bool.and_eq_true] at h
    cases b with
    | none => simp at h
    | some l =>
      simp only [Bool.not_eq_true'] at h
      intro hm
      rcases List.mem_cons.1 hm with e | hm
      · have := mem_iff.2 (hk l rfl)
        rw [e, h.1] at this
        cases this
      · exact disj_spec h.2 k hk hm

theorem okc_app_back {o o' : Oper} {G G' : List (Nat × Bool)} {r r' : Res} {σ : St} (h : okc N o G r (app o' G' r' σ)) : okc N o G r σ := by
  unfold okc at h ⊢
  cases hd : o.dst with
  | none => rw [hd] at h; cases G <;> exact h
  | some d =>
    rw [hd] at h
    cases G with
    | nil => exact ⟨app_gfree h.1, h.2⟩
    | cons q G =>
      obtain ⟨t, w⟩ := q
      simp only at h ⊢
      refine ⟨app_gfree h.1, h.2.1, h.2.2.1, h.2.2.2.1, h.2.2.2.2.1, ?_⟩
      have h6 := h.2.2.2.2.2
      unfold app at h6
      cases hd' : o'.dst with
      | none => rw [hd'] at h6; exact h6
      | some d' =>
        rw [hd'] at h6
        cases G' with
        | nil => simp only [look_cons] at h6; split at h6 <;> first | cases h6 | exact h6
        | cons q' G' => obtain ⟨t', w'⟩ := q'; simp only at h6; split at h6 <;> exact h6
theorem okc_app {o o' : Oper} {G G' : List (Nat × Bool)} {r r' : Res} {σ : St} (h : okc N o G r σ) (h1 : dNe o'.dst o.dst = true) (h2 : ∀ d, o.dst = some d → d ∉ gslots G') : okc N o G r (app o' G' r' σ) := by
  unfold okc at h ⊢
  cases hd : o.dst with
  | none => rw [hd] at h; cases G <;> exact h
  | some d =>
    rw [hd] at h
    have hne : o'.dst ≠ some d := by
      intro e
      rw [e, hd] at h1
      simp [dNe] at h1
    cases G with
    | nil => exact ⟨app_gfree' h.1 hne (h2 d hd), h.2⟩
    | cons q G =>
      obtain ⟨t, w⟩ := q
      simp only at h ⊢
      exact ⟨app_gfree' h.1 hne (h2 d hd), h.2.1, h.2.2.1, h.2.2.2.1, h.2.2.2.2.1, by rw [app_s hne]; exact h.2.2.2.2.2⟩

theorem app_comm {o o' : Oper} {G G' : List (Nat × Bool)} {r r' : Res} {σ : St} (h1 : dNe o.dst o'.dst = true) (h2 : disj (fsts r.h) (some (fsts r'.h)) = true) : Eqv (app o' G' r' (app o G r σ)) (app o G r (app o' G' r' σ)) := by
  have hcomm : ∀ k, look (upds r'.h (upds r.h σ.h)) k = look (upds r.h (upds r'.h σ.h)) k := by
    intro k
    rw [look_upds, look_upds, look_upds, look_upds]
    cases ha : look r.h.reverse k with
    | none => cases look r'.h.reverse k <;> rfl
    | some x =>
      cases hb : look r'.h.reverse k with
      | none => rfl
      | some y =>
        exfalso
        have ha' : k ∈ fsts r.h := by
          by_cases h : k ∈ fsts r.h
          · exact h
          · rw [look_fsts_none h] at ha; cases ha
        have hb' : k ∈ fsts r'.h := by
          by_cases h : k ∈ fsts r'.h
          · exact h
          · rw [look_fsts_none h] at hb; cases hb
        exact disj_spec h2 k (fun l hl => by injection hl with hl; rw [← hl]; exact hb') ha'
  have hne : ∀ d d', o.dst = some d → o'.dst = some d' → d ≠ d' := by
    intro d d' e e' h
    rw [e, e', h] at h1
    simp [dNe] at h1
  unfold app
  cases hd : o.dst with
  | none =>
    cases hd' : o'.dst with
    | none => exact ⟨fun _ => rfl, fun _ => rfl, fun _ => rfl, hcomm⟩
    | some d' =>
      cases G' with
      | nil => exact ⟨fun _ => rfl, fun _ => rfl, fun _ => rfl, hcomm⟩
      | cons q' G' => obtain ⟨t', w'⟩ := q'; cases hv' : r'.v <;> exact ⟨fun _ => rfl, fun _ => rfl, fun _ => rfl, hcomm⟩
  | some d =>
    cases hd' : o'.dst with
    | none =>
      cases G with
      | nil => exact ⟨fun _ => rfl, fun _ => rfl, fun _ => rfl, hcomm⟩
      | cons q G => obtain ⟨t, w⟩ := q; cases hv : r.v <;> exact ⟨fun _ => rfl, fun _ => rfl, fun _ => rfl, hcomm⟩
    | some d' =>
      have hdd := hne d d' hd hd'
      have hsw : ∀ {β : Type} (x y : β) (l : List (Nat × β)) (k : Nat), look ((d', y) :: (d, x) :: l) k = look ((d, x) :: (d', y) :: l) k := by
        intro β x y l k
        simp only [look_cons]
        by_cases e1 : d' = k
        · have e2 : ¬ d = k := fun e2 => hdd (e2.trans e1.symm)
          simp [e1, e2]
        · simp [e1]
      cases G with
      | nil =>
        cases G' with
        | nil => exact ⟨fun k => hsw _ _ _ k, fun _ => rfl, fun _ => rfl, hcomm⟩
        | cons q' G' => obtain ⟨t', w'⟩ := q'; cases hv' : r'.v <;> exact ⟨fun _ => rfl, fun _ => rfl, fun _ => rfl, hcomm⟩
      | cons q G =>
        obtain ⟨t, w⟩ := q
        cases G' with
        | nil => cases hv : r.v <;> exact ⟨fun _ => rfl, fun _ => rfl, fun _ => rfl, hcomm⟩
        | cons q' G' =>
          obtain ⟨t', w'⟩ := q'
          cases hv : r.v with
          | t x =>
            cases hv' : r'.v with
            | t x' =>
              refine ⟨fun _ => rfl, fun k => hsw _ _ _ k, fun e => ?_, hcomm⟩
              simp only [gfree_cons]
              cases d != e <;> cases t != e <;> cases d' != e <;> cases t' != e <;> cases gfree e σ.g <;> rfl
            | tup _ => exact ⟨fun _ => rfl, fun _ => rfl, fun _ => rfl, hcomm⟩
          | tup _ =>
            cases hv' : r'.v <;> exact ⟨fun _ => rfl, fun _ => rfl, fun _ => rfl, hcomm⟩

theorem apartF_spec {f g : Foot} (h : apartF f g = true) : dNe f.d g.d = true ∧ dIn f.d g.rs = false ∧ dIn g.d f.rs = false ∧ disj f.hw g.hr = true ∧ disj g.hw f.hr = true ∧ disj f.hw (some g.hw) = true := by
  simpa only [apartF, Bool.and_eq_true, Bool.not_eq_true'] using h

/-- two neighbours that are apart change places -/
theorem swap (hPu : PuOk Γ Pu) {k i : Oper} {σ σk σki : St} {ck ci : List Cd} {fk fi : Foot} (h1 : footOf L Γ Pu ops k σ = some fk) (h2 : astep L Γ N ops k σ = some (ck, σk))
    (h3 : footOf L Γ Pu ops i σk = some fi) (h4 : astep L Γ N ops i σk = some (ci, σki)) (ha : apartF fk fi = true) :
    ∃ σi σik, footOf L Γ Pu ops i σ = some fi ∧ astep L Γ N ops i σ = some (ci, σi) ∧ footOf L Γ Pu ops k σi = some fk ∧ astep L Γ N ops k σi = some (ck, σik) ∧ Eqv σki σik := by
  obtain ⟨a1, a2, a3, a4, a5, a6⟩ := apartF_spec ha
  obtain ⟨rk, rk0, ek, hwk, hdk, gk, okk, _⟩ := step_at hPu h2 h1 (τ := σ) ⟨fun _ _ => rfl, fun _ _ => rfl, fun _ _ => rfl⟩
  subst ek
  have agi : Ag fi.rs fi.hr (app k (chain ops 10 k.guard) rk σ) σ := by
    refine ⟨fun t ht => app_s ?_, fun t ht => app_g ?_, fun m hm => app_h ?_⟩
    · rw [hdk]; exact dIn_spec a2 ht
    · rw [hdk]; exact dIn_spec a2 ht
    · rw [hwk]; exact disj_spec a4 m hm
  obtain ⟨ri, _, ei, hwi, hdi, gi, oki, hi⟩ := step_at hPu h4 h3 agi
  subst ei
  obtain ⟨i1, i2⟩ := hi (okc_app_back oki)
  have agk : Ag fk.rs fk.hr σ (app i (chain ops 10 i.guard) ri σ) := by
    refine ⟨fun t ht => (app_s ?_).symm, fun t ht => (app_g ?_).symm, fun m hm => (app_h ?_).symm⟩
    · rw [hdi]; exact dIn_spec a3 ht
    · rw [hdi]; exact dIn_spec a3 ht
    · rw [hwi]; exact disj_spec a5 m hm
  obtain ⟨rk', rk1, _, _, _, _, _, hk⟩ := step_at hPu h2 h1 agk
  obtain rfl : rk = rk' := Option.some.inj (rk0.symm.trans rk1)
  have hne : dNe i.dst k.dst = true := by
    rw [hdk, hdi]
    revert a1
    cases fk.d <;> cases fi.d <;> simp [dNe]
    intro h e
    exact h e.symm
  obtain ⟨k1, k2⟩ := hk (okc_app okk hne (fun d hd hg => by
    have := gi hg
    rw [hdk] at hd
    exact dIn_spec a2 this hd))
  exact ⟨_, _, i2, i1, k2, k1, app_comm (by rw [hdk, hdi]; exact a1) (by rw [hwk, hwi]; exact a6)⟩

/-- a run with the feet of its operations -/
inductive Run (L : Nat → Option Lay) (Γ : Nat → Option Con) (Pu : Nat → Bool) (N : Nat) (ops : List Oper) : List (Nat × Oper × Foot) → St → List Cd → St → Prop
  | nil {σ : St} : Run L Γ Pu N ops [] σ [] σ
  | cons {i : Nat} {o : Oper} {f : Foot} {l : List (Nat × Oper × Foot)} {σ σ1 σ' : St} {c cs : List Cd} (h1 : footOf L Γ Pu ops o σ = some f) (h2 : astep L Γ N ops o σ = some (c, σ1)) (h3 : Run L Γ Pu N ops l σ1 cs σ') :
      Run L Γ Pu N ops ((i, o, f) :: l) σ (c ++ cs) σ'

theorem step_congr (hPu : PuOk Γ Pu) {o : Oper} {σ τ σ' : St} {c : List Cd} {f : Foot} (h2 : astep L Γ N ops o σ = some (c, σ')) (h1 : footOf L Γ Pu ops o σ = some f) (e : Eqv σ τ) :
    ∃ τ', astep L Γ N ops o τ = some (c, τ') ∧ footOf L Γ Pu ops o τ = some f ∧ Eqv σ' τ' := by
  obtain ⟨r, _, er, _, _, _, ok, hk⟩ := step_at hPu h2 h1 (τ := τ) ⟨fun t _ => e.s t, fun t _ => e.g t, fun m _ => e.h m⟩
  obtain ⟨k1, k2⟩ := hk (okc_congr e ok)
  exact ⟨_, k1, k2, er ▸ app_congr e⟩

theorem Run.congr (hPu : PuOk Γ Pu) {l : List (Nat × Oper × Foot)} {σ σ' : St} {cs : List Cd} (h : Run L Γ Pu N ops l σ cs σ') : ∀ {τ : St}, Eqv σ τ → ∃ τ', Run L Γ Pu N ops l τ cs τ' ∧ Eqv σ' τ' := by
  induction h with
  | nil => intro τ e; exact ⟨τ, .nil, e⟩
  | cons h1 h2 _ ih =>
    intro τ e
    obtain ⟨τ1, k1, k2, k3⟩ := step_congr hPu h2 h1 e
    obtain ⟨τ', k4, k5⟩ := ih k3
    exact ⟨τ', .cons k2 k1 k4, k5⟩

/-- an operation that is apart from all ahead of it may be the first -/
theorem Run.front (hPu : PuOk Γ Pu) {q : Nat × Oper × Foot} {B : List (Nat × Oper × Foot)} : ∀ {A : List (Nat × Oper × Foot)} {σ σ' : St} {cs : List Cd}, Run L Γ Pu N ops (A ++ q :: B) σ cs σ' → (∀ k ∈ A, apartF k.2.2 q.2.2 = true) →
    ∃ ci σi cs' σ'', footOf L Γ Pu ops q.2.1 σ = some q.2.2 ∧ astep L Γ N ops q.2.1 σ = some (ci, σi) ∧ Run L Γ Pu N ops (A ++ B) σi cs' σ'' ∧ Eqv σ' σ'' ∧ ∀ x, x ∈ cs ↔ x ∈ ci ∨ x ∈ cs'
  | [], σ, σ', cs, h, _ => by
    cases h with
    | cons h1 h2 h3 => exact ⟨_, _, _, _, h1, h2, h3, Eqv.refl, fun x => by simp⟩
  | k :: A, σ, σ', cs, h, ha => by
    rw [List.cons_append] at h
    cases h with
    | @cons j o f _ _ σ1 _ c cs1 h1 h2 h3 =>
      obtain ⟨ci, σi, cs', σ'', g1, g2, g3, g4, g5⟩ := Run.front hPu h3 (fun k hk => ha k (List.mem_cons_of_mem _ hk))
      obtain ⟨τi, τik, s1, s2, s3, s4, s5⟩ := swap hPu h1 h2 g1 g2 (ha (j, o, f) (List.mem_cons_self ..))
      obtain ⟨ρ, r1, r2⟩ := g3.congr hPu s5
      exact ⟨ci, τi, c ++ cs', ρ, s1, s2, .cons s3 s4 r1, g4.trans r2, fun x => by
        rw [List.mem_append, g5 x, List.mem_append]
        exact ⟨fun h => h.elim (fun h => .inr (.inl h)) (fun h => h.elim .inl (fun h => .inr (.inr h))), fun h => h.elim (fun h => .inr (.inl h)) (fun h => h.elim .inl (fun h => .inr (.inr h)))⟩⟩
end Go.Sy
