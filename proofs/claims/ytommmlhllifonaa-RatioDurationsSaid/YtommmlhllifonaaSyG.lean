/- A verified generator of conditions for this program, and its soundness: part G of the proof. -/
import Derived.Test.YtommmlhllifonaaSyK
import Derived.TacticsIn
namespace Go.Sy
variable {P : Program} {L : Nat → Option Lay} {Γ : Nat → Option Con} {F : Fence} {n : Nat}

theorem All_iff : ∀ {ps : List Prop}, All ps ↔ ∀ p ∈ ps, p
  | [] => ⟨fun _ p hp => (by cases hp), fun _ => trivial⟩
  | [p] => ⟨fun h q hq => by rw [List.mem_singleton.1 hq]; exact h, fun h => h p (List.mem_singleton.2 rfl)⟩
  | p :: q :: r => ⟨fun h x hx => by
      rcases List.mem_cons.1 hx with e | hx
      · rw [e]; exact h.1
      · exact All_iff.1 h.2 x hx, fun h => ⟨h p (List.mem_cons_self ..), All_iff.2 fun x hx => h x (List.mem_cons_of_mem _ hx)⟩⟩

section
variable {X : Cx} {β : Bt} {σ : St} {a : Act} {w : World} {G : List (Nat × Bool)}

theorem wp_of_good (hF : Wide F) {o : Oper} {r : Res} {next : Act → World → Prop} {Q : Exit → Act → World → Prop} (hd : ∀ c, o.op ≠ .defer c) (h : OpGood P X σ a w o r)
    (hn : ∀ v w' β', Rel X β' { σ with h := upds r.h σ.h } a w' → VA w' (Mt β' (look (upds r.h σ.h))) β' (dm (look (upds r.h σ.h))) r.v v → (∀ p ∈ r.f, p) → next (a.put o.dst v) w') :
    o.wpIn F n P a w next Q := by
  obtain ⟨nx, w', β', v, hrun, hnx, hR, hva, hf⟩ := h
  refine ⟨fun _ _ => hF.fn _, ?_⟩
  rw [Oper.semAt_eq _ _ _ hd, hrun]
  rcases hnx with rfl | ⟨rfl, rfl⟩
  · exact hn _ _ _ hR hva hf
  · exact hn _ _ _ hR hva hf

theorem aop_sound (hF : Wide F) (hL : LOk P L) (hΓ : ConOk P Γ) (R : Rel X β σ a w) (hG : GOk a G) {o : Oper} {r : Res} (h : aop L Γ G σ o = some r) (hc : ∀ c ∈ r.c, c) {next : Act → World → Prop} {Q : Exit → Act → World → Prop}
    (hn : ∀ v w' β', Rel X β' { σ with h := upds r.h σ.h } a w' → VA w' (Mt β' (look (upds r.h σ.h))) β' (dm (look (upds r.h σ.h))) r.v v → (∀ p ∈ r.f, p) → next (a.put o.dst v) w') :
    o.wpIn F n P a w next Q := by
  unfold aop at h
  split at h
  · rename_i x ho
    split at h
    · rename_i r' hr
      obtain rfl := Option.some.inj h
      exact wp_of_good hF (by simp [ho]) (good_nil R (.inl ho) hr) hn
    · split at h
      · rename_i v hv
        obtain rfl := Option.some.inj h
        exact wp_of_good hF (by simp [ho]) (good_move R hG (.inl ho) hv) hn
      · cases h
  · rename_i x ho
    split at h
    · rename_i r' hr
      obtain rfl := Option.some.inj h
      exact wp_of_good hF (by simp [ho]) (good_nil R (.inr ho) hr) hn
    · split at h
      · rename_i v hv
        obtain rfl := Option.some.inj h
        exact wp_of_good hF (by simp [ho]) (good_move R hG (.inr ho) hv) hn
      · cases h
  · rename_i ho; exact wp_of_good hF (by simp [ho]) (good_pick R hG ho h) hn
  · rename_i ho; exact wp_of_good hF (by simp [ho]) (good_alloc hL R ho h) hn
  · rename_i ho; exact wp_of_good hF (by simp [ho]) (good_box R hG ho h) hn
  · rename_i ho; exact wp_of_good hF (by simp [ho]) (good_build hL R hG ho h) hn
  · rename_i ho; exact wp_of_good hF (by simp [ho]) (good_rows hL R hG ho h) hn
  · rename_i ho; exact wp_of_good hF (by simp [ho]) (good_load hL R hG ho h) hn
  · rename_i ho; exact wp_of_good hF (by simp [ho]) (good_store hL R hG ho h) hn
  · rename_i ho
    split at h
    · rename_i r' hr
      obtain rfl := Option.some.inj h
      exact wp_of_good hF (by simp [ho]) (good_bin R hG ho hr hc) hn
    · split at h
      · rename_i r' hr
        obtain rfl := Option.some.inj h
        exact wp_of_good hF (by simp [ho]) (good_binB hL R hG ho hr) hn
      · exact wp_of_good hF (by simp [ho]) (good_binAgg hL R hG ho h) hn
  · rename_i ho; exact wp_of_good hF (by simp [ho]) (good_un R hG ho h hc) hn
  · rename_i ho; exact wp_of_good hF (by simp [ho]) (good_conv hL R hG ho h hc) hn
  · rename_i ho; exact wp_of_good hF (by simp [ho]) (good_func R hG ho h) hn
  · rename_i ho; exact wp_of_good hF (by simp [ho]) (good_field hL R hG ho h) hn
  · rename_i ho; exact wp_of_good hF (by simp [ho]) (good_index hL R hG ho h hc) hn
  · rename_i ho; exact wp_of_good hF (by simp [ho]) (good_slice hL R hG ho h hc) hn
  · rename_i ho; exact wp_of_good hF (by simp [ho]) (good_extract R hG ho h) hn
  · rename_i ho
    have h0 := (good_call (F := F) hF (n := n) hΓ R hG ho h hc (next := fun _ _ => True) (Q := Q) (fun _ _ _ _ _ => trivial)).1
    exact (good_call hF hΓ R hG ho h hc (fun v w' β' hR hv => hn v w' β' hR hv (by rw [h0]; simp))).2
  · rename_i ho; exact wp_of_good hF (by simp [ho]) (good_builtin hL R hG ho h hc) hn
  · cases h

/-! guards -/
theorem boolOf_sound {M : CM} {D : Nat → Prop} {x : TV} {b : Bool} {v : Value} (h : boolOf x = some b) (hv : VT w M β D x v) : v = .bool b := by
  unfold boolOf at h
  split at h
  · obtain rfl := Option.some.inj h; exact VT.bool hv
  · cases h

theorem undef_bool (b : Bool) : undef ≠ Value.bool b := by simp [undef]

theorem guards_sound (R : Rel X β σ a w) : ∀ {G : List (Nat × Bool)} {gs : List Prop}, guards σ G = some gs →
    (All gs → GOk a G) ∧ (∀ t b r, G = (t, b) :: r → (a.tmps.getD t undef = .bool b → ∀ p ∈ gs, p))
  | [], gs, h => by
    obtain rfl := Option.some.inj h
    exact ⟨fun _ t b hh => by simp [has] at hh, fun t b r hh => by cases hh⟩
  | [(t, q)], gs, h => by
    unfold guards at h
    simp only at h
    split at h
    · cases h
    · split at h
      · rename_i x hx
        split at h
        · rename_i b hb
          obtain rfl := Option.some.inj h
          have hv := boolOf_sound hb (R.sl _ _ hx).2
          refine ⟨fun hall t' b' hh => ?_, fun t' b' r hh hv' => ?_⟩
          · simp only [has, Bool.or_false, Bool.and_eq_true, beq_iff_eq] at hh
            obtain ⟨rfl, rfl⟩ := hh
            rw [hv]
            have : b = q := hall
            rw [this]
          · cases hh
            rw [hv] at hv'
            intro p hp
            simp only [List.mem_singleton] at hp
            rw [hp]
            injection hv'
        · cases h
      · cases h
  | (t, q) :: (t', q') :: r, gs, h => by
    unfold guards at h
    simp only at h
    split at h
    · rename_i g v x hx
      split at h
      · rename_i hgv
        simp only [Bool.and_eq_true, beq_iff_eq] at hgv
        obtain ⟨rfl, rfl⟩ := hgv
        split at h
        · rename_i b l hb hl
          obtain rfl := Option.some.inj h
          obtain ⟨ih1, ih2⟩ := guards_sound R hl
          have hd := (R.gd _ _ _ _ hx).2
          refine ⟨fun hall t1 b1 hh => ?_, fun t1 b1 r1 hh hv' => ?_⟩
          · have hall' := All_iff.1 hall
            have hrest : GOk a ((g, v) :: r) := ih1 (All_iff.2 fun p hp => hall' p (by simp [hp]))
            simp only [has, Bool.or_eq_true, Bool.and_eq_true, beq_iff_eq] at hh
            rcases hh with ⟨rfl, rfl⟩ | hh
            · have hbq : b = q := hall' _ (List.mem_cons_self ..)
              have hg : a.tmps.getD g undef = .bool v := hrest _ _ (by simp [has])
              rcases hd with ⟨_, hd⟩ | ⟨hd, _⟩
              · rw [boolOf_sound hb hd, hbq]
              · exact absurd hg hd
            · exact hrest _ _ (by simpa [has] using hh)
          · cases hh
            rcases hd with ⟨hg, hd⟩ | ⟨_, hd⟩
            · have := boolOf_sound hb hd
              rw [this] at hv'
              intro p hp
              rcases List.mem_cons.1 hp with rfl | hp
              · injection hv'
              · exact ih2 _ _ _ rfl hg p hp
            · rw [hd] at hv'
              exact absurd hv' (undef_bool _)
        · cases h
      · cases h
    · cases h

theorem getD_put {a : Act} {d : Nat} {v : Value} {t : Nat} (hd : d < a.tmps.size) : (a.put (some d) v).tmps.getD t undef = if t = d then v else a.tmps.getD t undef := by
  simp only [Act.put, Array.getD_eq_getD_getElem?, Array.getElem?_setIfInBounds]
  by_cases h : d = t
  · subst h; simp [hd]
  · have h' : ¬ t = d := fun e => h e.symm
    simp [h, h']

theorem gfree_spec : ∀ {g : List (Nat × (Nat × Bool × TV))} {d : Nat}, gfree d g = true → look g d = none ∧ ∀ t q b x, look g t = some (q, b, x) → q ≠ d
  | [], _, _ => ⟨rfl, fun _ _ _ _ h => by cases h⟩
  | (t, (q, b, x)) :: r, d, h => by
    simp only [gfree, Bool.and_eq_true, bne_iff_ne, ne_eq] at h
    obtain ⟨h1, h2, h3⟩ := h
    obtain ⟨i1, i2⟩ := gfree_spec h3
    refine ⟨by rw [look_cons, if_neg h1]; exact i1, fun t' q' b' x' hl => ?_⟩
    rw [look_cons] at hl
    split at hl
    · injection hl with hl; injection hl with hl; rw [← hl]; exact h2
    · exact i2 _ _ _ _ hl

/-- a slot is written -/
theorem Rel.put (R : Rel X β σ a w) {d : Nat} {v : AV} {u : Value} (hd : d < X.N) (hg : gfree d σ.g = true) (hv : VA w (Mt β (look σ.h)) β (dm (look σ.h)) v u) :
    Rel X β { σ with s := (d, v) :: σ.s } (a.put (some d) u) w := by
  have hd' : d < a.tmps.size := by rw [R.tn]; exact hd
  obtain ⟨g1, g2⟩ := gfree_spec hg
  refine ⟨by simp [Act.put, R.tn], R.df, R.fr, R.own, R.be, R.hr, R.ev, fun t x h => ?_, fun t g b x h => ?_⟩
  · simp only [look_cons] at h
    rw [getD_put hd']
    by_cases hdt : d = t
    · subst hdt
      simp at h
      subst h
      exact ⟨hd, by simpa using hv⟩
    · rw [if_neg hdt] at h
      rw [if_neg (fun e => hdt e.symm)]
      exact R.sl t x h
  · have hgd : g ≠ d := g2 _ _ _ _ h
    have htd : t ≠ d := fun e => by rw [e, g1] at h; cases h
    rw [getD_put hd', getD_put hd', if_neg hgd, if_neg htd]
    exact R.gd t g b x h

/-- a slot is written under a guard, or left undefined -/
theorem Rel.putG (R : Rel X β σ a w) {d t : Nat} {b : Bool} {v : TV} {u : Value} (hd : d < X.N) (hg : gfree d σ.g = true) (hs : look σ.s d = none) (hdt : d ≠ t)
    (hv : (a.tmps.getD t undef = .bool b ∧ VT w (Mt β (look σ.h)) β (dm (look σ.h)) v u) ∨ (a.tmps.getD t undef ≠ .bool b ∧ u = undef)) :
    Rel X β { σ with g := (d, (t, b, v)) :: σ.g } (a.put (some d) u) w := by
  have hd' : d < a.tmps.size := by rw [R.tn]; exact hd
  obtain ⟨g1, g2⟩ := gfree_spec hg
  refine ⟨by simp [Act.put, R.tn], R.df, R.fr, R.own, R.be, R.hr, R.ev, fun t' x h => ?_, fun t' g b' x h => ?_⟩
  · have : t' ≠ d := fun e => by rw [e] at h; simp only at h; rw [hs] at h; cases h
    rw [getD_put hd', if_neg this]
    exact R.sl t' x h
  · simp only [look_cons] at h
    by_cases hdt' : d = t'
    · subst hdt'
      simp at h
      obtain ⟨rfl, rfl, rfl⟩ := h
      rw [getD_put hd', getD_put hd', if_pos rfl, if_neg (fun e => hdt e.symm)]
      exact ⟨hd, hv⟩
    · rw [if_neg hdt'] at h
      rw [getD_put hd', getD_put hd', if_neg (g2 _ _ _ _ h), if_neg (fun e => hdt' e.symm)]
      exact R.gd t' g b' x h

theorem wanted_iff {ops : Array Oper} {o : Oper} {j : Nat} {b : Bool} {t : Nat} {oj : Oper} (ho : o.guard = some (j, b)) (hj : ops[j]? = some oj) (ht : oj.dst = some t) (hts : t < a.tmps.size) :
    Region.wanted o (yielded ops a.tmps) = true ↔ a.tmps.getD t undef = .bool b := by
  simp only [Region.wanted, ho, yielded, hj, ht, Option.bind_some, beq_iff_eq]
  rw [Array.getD_eq_getD_getElem?, Array.getElem?_eq_getElem hts]
  simp only [Option.getD_some]
  constructor
  · intro h
    split at h
    · rename_i b' hb
      injection hb with hb
      injection h with h
      rw [hb, h]
    · cases h
  · intro h; rw [h]

theorem ands_cds {gs : List Prop} {r : Res} {v : VC} (h : (VC.ands (cds gs r) v).holds) : (All gs → (∀ c ∈ r.c, c) ∧ ((∀ p ∈ r.f, p) → v.holds)) ∧ (gs ≠ [] → (All gs → ∀ p ∈ r.f, p) → v.holds) := by
  unfold cds at h
  split at h
  · refine ⟨fun _ => ?_, fun h => absurd rfl h⟩
    have key : ∀ (cs : List Prop) (u : VC), (VC.ands (cs.map Cd.ob) u).holds → (∀ c ∈ cs, c) ∧ u.holds := by
      intro cs
      induction cs with
      | nil => intro u h; exact ⟨by simp, h⟩
      | cons c cs ih =>
        intro u h
        obtain ⟨h1, h2⟩ := h
        obtain ⟨h3, h4⟩ := ih u h2
        exact ⟨fun x hx => by rcases List.mem_cons.1 hx with rfl | hx; exact h1; exact h3 x hx, h4⟩
    have keyf : ∀ (cs : List Prop) (u : VC), (VC.ands (cs.map Cd.fact) u).holds → (∀ c ∈ cs, c) → u.holds := by
      intro cs
      induction cs with
      | nil => intro u h _; exact h
      | cons c cs ih => intro u h hc; exact ih u (h (hc c (by simp))) (fun x hx => hc x (by simp [hx]))
    have app : ∀ (cs ds : List Cd) (u : VC), VC.ands (cs ++ ds) u = VC.ands cs (VC.ands ds u) := by
      intro cs
      induction cs with
      | nil => intro ds u; rfl
      | cons c cs ih => intro ds u; cases c <;> simp [VC.ands, ih]
    rw [app] at h
    obtain ⟨h1, h2⟩ := key _ _ h
    exact ⟨h1, keyf _ _ h2⟩
  · have h1 : (∀ c ∈ r.c, All gs → c) ∧ (VC.ands (match r.f with | [] => [] | fs => [.fact (All gs → All fs)]) v).holds := by
      split at h
      · rename_i hr; rw [hr]; exact ⟨by simp, h⟩
      · obtain ⟨h1, h2⟩ := h
        exact ⟨fun c hc hg => All_iff.1 (h1 hg) c hc, h2⟩
    have h2 : (All gs → ∀ p ∈ r.f, p) → v.holds := by
      have := h1.2
      split at this
      · intro _; exact this
      · intro hf; exact this fun hg => All_iff.2 (hf hg)
    exact ⟨fun hg => ⟨fun c hc => h1.1 c hc hg, fun hf => h2 fun _ => hf⟩, fun _ => h2⟩

theorem chain_cons {ops : List Oper} {o : Oper} {t : Nat} {b : Bool} {r : List (Nat × Bool)} (h : chain ops 10 o.guard = (t, b) :: r) : ∃ j oj, o.guard = some (j, b) ∧ ops[j]? = some oj ∧ oj.dst = some t := by
  unfold chain at h
  split at h
  · rename_i h0; cases h0
  · cases h
  · rename_i k j b' _ hg
    split at h
    · rename_i oj hj
      split at h
      · rename_i t' ht
        injection h with h1 h2
        injection h1 with h3 h4
        subst h3 h4
        exact ⟨j, oj, hg, hj, ht⟩
      · cases h
    · cases h

/-- one operation of a region -/
theorem step_sound (hF : Wide F) (hL : LOk P L) (hΓ : ConOk P Γ) (R : Rel X β σ a w) {ops : Array Oper} {o : Oper} {cs : List Cd} {σ' : St} {v : VC} (h : astep L Γ X.N ops.toList o σ = some (cs, σ')) (hv : (VC.ands cs v).holds)
    {next : Act → World → Prop} {Q : Exit → Act → World → Prop} (hn : ∀ a' w' β', Rel X β' σ' a' w' → v.holds → next a' w') :
    if Region.wanted o (yielded ops a.tmps) then o.wpIn F n P a w next Q else (∀ f, o.about P w a.eval = some f → F.fn f) ∧ next (a.put o.dst undef) w := by
  unfold astep at h
  split at h
  · cases h
  rename_i hchk
  split at h
  · cases h
  · rename_i gs hgs
    obtain ⟨hg1, hg2⟩ := guards_sound R hgs
    split at h
    · cases h
    · rename_i r hr
      split at h
      · -- no slot, no guard
        rename_i hdst hch
        have hgn : o.guard = none := by
          cases hgd : o.guard with
          | none => rfl
          | some g => rw [hgd, ← hgd, hch] at hchk; simp [hgd] at hchk
        injection h with h; injection h with h1 h2; subst h1 h2
        rw [hch] at hgs hr
        obtain rfl := Option.some.inj hgs
        have hh := (ands_cds hv).1 trivial
        have hw : Region.wanted o (yielded ops a.tmps) = true := by simp [Region.wanted, hgn]
        rw [if_pos hw]
        refine aop_sound hF hL hΓ R (by rw [hch] at hg1; exact hg1 trivial) hr hh.1 fun u w' β' hR _ hf => ?_
        rw [hdst]
        exact hn _ _ _ hR (hh.2 hf)
      · cases h
      · -- a slot, no guard
        rename_i d hdst hch
        split at h
        · rename_i hfree
          simp only [Bool.and_eq_true, decide_eq_true_eq] at hfree
          have hgn : o.guard = none := by
            cases hgd : o.guard with
            | none => rfl
            | some g => rw [hgd, ← hgd, hch] at hchk; simp [hgd] at hchk
          injection h with h; injection h with h1 h2; subst h1 h2
          rw [hch] at hgs hr
          obtain rfl := Option.some.inj hgs
          have hh := (ands_cds hv).1 trivial
          have hw : Region.wanted o (yielded ops a.tmps) = true := by simp [Region.wanted, hgn]
          rw [if_pos hw]
          refine aop_sound hF hL hΓ R (by rw [hch] at hg1; exact hg1 trivial) hr hh.1 fun u w' β' hR hva hf => ?_
          rw [hdst]
          exact hn _ _ _ (hR.put hfree.2 hfree.1 hva) (hh.2 hf)
        · cases h
      · -- a slot, under a guard
        rename_i d t b rest hdst hch
        split at h
        · rename_i hfree
          simp only [Bool.and_eq_true, decide_eq_true_eq, bne_iff_ne, ne_eq] at hfree
          obtain ⟨hfree, hdt, hdN⟩ := hfree
          split at h
          · rename_i x hx hh0 hs
            injection h with h; injection h with h1 h2; subst h1 h2
            obtain ⟨j, oj, hgd, hj, ht⟩ := chain_cons hch
            have hjo : ops[j]? = some oj := by simpa using hj
            have htN : t < a.tmps.size := by
              by_cases htN : t < a.tmps.size
              · exact htN
              · exfalso
                rw [hch] at hgs
                unfold guards at hgs
                rw [R.tn] at htN
                cases rest with
                | nil =>
                  simp only at hgs
                  split at hgs
                  · cases hgs
                  · split at hgs
                    · rename_i y hy; exact htN (R.sl _ _ hy).1
                    · cases hgs
                | cons q rest =>
                  simp only at hgs
                  split at hgs
                  · rename_i y hy; exact htN (R.gd _ _ _ _ hy).1
                  · cases hgs
            have hwi := wanted_iff (a := a) hgd hjo ht htN
            have hgne : gs ≠ [] := by
              rw [hch] at hgs
              intro h0
              rw [h0] at hgs
              unfold guards at hgs
              cases rest with
              | nil =>
                simp only at hgs
                split at hgs
                · cases hgs
                · split at hgs
                  · split at hgs <;> simp at hgs
                  · cases hgs
              | cons q rest =>
                simp only at hgs
                split at hgs
                · split at hgs
                  · split at hgs <;> simp at hgs
                  · cases hgs
                · cases hgs
            by_cases hw : Region.wanted o (yielded ops a.tmps) = true
            · rw [if_pos hw]
              have hall : All gs := All_iff.2 (hg2 t b rest hch (hwi.1 hw))
              have hh := (ands_cds hv).1 hall
              refine aop_sound hF hL hΓ R (hg1 hall) hr hh.1 fun u w' β' hR hva hf => ?_
              rw [hdst]
              rw [hh0] at hR hva
              rw [hx] at hva
              exact hn _ _ _ (Rel.putG hR hdN hfree hs hdt (.inl ⟨hwi.1 hw, hva⟩)) (hh.2 hf)
            · rw [if_neg hw]
              refine ⟨fun f _ => hF.fn f, ?_⟩
              have hnw : a.tmps.getD t undef ≠ .bool b := fun h => hw (hwi.2 h)
              have hna : ¬ All gs := fun hall => hnw (hg1 hall t b (by rw [hch]; simp [has]))
              rw [hdst]
              exact hn _ _ _ (R.putG hdN hfree hs hdt (.inr ⟨hnw, rfl⟩)) ((ands_cds hv).2 hgne fun h => absurd h hna)
          · cases h
        · cases h

theorem ands_append : ∀ (cs ds : List Cd) (u : VC), VC.ands (cs ++ ds) u = VC.ands cs (VC.ands ds u)
  | [], _, _ => rfl
  | .ob _ :: cs, ds, u => by simp [VC.ands, ands_append cs]
  | .fact _ :: cs, ds, u => by simp [VC.ands, ands_append cs]

/-- a region in the text's order -/
theorem steps_sound (hF : Wide F) (hL : LOk P L) (hΓ : ConOk P Γ) {ops : Array Oper} {Q : Exit → Act → World → Prop} {v : VC} {σe : St} (hn : ∀ a' w' β', Rel X β' σe a' w' → v.holds → Q .normal a' w') :
    ∀ {l : List Oper} {cs : List Cd} {β : Bt} {σ : St} {a : Act} {w : World}, Rel X β σ a w → asteps L Γ X.N ops.toList l σ = some (cs, σe) → (VC.ands cs v).holds → wpListIn F n P ops Q l a w
  | [], cs, β, σ, a, w, R, h, hv => by
    injection h with h; injection h with h1 h2; subst h1 h2
    exact hn _ _ _ R hv
  | o :: l, cs, β, σ, a, w, R, h, hv => by
    unfold asteps at h
    split at h
    · rename_i c1 σ1 h1
      split at h
      · rename_i c2 σ2 h2
        injection h with h; injection h with e1 e2; subst e1 e2
        rw [ands_append] at hv
        exact step_sound hF hL hΓ R h1 hv fun a' w' β' R' hv' => steps_sound hF hL hΓ hn R' h2 hv'
      · cases h
    · cases h
end
end Go.Sy
