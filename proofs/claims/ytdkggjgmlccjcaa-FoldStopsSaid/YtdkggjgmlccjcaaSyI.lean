/- A verified generator of conditions for this program, and its soundness: part I of the proof. -/
import Derived.Test.YtdkggjgmlccjcaaSyP
namespace Go.Sy
variable {P : Program} {L : Nat → Option Lay} {Γ : Nat → Option Con} {F : Fence} {n : Nat}

theorem wpIn_loop_ghost {c : Code} {Q : Exit → Act → World → Prop} {a : Act} {w : World} (J : Nat → Act → World → Prop) (h0 : ∃ m, J m a w)
    (round : ∀ m a w, J m a w → c.wpIn F n P (Exit.then (fun a' w' => ∃ m', m' < m ∧ J m' a' w') Q) a w) : (Code.loop c).wpIn F n P Q a w := by
  refine wpIn_loop (fun a w => ∃ m, J m a w) (fun a w => leastOf (fun m => J m a w)) h0 fun a w h => ?_
  obtain ⟨h1, _⟩ := leastOf_spec h
  refine wpIn_mono (round _ a w h1) fun e a' w' he => ?_
  cases e with
  | normal =>
    obtain ⟨m', hlt, hJ⟩ := he
    exact ⟨⟨m', hJ⟩, Nat.lt_of_le_of_lt ((leastOf_spec ⟨m', hJ⟩).2 m' hJ) hlt⟩
  | exit id => exact he
  | goto l => exact he
  | ret => exact he
  | panic c => exact he
  | outgrown => exact he

/-- what is asked behind a list of items -/
def K (F : Fence) (n : Nat) (P : Program) (X : Cx) (Q : Exit → Act → World → Prop) : List It → Exit → Act → World → Prop
  | [] => Q
  | .code c :: r => Exit.then (c.wpIn F n P (K F n P X Q r)) (K F n P X Q r)
  | .blk id :: r => Exit.inBlock id (K F n P X Q r)
  | .lend A x hd :: r => Exit.then (fun a' w' => ∃ x', A.inv x' ∧ A.m x' < A.m x ∧ ∃ σ' β, Rel X β σ' a' w' ∧ (∀ k v, look (hd x').s k = some v → ∃ c u, look σ'.s k = some u ∧ v = coA c u) ∧ (∀ k o, look (hd x').h k = some o → look σ'.h k = some o))
    (K F n P X Q r)

section
variable {X : Cx} {Q : Exit → Act → World → Prop}

theorem K_ret {a : Act} {w : World} (h : Q .ret a w) : ∀ (r : List It), K F n P X Q r .ret a w
  | [] => h
  | .code _ :: r => K_ret h r
  | .blk _ :: r => K_ret h r
  | .lend _ _ _ :: r => K_ret h r

theorem K_exit {a : Act} {w : World} {id : Nat} : ∀ {r r' : List It}, dropTo id r = some r' → K F n P X Q r' .normal a w → K F n P X Q r (.exit id) a w
  | .code _ :: r, r', h, hk => K_exit (r := r) h hk
  | .lend _ _ _ :: r, r', h, hk => K_exit (r := r) h hk
  | .blk i :: r, r', h, hk => by
    simp only [dropTo] at h
    show Exit.inBlock i (K F n P X Q r) (.exit id) a w
    simp only [Exit.inBlock]
    by_cases hi : i = id
    · subst hi
      simp at h
      subst h
      rw [if_pos rfl]
      exact hk
    · rw [if_neg (fun e => hi e.symm)]
      simp [hi] at h
      exact K_exit (r := r) h hk

theorem K_none {a : Act} {w : World} {id : Nat} : ∀ {r : List It}, dropTo id r = none → Q (.exit id) a w → K F n P X Q r (.exit id) a w
  | [], _, hk => hk
  | .code _ :: r, h, hk => K_none (r := r) h hk
  | .lend _ _ _ :: r, h, hk => K_none (r := r) h hk
  | .blk i :: r, h, hk => by
    simp only [dropTo] at h
    show Exit.inBlock i (K F n P X Q r) (.exit id) a w
    simp only [Exit.inBlock]
    by_cases hi : i = id
    · subst hi
      simp at h
    · rw [if_neg (fun e => hi e.symm)]
      simp [hi] at h
      exact K_none h hk

def DrawOk (P : Program) (L : Nat → Option Lay) (Γ : Nat → Option Con) (F : Fence) (n : Nat) (X : Cx) (draw : List Oper → St → Bool) : Prop :=
  ∀ (ops : Array Oper) (id : Nat) (cs : List Cd) (σ σ' : St) (β : Bt) (a : Act) (w : World) (v : VC) (Q : Exit → Act → World → Prop), draw ops.toList σ = true → Rel X β σ a w →
    asteps L Γ X.N ops.toList ops.toList σ = some (cs, σ') → (VC.obs cs (VC.fcts cs v)).holds → (∀ a' w' β', Rel X β' σ' a' w' → v.holds → Q .normal a' w') → (Code.region id ops true).wpIn F n P Q a w

theorem ands_obs : ∀ {cs : List Prop} {u : VC}, (VC.ands (cs.map Cd.ob) u).holds → (∀ c ∈ cs, c) ∧ u.holds
  | [], u, h => ⟨by simp, h⟩
  | c :: cs, u, h => by
    obtain ⟨h1, h2⟩ := h
    obtain ⟨h3, h4⟩ := ands_obs h2
    exact ⟨fun x hx => by rcases List.mem_cons.1 hx with rfl | hx; exact h1; exact h3 x hx, h4⟩
theorem foldr_holds {α : Type} {p : Prop} {q : α → Prop} {g : α → VC} : ∀ {l : List α}, (l.foldr (fun x v => VC.both (.imp p (.imp (q x) (g x))) v) .tt).holds → ∀ x ∈ l, p → q x → (g x).holds
  | y :: l, h, x, hx, hp, hq => by
    rcases List.mem_cons.1 hx with rfl | hx
    · exact h.1 hp hq
    · exact foldr_holds h.2 x hx hp hq
theorem exFind_spec {α : Type} : ∀ {l : List (Ex × α)} {e : Ex} {p : α}, exFind l e = some p → (e, p) ∈ l
  | (e', p') :: l, e, p, h => by
    simp only [exFind] at h
    split at h
    · rename_i hs
      injection h with h; subst h
      have : e' = e := by
        cases e' <;> cases e <;> simp_all [Ex.same]
      rw [this]; exact List.mem_cons_self ..
    · exact List.mem_cons_of_mem _ (exFind_spec h)
theorem below_mem {N : Nat} : ∀ {l : List Nat}, below N l = true → ∀ k ∈ l, k < N
  | a :: l, h, k, hk => by
    simp only [below, Bool.and_eq_true] at h
    rcases List.mem_cons.1 hk with rfl | hk
    · exact Nat.le_of_ble_eq_true h.1
    · exact below_mem h.2 k hk

/-- a round's parameters are set -/
theorem Rel.params {X : Cx} {β : Bt} {s : List (Nat × AV)} {h : List (Nat × HO)} {t : Array Value} {w : World} {ps : Array Tmp} {sg : List Ty} {x : (tpl sg).T} {vals : List Value} (R : Rel X β { s := s, g := [], h := h } { tmps := t, defers := [] } w)
    (hargs : ArgsOk w (Mt β (look h)) sg x vals) (hps : ps.size = sg.length) (hd : distinct ps.toList = true) (hb : below X.N ps.toList = true) :
    Rel X β { s := pSlots ps.toList sg x ++ dropS ps.toList s, g := [], h := h } { tmps := (ps.zip vals.toArray).foldl (fun t (p, v) => t.setIfInBounds p v) t, defers := [] } w := by
  have hfold : (ps.zip vals.toArray).foldl (fun t (p, v) => t.setIfInBounds p v) t = (ps.toList.zip vals).foldl (fun t (p, v) => t.setIfInBounds p v) t := by
    rw [← Array.foldl_toList, Array.toList_zip]
  rw [hfold]
  have htn : t.size = X.N := R.tn
  have hlen : ps.toList.length = vals.length := by simp [hargs.length, hps]
  have hb' : below t.size ps.toList = true := by rw [htn]; exact hb
  refine ⟨(foldl_look _ _ t 0 hd hlen hb').1.trans R.tn, trivial, R.fr, R.own, R.be, R.bm, R.hr, R.ev, fun k v hk => ?_, fun t g b x h => by cases h⟩
  obtain ⟨_, f2, f3⟩ := foldl_look ps.toList vals t k hd hlen hb'
  simp only [look_append] at hk
  split at hk
  · rename_i v' hv'
    injection hk with hk; subst hk
    obtain ⟨i, u, h1, h2, h3, _⟩ := pSlots_look hargs hd k v' hv'
    refine ⟨below_mem hb k (List.mem_of_getElem? h1), ?_⟩
    show VA w _ β _ v' (Array.getD _ k undef)
    rw [f3 i h1 u h2]
    exact h3
  · rename_i hn
    have hk' := dropS_sub hk
    have hne := pSlots_none (by simpa using hps) k hn
    obtain ⟨h1, h2⟩ := R.sl k v hk'
    refine ⟨h1, ?_⟩
    show VA w _ β _ v (Array.getD _ k undef)
    rw [f2 hne]
    exact h2

theorem vc_core (hL : LOk P L) (hΓ : ConOk P Γ) : ∀ (k : Nat) {F : Fence} {n : Nat} {X : Cx} {Q : Exit → Act → World → Prop} {φ : Fn} {post : Ex → St → VC} (_ : Wide F) (_ : X.b0.pr = P) (_ : X.N = φ.N)
    (_ : ∀ (F : Fence) (n : Nat) (X : Cx), Wide F → X.N = φ.N → X.b0.pr = P → DrawOk P L Γ F n X φ.draw) (_ : φ.rf = true → F.round = none ∧ X.mb ≤ X.w0.heap.size)
    (_ : ∀ e β σ a w, (post e σ).holds → Rel X β σ a w → Q e.exit a w) (items : List It) (σ : St) (β : Bt) (a : Act) (w : World), (vc L Γ φ post k items σ).holds → Rel X β σ a w → K F n P X Q items .normal a w := by
  intro k
  induction k with
  | zero => intro F n X Q φ post hF hpr hN hD hrf hQ items σ β a w h; exact h.elim
  | succ k ih0 =>
    intro F n X Q φ post hF hpr hN hD hrf hQ
    have ih := ih0 (n := n) hF hpr hN hD hrf hQ
    intro items σ β a w h R
    match items with
    | [] => exact hQ .nm β σ a w h R
    | .blk id :: r => exact ih r σ β a w h R
    | .lend A x hd :: r =>
      obtain ⟨x', h1, h2, h3⟩ := h
      have h3 := VC.all_holds h3
      simp only [List.mem_append] at h3
      have e1 := entS_sound (fun p hp => h3 p (.inl hp))
      have e2 := entH_sound (fun p hp => h3 p (.inr hp))
      exact ⟨x', h1, h2, σ, β, R, fun k v hk => e1 k v (look_mem hk), fun k o hk => e2 k o (look_mem hk)⟩
    | .code c :: r =>
      show c.wpIn F n P (K F n P X Q r) a w
      simp only [vc] at h
      split at h
      · exact wpIn_skip (ih r σ β a w h R)
      · rename_i id ops
        split at h
        · rename_i cs σ' hs
          rw [← hN] at hs
          exact wpIn_region_list (steps_sound hF hpr hL hΓ (fun a' w' β' R' hv => ih r _ β' a' w' hv (R'.clean φ.keep)) R hs h)
        · exact h.elim
      · rename_i id ops
        split at h
        · rename_i cs σ' hs
          split at h
          · rename_i hd
            rw [← hN] at hs
            exact hD F n X hF hN hpr ops id cs σ σ' β a w _ _ hd R hs h (fun a' w' β' R' hv => ih r _ β' a' w' hv (R'.clean φ.keep))
          · exact h.elim
        · exact h.elim
      · rename_i x y
        exact wpIn_seq (ih (.code x :: .code y :: r) σ β a w h R)
      · rename_i c x y
        split at h
        · rename_i b hb
          have hc := VT.bool (opT_sound R (G := []) (fun t b hh => by simp [has] at hh) hb)
          refine wpIn_cond hc ?_
          cases b with
          | true => exact ih (.code x :: r) σ β a w (h.1 rfl) R
          | false => exact ih (.code y :: r) σ β a w (h.2 rfl) R
        · exact h.elim
      · rename_i id x
        exact wpIn_block (ih (.code x :: .blk id :: r) σ β a w h R)
      · rename_i id
        split at h
        · rename_i r' hr
          exact wpIn_exit (K_exit hr (ih r' σ β a w h R))
        · rename_i hr
          exact wpIn_exit (K_none hr (hQ (.ex id) β σ a w h R))
      · exact wpIn_ret (K_ret (hQ .rt β σ a w h R) r)
      · rename_i g ps as bd
        split at h
        · rename_i i hrft hi
          split at h
          · rename_i A f ca hA hg
            split at h
            · rename_i con hcon
              split at h
              · rename_i cs r' y sg' H go' hc
                split at h
                · rename_i e _
                  subst e
                  split at h
                  · rename_i hchk
                    simp only [Bool.and_eq_true, Bool.not_eq_true', beq_iff_eq] at hchk
                    obtain ⟨⟨rfl, hy, okl, okc⟩, okr, hps, hdist, hbel⟩ := hchk
                    obtain ⟨hcs, hgo, hi0, hen, hb, hf⟩ := ands_obs h
                    have hgo' : go' = A.go := hgo
                    subst hgo'
                    have hround := hrf hrft
                    have hyn : look σ.h (ry i) = none := by
                      cases ho : look σ.h (ry i) with
                      | none => rfl
                      | some o => unfold ptrOk at hy; rw [ho] at hy; cases hy
                    have hcheck : ∀ hist, A.inv hist → (namesIn (selH (lentN σ.h ca) false σ.h) (A.h hist) = true ∧ heapOk (hhOf A (selH (lentN σ.h ca) false σ.h) hist) (A.h hist) = true) ∧ (∀ x, liveX A.go hist x → _) := fun hist hinv => by
                      have h1 := hb hist hinv
                      split at h1
                      · rename_i hc2
                        simp only [Bool.and_eq_true] at hc2
                        exact ⟨hc2, h1⟩
                      · exact h1.elim
                    refine range_sound hF hround.1 hround.2 hpr R (ln := lentN σ.h ca) (y := ry i) (con := con) (fr := 99000) (cs := cs) (r' := r') (H := H) (opT_sound R (G := []) (fun t b hh => by simp [has] at hh) hg) (hΓ f con hcon) hc hcs hyn okl okr okc hps
                      (fun hist hinv => (hcheck hist hinv).1) hi0 (fun n o hm => entH_sound (VC.all_holds hen) n o hm) (fun l hist x vals X' β' w' hXN hXpr hinv hlive hargs hRel => ?_) (fun β' a' w' R' hinv hlive => ?_) (fun β' a' w' q R' hinv hnl hq hq2 => ?_)
                    · have hv := (hcheck hist hinv).2 x hlive
                      refine ih0 (φ := { φ with rf := false }) (F := Fence.wide.inRound l) (n := 0) (X := X') ⟨fun _ => trivial, rfl, rfl⟩ hXpr (hXN.trans hN) (fun F n X hF hN hpr => hD F n X hF hN hpr) (fun h => by cases h) (fun e1 β1 σ1 a1 w1 hp R1 => ?_) [.code as] _ β' _ w' hv
                        (hRel.params hargs hps hdist (by rw [hXN, hN]; exact hbel))
                      cases e1 with
                      | nm =>
                        refine ⟨β1, σ1, R1, fun X2 w2 β2 hN2 hpr2 R2 => ?_⟩
                        refine ih0 (φ := { φ with rf := false }) (F := Fence.wide.inRound l) (n := 0) (X := X2) ⟨fun _ => trivial, rfl, rfl⟩ hpr2 (hN2.trans hN) (fun F n X hF hN hpr => hD F n X hF hN hpr) (fun h => by cases h) (fun e2 β3 σ3 a3 w3 hp3 R3 => ?_) [.code bd] _ β2 _ w2 hp R2
                        have out : ∀ e2, e2 ≠ Ex.nm → (match exFind A.js e2 with
                              | some p => VC.conj (A.go (hist ++ [x]) = false) (.conj (A.inv (hist ++ [x])) (.conj (p (hist ++ [x])) (VC.all (entH σ3.h (A.h (hist ++ [x]) ++ dropH (A.h (hist ++ [x])) (selH (lentN σ.h ca) false σ.h))))))
                              | none => .ff).holds → ∃ β3 σ3, Rel X2 β3 σ3 a3 w3 ∧ A.inv (hist ++ [x]) ∧ (∀ k o, look (hhOf A (selH (lentN σ.h ca) false σ.h) (hist ++ [x])) k = some o → look σ3.h k = some o) ∧
                              ((e2.exit = .normal ∧ A.go (hist ++ [x]) = true) ∨ (A.go (hist ++ [x]) = false ∧ ∃ q ∈ A.js, (q.1 = .rt ∨ ∃ id, q.1 = .ex id) ∧ e2.exit = q.1.exit ∧ q.2 (hist ++ [x]))) := fun e2 hne hp3 => by
                          split at hp3
                          · rename_i p hp
                            obtain ⟨g1, g2, g3, g4⟩ := hp3
                            refine ⟨β3, σ3, R3, g2, fun k o hk => entH_sound (VC.all_holds g4) k o (look_mem hk), .inr ⟨g1, (e2, p), exFind_spec hp, ?_, rfl, g3⟩⟩
                            cases e2 with
                            | nm => exact absurd rfl hne
                            | rt => exact .inl rfl
                            | ex id => exact .inr ⟨id, rfl⟩
                          · exact hp3.elim
                        cases e2 with
                        | nm =>
                          obtain ⟨g1, g2, g3⟩ := hp3
                          exact ⟨β3, σ3, R3, g2, fun k o hk => entH_sound (VC.all_holds g3) k o (look_mem hk), .inl ⟨rfl, g1⟩⟩
                        | rt => exact out .rt (by simp) hp3
                        | ex id => exact out (.ex id) (by simp) hp3
                      | rt => exact hp.elim
                      | ex id => exact hp.elim
                    · exact ih r _ β' a' w' ((hf hinv).1 hlive) R'
                    · exact ih (.code q.1.code :: r) _ β' a' w' (foldr_holds (hf hinv).2 q hq hnl hq2) R'
                  · exact h.elim
                · exact h.elim
              · exact h.elim
            · exact h.elim
          · exact h.elim
        · exact h.elim
      · rename_i b
        split at h
        · rename_i i hi
          split at h
          · rename_i A hA
            obtain ⟨⟨x0, hx0, hx1⟩, hall⟩ := h
            have hx1 := VC.all_holds hx1
            simp only [List.mem_append] at hx1
            have e1 := entS_sound (fun p hp => hx1 p (.inl hp))
            have e2 := entH_sound (fun p hp => hx1 p (.inr hp))
            have hchk : ∀ x, A.inv x → (slotsOk (A.h x ++ dropH (A.h x) σ.h) (A.s x) = true ∧ heapOk (A.h x ++ dropH (A.h x) σ.h) (A.h x) = true) ∧
                (vc L Γ φ post k (.code b :: .lend A x (headOf A (dsts 20 b) σ) :: r) (headOf A (dsts 20 b) σ x)).holds := by
              intro x hx
              have := hall x hx
              split at this
              · rename_i hc
                simp only [Bool.and_eq_true] at hc
                exact ⟨hc, this⟩
              · exact this.elim
            have hdom : ∀ x n, ptrOk σ.h n = true → ptrOk (A.h x ++ dropH (A.h x) σ.h) n = true := by
              intro x n hn
              rw [ptrOk_iff] at hn ⊢
              unfold dm at hn ⊢
              rw [look_append]
              cases ho : look (A.h x) n with
              | some o => simp
              | none => rw [dropH_sub ho]; exact hn
            have hweak : ∀ x, A.inv x → ∀ (σ' : St) (β' : Bt) (a' : Act) (w' : World), Rel X β' σ' a' w' → (∀ k v, look (headOf A (dsts 20 b) σ x).s k = some v → ∃ c u, look σ'.s k = some u ∧ v = coA c u) →
                (∀ k o, look (headOf A (dsts 20 b) σ x).h k = some o → look σ'.h k = some o) → Rel X β' (headOf A (dsts 20 b) σ x) a' w' := by
              intro x hx σ' β' a' w' R' h1 h2
              obtain ⟨⟨c1, c2⟩, _⟩ := hchk x hx
              refine R'.weaken h1 h2 (fun m hm => ptrOk_iff.1 (hdom x m (ptrOk_iff.2 (R.be.d m hm)))) (fun k v hk => ?_) (fun k c hk => ?_)
              · rw [look_append] at hk
                split at hk
                · rename_i u hu
                  injection hk with hk; subst hk
                  exact slotsOk_sound c1 (look_mem hu)
                · exact avOk_mono (hdom x) (R.ok1 (dropS_sub hk))
              · rw [look_append] at hk
                split at hk
                · rename_i u hu
                  injection hk with hk; subst hk
                  exact heapOk_sound c2 (look_mem hu)
                · rename_i hu
                  rw [dropH_sub hu] at hk
                  exact lvsOk_mono (hdom x) (R.ok2 hk)
            refine wpIn_loop_ghost (fun m a w => ∃ x β, A.inv x ∧ A.m x = m ∧ Rel X β (headOf A (dsts 20 b) σ x) a w) ⟨A.m x0, x0, β, hx0, rfl, hweak x0 hx0 σ β a w R (fun k v hk => ?_) (fun k o hk => ?_)⟩ ?_
            · rw [look_append] at hk
              split at hk
              · rename_i u hu
                injection hk with hk; subst hk
                exact e1 k u (look_mem hu)
              · exact ⟨.tup [], v, dropS_sub hk, (coA_none v).symm⟩
            · rw [look_append] at hk
              split at hk
              · rename_i u hu
                injection hk with hk; subst hk
                exact e2 k u (look_mem hu)
              · rename_i hu
                rw [dropH_sub hu] at hk
                exact hk
            · rintro m a1 w1 ⟨x, β1, hx, rfl, R1⟩
              have h1 := ih _ _ β1 a1 w1 (hchk x hx).2 R1
              refine wpIn_mono (Q := K F n P X Q (.lend A x (headOf A (dsts 20 b) σ) :: r)) h1 fun e a' w' he => ?_
              cases e with
              | normal =>
                obtain ⟨x', g1, g2, σ', β', R', g3, g4⟩ := he
                exact ⟨A.m x', g2, x', β', g1, rfl, hweak x' g1 σ' β' a' w' R' g3 g4⟩
              | exit id => exact he
              | goto l => exact he
              | ret => exact he
              | panic c => exact he
              | outgrown => exact he
          · exact h.elim
        · exact h.elim
      · exact h.elim

theorem vc_sound (hF : Wide F) (hpr : X.b0.pr = P) (hL : LOk P L) (hΓ : ConOk P Γ) {φ : Fn} (hN : X.N = φ.N) (hrf : φ.rf = true → F.round = none ∧ X.mb ≤ X.w0.heap.size) (hD : ∀ (F : Fence) (n : Nat) (X : Cx), Wide F → X.N = φ.N → X.b0.pr = P → DrawOk P L Γ F n X φ.draw) {post : Ex → St → VC}
    (hQ : ∀ e β σ a w, (post e σ).holds → Rel X β σ a w → Q e.exit a w) (k : Nat) (items : List It) (σ : St) (β : Bt) (a : Act) (w : World) (h : (vc L Γ φ post k items σ).holds) (R : Rel X β σ a w) : K F n P X Q items .normal a w :=
  vc_core hL hΓ k hF hpr hN hD hrf hQ items σ β a w h R
end
end Go.Sy
