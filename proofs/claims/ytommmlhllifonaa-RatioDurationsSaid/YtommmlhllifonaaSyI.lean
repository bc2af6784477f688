/- A verified generator of conditions for this program, and its soundness: part I of the proof. -/
import Derived.Test.YtommmlhllifonaaSyH
namespace Go.Sy
variable {P : Program} {L : Nat → Option Lay} {Γ : Nat → Option Con} {F : Fence} {n : Nat}

theorem wpIn_loop_ghost {c : Code} {Q : Exit → Act → World → Prop} {a : Act} {w : World} (J : Nat → Act → World → Prop) (h0 : ∃ m, J m a w)
    (round : ∀ m a w, J m a w → c.wpIn F n P (Exit.then (fun a' w' => ∃ m', m' < m ∧ J m' a' w') Q) a w) : (Code.loop c).wpIn F n P Q a w := by
  refine wpIn_loop (fun a w => ∃ m, J m a w) (fun a w => leastOf (fun m => J m a w)) h0 fun a w h => ?_
  obtain ⟨h1, _⟩ := leastOf_spec h
  refine wpIn_mono (round _ a w h1) fun e a' w' he => ?_
  cases e with
  | normal =>
    obtain ⟨m', hlt, hJ⟩ := he
    exact ⟨⟨m', hJ⟩, Nat.lt_of_le_of_lt ((leastOf_spec ⟨m', hJ⟩).2 m' hJ) hlt⟩
  | exit id => exact he
  | goto l => exact he
  | ret => exact he
  | panic c => exact he
  | outgrown => exact he

/-- what is asked behind a list of items -/
def K (F : Fence) (n : Nat) (P : Program) (X : Cx) (Q : Exit → Act → World → Prop) : List It → Exit → Act → World → Prop
  | [] => Q
  | .code c :: r => Exit.then (c.wpIn F n P (K F n P X Q r)) (K F n P X Q r)
  | .blk id :: r => Exit.inBlock id (K F n P X Q r)
  | .lend A x hd :: r => Exit.then (fun a' w' => ∃ x', A.inv x' ∧ A.m x' < A.m x ∧ ∃ σ' β, Rel X β σ' a' w' ∧ (∀ k v, look (hd x').s k = some v → ∃ c u, look σ'.s k = some u ∧ v = coA c u) ∧ (∀ k o, look (hd x').h k = some o → look σ'.h k = some o))
    (K F n P X Q r)

section
variable {X : Cx} {Q : Exit → Act → World → Prop}

theorem K_ret {a : Act} {w : World} (h : Q .ret a w) : ∀ (r : List It), K F n P X Q r .ret a w
  | [] => h
  | .code _ :: r => K_ret h r
  | .blk _ :: r => K_ret h r
  | .lend _ _ _ :: r => K_ret h r

theorem K_exit {a : Act} {w : World} {id : Nat} : ∀ {r r' : List It}, dropTo id r = some r' → K F n P X Q r' .normal a w → K F n P X Q r (.exit id) a w
  | .code _ :: r, r', h, hk => K_exit (r := r) h hk
  | .lend _ _ _ :: r, r', h, hk => K_exit (r := r) h hk
  | .blk i :: r, r', h, hk => by
    simp only [dropTo] at h
    show Exit.inBlock i (K F n P X Q r) (.exit id) a w
    simp only [Exit.inBlock]
    by_cases hi : i = id
    · subst hi
      simp at h
      subst h
      rw [if_pos rfl]
      exact hk
    · rw [if_neg (fun e => hi e.symm)]
      simp [hi] at h
      exact K_exit (r := r) h hk

def DrawOk (P : Program) (L : Nat → Option Lay) (Γ : Nat → Option Con) (F : Fence) (n : Nat) (X : Cx) (draw : List Oper → St → Bool) : Prop :=
  ∀ (ops : Array Oper) (id : Nat) (cs : List Cd) (σ σ' : St) (β : Bt) (a : Act) (w : World) (v : VC) (Q : Exit → Act → World → Prop), draw ops.toList σ = true → Rel X β σ a w →
    asteps L Γ X.N ops.toList ops.toList σ = some (cs, σ') → (VC.obs cs (VC.fcts cs v)).holds → (∀ a' w' β', Rel X β' σ' a' w' → v.holds → Q .normal a' w') → (Code.region id ops true).wpIn F n P Q a w

theorem vc_sound (hF : Wide F) (hL : LOk P L) (hΓ : ConOk P Γ) {φ : Fn} (hN : X.N = φ.N) (hD : DrawOk P L Γ F n X φ.draw) {post : St → VC}
    (hQ : ∀ β σ a w, (post σ).holds → Rel X β σ a w → Q .normal a w ∧ Q .ret a w) :
    ∀ (k : Nat) (items : List It) (σ : St) (β : Bt) (a : Act) (w : World), (vc L Γ φ post k items σ).holds → Rel X β σ a w → K F n P X Q items .normal a w := by
  intro k
  induction k with
  | zero => intro items σ β a w h; exact h.elim
  | succ k ih =>
    intro items σ β a w h R
    match items with
    | [] => exact (hQ β σ a w h R).1
    | .blk id :: r => exact ih r σ β a w h R
    | .lend A x hd :: r =>
      obtain ⟨x', h1, h2, h3⟩ := h
      have h3 := VC.all_holds h3
      simp only [List.mem_append] at h3
      have e1 := entS_sound (fun p hp => h3 p (.inl hp))
      have e2 := entH_sound (fun p hp => h3 p (.inr hp))
      exact ⟨x', h1, h2, σ, β, R, fun k v hk => e1 k v (look_mem hk), fun k o hk => e2 k o (look_mem hk)⟩
    | .code c :: r =>
      show c.wpIn F n P (K F n P X Q r) a w
      simp only [vc] at h
      split at h
      · exact wpIn_skip (ih r σ β a w h R)
      · rename_i id ops
        split at h
        · rename_i cs σ' hs
          rw [← hN] at hs
          exact wpIn_region_list (steps_sound hF hL hΓ (fun a' w' β' R' hv => ih r _ β' a' w' hv (R'.clean φ.keep)) R hs h)
        · exact h.elim
      · rename_i id ops
        split at h
        · rename_i cs σ' hs
          split at h
          · rename_i hd
            rw [← hN] at hs
            exact hD ops id cs σ σ' β a w _ _ hd R hs h (fun a' w' β' R' hv => ih r _ β' a' w' hv (R'.clean φ.keep))
          · exact h.elim
        · exact h.elim
      · rename_i x y
        exact wpIn_seq (ih (.code x :: .code y :: r) σ β a w h R)
      · rename_i c x y
        split at h
        · rename_i b hb
          have hc := VT.bool (opT_sound R (G := []) (fun t b hh => by simp [has] at hh) hb)
          refine wpIn_cond hc ?_
          cases b with
          | true => exact ih (.code x :: r) σ β a w (h.1 rfl) R
          | false => exact ih (.code y :: r) σ β a w (h.2 rfl) R
        · exact h.elim
      · rename_i id x
        exact wpIn_block (ih (.code x :: .blk id :: r) σ β a w h R)
      · rename_i id
        split at h
        · rename_i r' hr
          exact wpIn_exit (K_exit hr (ih r' σ β a w h R))
        · exact h.elim
      · exact wpIn_ret (K_ret (hQ β σ a w h R).2 r)
      · rename_i b
        split at h
        · rename_i i hi
          split at h
          · rename_i A hA
            obtain ⟨⟨x0, hx0, hx1⟩, hall⟩ := h
            have hx1 := VC.all_holds hx1
            simp only [List.mem_append] at hx1
            have e1 := entS_sound (fun p hp => hx1 p (.inl hp))
            have e2 := entH_sound (fun p hp => hx1 p (.inr hp))
            have hchk : ∀ x, A.inv x → (slotsOk (A.h x ++ dropH (A.h x) σ.h) (A.s x) = true ∧ heapOk (A.h x ++ dropH (A.h x) σ.h) (A.h x) = true) ∧
                (vc L Γ φ post k (.code b :: .lend A x (headOf A (dsts 20 b) σ) :: r) (headOf A (dsts 20 b) σ x)).holds := by
              intro x hx
              have := hall x hx
              split at this
              · rename_i hc
                simp only [Bool.and_eq_true] at hc
                exact ⟨hc, this⟩
              · exact this.elim
            have hdom : ∀ x n, ptrOk σ.h n = true → ptrOk (A.h x ++ dropH (A.h x) σ.h) n = true := by
              intro x n hn
              rw [ptrOk_iff] at hn ⊢
              unfold dm at hn ⊢
              rw [look_append]
              cases ho : look (A.h x) n with
              | some o => simp
              | none => rw [dropH_sub ho]; exact hn
            have hweak : ∀ x, A.inv x → ∀ (σ' : St) (β' : Bt) (a' : Act) (w' : World), Rel X β' σ' a' w' → (∀ k v, look (headOf A (dsts 20 b) σ x).s k = some v → ∃ c u, look σ'.s k = some u ∧ v = coA c u) →
                (∀ k o, look (headOf A (dsts 20 b) σ x).h k = some o → look σ'.h k = some o) → Rel X β' (headOf A (dsts 20 b) σ x) a' w' := by
              intro x hx σ' β' a' w' R' h1 h2
              obtain ⟨⟨c1, c2⟩, _⟩ := hchk x hx
              refine R'.weaken h1 h2 (fun m hm => ptrOk_iff.1 (hdom x m (ptrOk_iff.2 (R.be.d m hm)))) (fun k v hk => ?_) (fun k c hk => ?_)
              · rw [look_append] at hk
                split at hk
                · rename_i u hu
                  injection hk with hk; subst hk
                  exact slotsOk_sound c1 (look_mem hu)
                · exact avOk_mono (hdom x) (R.ok1 (dropS_sub hk))
              · rw [look_append] at hk
                split at hk
                · rename_i u hu
                  injection hk with hk; subst hk
                  exact heapOk_sound c2 (look_mem hu)
                · rename_i hu
                  rw [dropH_sub hu] at hk
                  exact lvsOk_mono (hdom x) (R.ok2 hk)
            refine wpIn_loop_ghost (fun m a w => ∃ x β, A.inv x ∧ A.m x = m ∧ Rel X β (headOf A (dsts 20 b) σ x) a w) ⟨A.m x0, x0, β, hx0, rfl, hweak x0 hx0 σ β a w R (fun k v hk => ?_) (fun k o hk => ?_)⟩ ?_
            · rw [look_append] at hk
              split at hk
              · rename_i u hu
                injection hk with hk; subst hk
                exact e1 k u (look_mem hu)
              · exact ⟨.tup [], v, dropS_sub hk, (coA_none v).symm⟩
            · rw [look_append] at hk
              split at hk
              · rename_i u hu
                injection hk with hk; subst hk
                exact e2 k u (look_mem hu)
              · rename_i hu
                rw [dropH_sub hu] at hk
                exact hk
            · rintro m a1 w1 ⟨x, β1, hx, rfl, R1⟩
              have h1 := ih _ _ β1 a1 w1 (hchk x hx).2 R1
              refine wpIn_mono (Q := K F n P X Q (.lend A x (headOf A (dsts 20 b) σ) :: r)) h1 fun e a' w' he => ?_
              cases e with
              | normal =>
                obtain ⟨x', g1, g2, σ', β', R', g3, g4⟩ := he
                exact ⟨A.m x', g2, x', β', g1, rfl, hweak x' g1 σ' β' a' w' R' g3 g4⟩
              | exit id => exact he
              | goto l => exact he
              | ret => exact he
              | panic c => exact he
              | outgrown => exact he
          · exact h.elim
        · exact h.elim
      · exact h.elim
end
end Go.Sy
