/- A verified generator of conditions for this program, and its soundness: part J of the proof. -/
import Derived.Test.YtommmlhllifonaaSyI
namespace Go.Sy
variable {P : Program} {L : Nat → Option Lay} {Γ : Nat → Option Con} {F : Fence} {n : Nat}

theorem args0_look : ∀ {l : List TV} {i t : Nat} {v : AV}, look (args0 i l) t = some v → ∃ j x, t = i + j ∧ l[j]? = some x ∧ v = .t x
  | x :: l, i, t, v, h => by
    simp only [args0] at h
    rw [look_cons] at h
    split at h
    · rename_i e
      injection h with h
      exact ⟨0, x, by omega, rfl, h.symm⟩
    · obtain ⟨j, y, h1, h2, h3⟩ := args0_look h
      exact ⟨j + 1, y, by omega, by simpa using h2, h3⟩

section
variable {X : Cx} {β : Nat → Option Nat} {σ : St} {a : Act} {w : World}

/-- one result -/
def resM (tmps : Array Value) : ResultVar → Sem Value
  | .tmp t => pure (tmps.getD t undef)
  | .cell a t => do loadVar t (← asAddr (tmps.getD a undef))

theorem resOf_sound (hL : LOk P L) (R : Rel X β σ a w) : ∀ {rs : List ResultVar} {xs : List TV}, resOf L σ rs = some xs →
    ∃ vs, (rs.mapM (resM a.tmps)).run P w = .ok vs w ∧ All2 (VT w (Mt X.M0 β (look σ.h)) β (dm (look σ.h))) xs vs
  | [], xs, h => by injection h with h; subst h; exact ⟨[], by simp, .nil⟩
  | .tmp t :: r, xs, h => by
    simp only [resOf] at h
    split at h
    · rename_i x ys hx hys
      injection h with h; subst h
      obtain ⟨vs, h1, h2⟩ := resOf_sound hL R hys
      exact ⟨_ :: vs, by simp [resM, h1], .cons (R.sl _ _ hx).2 h2⟩
    · cases h
  | .cell p t :: r, xs, h => by
    simp only [resOf] at h
    split at h
    · rename_i q y ys hq hy hys
      split at h
      · rename_i x hx
        injection h with h; subst h
        obtain ⟨vs, h1, h2⟩ := resOf_sound hL R hys
        obtain ⟨p', v, e1, e2, e3⟩ := loadFrom_sound hL R hy (R.sl _ _ hq).2 hx
        exact ⟨v :: vs, by simp [resM, asAddr, e1, e2, h1], .cons e3 h2⟩
      · cases h
    · cases h

theorem results_sound (hL : LOk P L) (R : Rel X β σ a w) {fn : Func} {xs : List TV} (h : resOf L σ fn.results.toList = some xs) :
    ∃ v, (results fn a.tmps).run P w = .ok v w ∧ VA w (Mt X.M0 β (look σ.h)) β (dm (look σ.h)) (resAV xs) v := by
  obtain ⟨vs, h1, h2⟩ := resOf_sound hL R h
  have hrun : (results fn a.tmps).run P w = .ok (if h : vs.toArray.size = 1 then vs.toArray[0] else .tuple vs.toArray) w := by
    have hres : results fn a.tmps = (fn.results.mapM (resM a.tmps) >>= fun vs => pure (if h : vs.size = 1 then vs[0] else .tuple vs)) := by
      unfold results
      congr 1
    rw [hres, Sem.run_bind, Array.mapM_eq_mapM_toList, Sem.run_map, h1]
    rfl
  refine ⟨_, hrun, ?_⟩
  cases h2 with
  | nil => exact ⟨#[], rfl, .nil⟩
  | @cons x v xs vs h3 h4 =>
    cases h4 with
    | nil => exact h3
    | @cons x' v' xs vs h5 h6 => exact ⟨(v :: v' :: vs).toArray, by simp, .cons h3 (.cons h5 h6)⟩
end

theorem Evo.of_fr {B : Nat → Prop} {M : CM} {w w' : World} (h : Fr B w w') (hB : ∀ k off, B k → M k off) : Evo M M w w' :=
  ⟨h.size, fun _ hp hm => cell_of_heap (h.block _ hp fun hb => hm (hB _ _ hb)), fun _ _ _ h => h⟩

theorem HR.fr {M0 : CM} {β : Nat → Option Nat} {hp : Nat → Option HO} {w w' : World} (H : HR M0 β hp w) (h : Fr (fun _ => False) w w') : HR M0 β hp w' := by
  refine ⟨fun k off hm => Nat.lt_of_lt_of_le (H.m0 k off hm) h.size, fun m k hn hk => Nat.lt_of_lt_of_le (H.lt m k hn hk) h.size, H.fresh, H.inj, fun m o hm => ?_⟩
  have h1 := H.blk m o hm
  cases o with
  | cells b =>
    obtain ⟨k, arr, e, g1, g2, g3⟩ := h1
    refine ⟨k, arr, e, g1, ?_, g3.mono fun _ _ _ hv => VL.evo (Evo.of_fr h (fun _ _ hb => hb.elim)) BEvo.refl hv⟩
    rw [h.block k (H.lt m k (by rw [hm]; simp) g1) (fun h => h)]
    exact g2
  | gr => exact h1.elim

theorem tvsOk_nil_re {w : World} {M M' : CM} {β : Nat → Option Nat} {D : Nat → Prop} (hM : ∀ k off, ¬ M k off → ¬ M' k off) {xs : List TV} {vs : List Value} (h : All2 (VT w M β D) xs vs) (ho : tvsOk [] xs = true) :
    All2 (VT w M' β (dm (look ([] : List (Nat × HO))))) xs vs := VTs.re ⟨Nat.le_refl _, fun _ _ _ => rfl, fun k off _ => hM k off⟩ h ho

/-- a contract of a function that neither takes nor hands back pointers of the caller's state -/
theorem fnOk_of_vc {f : FuncId} {fn : Func} {c : Code} {con : Con} (hL : LOk P L) (hΓ : ConOk P Γ) (hf : P.funcs[f]? = some fn) (hb : fn.body = some c)
    (henter : ∀ (args : Array Value) (w : World), (callFunc f args).run P w = .ok (.enter f args) w)
    (hcon : ∀ args hp fr cs r up, con args hp fr = some (cs, r, up) → (∀ c ∈ cs, c) →
      ∃ φ : Fn, fn.ntmps = φ.N ∧ (∀ X : Cx, X.N = φ.N → DrawOk P L Γ Fence.wide 1 X φ.draw) ∧ up = [] ∧ args.length ≤ φ.N ∧ tvsOk [] args = true ∧ avOk [] r = true ∧ (vcFn L Γ φ fn.results.toList c args r).holds) : FnOk P f con := by
  refine ⟨henter, fun args hp fr cs r up hc hcs w M0 β vals hH hargs => ?_, fun _ _ _ _ _ _ _ => trivial⟩
  obtain ⟨φ, hN, hD, rfl, hlen, hok, hrok, hvc⟩ := hcon args hp fr cs r up hc hcs
  rw [← callsIn_wide (n := 1)]
  let X : Cx := { w0 := w, B0 := fun _ => False, M0 := Mt M0 β hp, N := φ.N, D := [], b0 := fun _ => none }
  have hlv : vals.length = args.length := hargs.length.symm
  refine callsIn_of_wp hf hb trivial ?_
  have hR0 : Rel X β { s := args0 0 args, g := [], h := [] } { tmps := vals.toArray ++ Array.replicate (fn.ntmps - vals.toArray.size) undef, defers := [] } w := by
    have hall := tvsOk_nil_re (M' := Mt X.M0 β (look ([] : List (Nat × HO)))) (fun k off h h' => h (by
      rcases h' with h' | ⟨m, h1, _⟩
      · exact h'
      · exact absurd rfl h1)) hargs hok
    refine ⟨?_, rfl, Fr.refl, fun m k hn => absurd rfl hn, fun m hm => absurd rfl hm, fun m hm => absurd rfl hm, ⟨?_, fun m k hn => absurd rfl hn, fun m k off hn => absurd rfl hn, fun m q k hn => absurd rfl hn, fun m o hm => by cases hm⟩, fun t v h => ?_, fun t g b x h => by cases h⟩
    · simp [hN, X]; omega
    · rintro k off (h | ⟨m, h1, h2⟩)
      · exact hH.m0 k off h
      · exact hH.lt m k h1 h2
    · obtain ⟨j, x, h1, h2, rfl⟩ := args0_look h
      have hj : j < args.length := (List.getElem?_eq_some_iff.1 h2).1
      obtain ⟨u, hu, hv⟩ := hall.get h2
      refine ⟨by show t < φ.N; omega, ?_⟩
      have : (vals.toArray ++ Array.replicate (fn.ntmps - vals.toArray.size) undef).getD t undef = u := by
        rw [Array.getD_eq_getD_getElem?, Array.getElem?_append_left (by simp; omega)]
        have : t = j := by omega
        subst this
        simp [hu]
      rw [this]
      exact hv
  have hpost : ∀ β' σ a w', (postOf L fn.results.toList r σ).holds → Rel X β' σ a w' →
      a.defers = [] ∧ ∃ v, (results fn a.tmps).run P w' = .ok v w' ∧ ∃ u, Ending.returned v = Ending.returned u ∧ FnPost M0 hp (upd hp []) β r w w' u := by
    intro β' σ a w' hp0 R
    unfold postOf at hp0
    split at hp0
    · rename_i xs hxs
      obtain ⟨v, hv1, hv2⟩ := results_sound hL R hxs
      have heq : resAV xs = r := eqAV_sound (VC.all_holds hp0)
      rw [heq] at hv2
      refine ⟨R.df, v, hv1, v, rfl, ⟨β, fun _ _ => rfl, ?_, ?_, ?_, ?_⟩, ?_⟩
      · have : upd hp [] = hp := by funext m; rfl
        rw [this]
        exact hH.fr R.fr
      · have : upd hp [] = hp := by funext m; rfl
        rw [this]
        have h1 := VA.re (h' := []) (M' := Mt M0 β hp) ⟨Nat.le_refl _, fun _ _ _ => rfl, fun k off _ h h' => h (.inl h')⟩ hv2 hrok
        exact VA.evo Evo.refl ⟨fun m hm => absurd rfl hm, fun m hm => absurd rfl hm⟩ h1
      · intro m k hm hk
        exact .inl hm
      · have : upd hp [] = hp := by funext m; rfl
        rw [this]
        exact Evo.of_fr R.fr (fun _ _ h => h.elim)
      · exact ⟨R.fr.os, R.fr.tape, R.fr.output, R.fr.size, fun k hk _ => R.fr.block k hk (fun h => h)⟩
    · exact hp0.elim
  have := vc_sound (F := Fence.wide) (n := 1) (X := X) (Q := bodyPost P fn fun e w' => ∃ v, e = .returned v ∧ FnPost M0 hp (upd hp []) β r w w' v) ⟨fun _ => trivial, rfl, rfl⟩ hL hΓ (φ := φ) rfl (hD X rfl)
    (post := postOf L fn.results.toList r) (fun β' σ a w' h R => ⟨hpost β' σ a w' h R, hpost β' σ a w' h R⟩) 4000 [.code c] _ β _ w hvc hR0
  exact this
end Go.Sy
