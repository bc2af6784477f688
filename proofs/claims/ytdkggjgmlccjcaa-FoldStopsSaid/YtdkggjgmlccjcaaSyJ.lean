/- A verified generator of conditions for this program, and its soundness: part J of the proof. -/
import Derived.Test.YtdkggjgmlccjcaaSyI
namespace Go.Sy
variable {P : Program} {L : Nat → Option Lay} {Γ : Nat → Option Con} {F : Fence} {n : Nat}

theorem args0_look : ∀ {l : List TV} {i t : Nat} {v : AV}, look (args0 i l) t = some v → ∃ j x, t = i + j ∧ l[j]? = some x ∧ v = .t x
  | x :: l, i, t, v, h => by
    simp only [args0] at h
    rw [look_cons] at h
    split at h
    · rename_i e
      injection h with h
      exact ⟨0, x, by omega, rfl, h.symm⟩
    · obtain ⟨j, y, h1, h2, h3⟩ := args0_look h
      exact ⟨j + 1, y, by omega, by simpa using h2, h3⟩

section
variable {X : Cx} {β : Bt} {σ : St} {a : Act} {w : World}

/-- one result -/
def resM (tmps : Array Value) : ResultVar → Sem Value
  | .tmp t => pure (tmps.getD t undef)
  | .cell a t => do loadVar t (← asAddr (tmps.getD a undef))

theorem resOf_sound (hL : LOk P L) (R : Rel X β σ a w) : ∀ {rs : List ResultVar} {xs : List TV}, resOf L σ rs = some xs →
    ∃ vs, (rs.mapM (resM a.tmps)).run P w = .ok vs w ∧ All2 (VT w (Mt β (look σ.h)) β (dm (look σ.h))) xs vs
  | [], xs, h => by injection h with h; subst h; exact ⟨[], by simp, .nil⟩
  | .tmp t :: r, xs, h => by
    simp only [resOf] at h
    split at h
    · rename_i x ys hx hys
      injection h with h; subst h
      obtain ⟨vs, h1, h2⟩ := resOf_sound hL R hys
      exact ⟨_ :: vs, by simp [resM, h1], .cons (R.sl _ _ hx).2 h2⟩
    · cases h
  | .cell p t :: r, xs, h => by
    simp only [resOf] at h
    split at h
    · rename_i q y ys hq hy hys
      split at h
      · rename_i x hx
        injection h with h; subst h
        obtain ⟨vs, h1, h2⟩ := resOf_sound hL R hys
        obtain ⟨p', v, e1, e2, e3⟩ := loadFrom_sound hL R hy (R.sl _ _ hq).2 hx
        exact ⟨v :: vs, by simp [resM, asAddr, e1, e2, h1], .cons e3 h2⟩
      · cases h
    · cases h

theorem results_sound (hL : LOk P L) (R : Rel X β σ a w) {fn : Func} {xs : List TV} (h : resOf L σ fn.results.toList = some xs) :
    ∃ v, (results fn a.tmps).run P w = .ok v w ∧ VA w (Mt β (look σ.h)) β (dm (look σ.h)) (resAV xs) v := by
  obtain ⟨vs, h1, h2⟩ := resOf_sound hL R h
  have hrun : (results fn a.tmps).run P w = .ok (if h : vs.toArray.size = 1 then vs.toArray[0] else .tuple vs.toArray) w := by
    have hres : results fn a.tmps = (fn.results.mapM (resM a.tmps) >>= fun vs => pure (if h : vs.size = 1 then vs[0] else .tuple vs)) := by
      unfold results
      congr 1
    rw [hres, Sem.run_bind, Array.mapM_eq_mapM_toList, Sem.run_map, h1]
    rfl
  refine ⟨_, hrun, ?_⟩
  cases h2 with
  | nil => exact ⟨#[], rfl, .nil⟩
  | @cons x v xs vs h3 h4 =>
    cases h4 with
    | nil => exact h3
    | @cons x' v' xs vs h5 h6 => exact ⟨(v :: v' :: vs).toArray, by simp, .cons h3 (.cons h5 h6)⟩
end

theorem Evo.of_fr {B : Nat → Prop} {M : CM} {w w' : World} (h : Fr B w w') (hB : ∀ k off, B k → M k off) : Evo M M w w' :=
  ⟨h.size, fun _ hp hm => cell_of_heap (h.block _ hp fun hb => hm (hB _ _ hb)), fun _ _ _ h => h, fun _ hk hm => h.block _ hk fun hb => hm 0 (hB _ _ hb), h.os, h.tape, h.output⟩

theorem HR.fr {β : Bt} {hp : Nat → Option HO} {w w' : World} (H : HR β hp w) (h0 : Fr (fun _ => False) w w') : HR β hp w' :=
  have h := h0
  ⟨fun k off hm => Nat.lt_of_lt_of_le (H.m0 k off hm) h.size, fun m k hn hk => Nat.lt_of_lt_of_le (H.lt m k hn hk) h.size, H.fresh, H.inj, H.ye, fun m o hm =>
    (H.blk m o hm).evo (Evo.of_fr h (fun _ _ hb => hb.elim)) BEvo.refl rfl rfl rfl rfl (fun k hk => h.block k (H.lt m k (by rw [hm]; simp) hk) (fun h => h)) fun hob => dis_of (fun k off h => Nat.lt_of_lt_of_le (H.m0 k off h) h0.size) (fun n k hn hk => Nat.lt_of_lt_of_le (H.lt n k hn hk) h0.size) H.fresh H.inj hm hob⟩

/-- a mark is taken off -/
theorem Rel.unmark {X : Cx} {β : Bt} {σ : St} {t : Array Value} {d : Deferred} {ds : List Deferred} {w : World} {k : Nat} (R : Rel X β σ { tmps := t, defers := d :: ds } w) (hd : d = { target := .collected k, args := #[] }) (hk : w.heap[k]? = some (Obj.deferred (some [])))
    (hmb : X.w0.heap.size ≤ X.mb) (hb : X.mb ≤ k) (hm : β.m k 0) (hn : d ∉ ds) : Rel X β σ { tmps := t, defers := ds } (w.putObj k (.deferred none)) := by
  have hlt : k < w.heap.size := (Array.getElem?_eq_some_iff.1 hk).1
  have hoth : ∀ j, j ≠ k → (w.putObj k (.deferred none)).heap[j]? = w.heap[j]? := fun j hj => World.putObj_heap_other hj
  have hcell : ∀ p : Addr, (w.putObj k (.deferred none)).cell? p = w.cell? p := fun p => by
    by_cases h : p.block = k
    · unfold World.cell?
      rw [h, World.putObj_heap_same hlt, hk]
    · exact cell_of_heap (hoth _ h)
  have hev : Evo (Mt β (look σ.h)) (Mt β (look σ.h)) w (w.putObj k (.deferred none)) := ⟨by simp, fun p _ _ => hcell p, fun _ _ _ h => h, fun j _ hj => hoth j fun e => hj 0 (by rw [e]; exact .inl hm), rfl, rfl, rfl⟩
  have hr : HR β (look σ.h) (w.putObj k (.deferred none)) := ⟨fun k' off h => by simpa using R.hr.m0 k' off h, fun n k' hn hk' => by simpa using R.hr.lt n k' hn hk', R.hr.fresh, R.hr.inj, R.hr.ye, fun n o ho =>
    (R.hr.blk n o ho).evo hev BEvo.refl rfl rfl rfl rfl (fun k' hk' => hoth k' fun e => R.hr.fresh n k 0 (by rw [ho]; simp) (by rw [← e]; exact hk') hm) fun hob => dis_of (fun k' off h => by simpa using R.hr.m0 k' off h) (fun n k' hn hk' => by simpa using R.hr.lt n k' hn hk') R.hr.fresh R.hr.inj ho hob⟩
  refine ⟨R.tn, ?_, ?_, R.own, R.be, R.bm, hr, R.ev.trans hev, fun t v h => ⟨(R.sl t v h).1, VA.evo hev BEvo.refl (R.sl t v h).2⟩, fun t g q x h => ⟨(R.gd t g q x h).1, (R.gd t g q x h).2.imp (fun h => ⟨h.1, VT.evo hev BEvo.refl h.2⟩) id⟩⟩
  · refine R.df.2.keep (fun _ _ h => h) fun k' _ h' hm => ?_
    rw [hoth k' fun e => hn (by rw [hd, ← e]; exact hm)]
    exact h'
  · refine ⟨R.fr.os, R.fr.tape, R.fr.output, by simpa using R.fr.size, fun j hj hB => ?_⟩
    rw [hoth j (by omega), R.fr.block j hj hB]

/-- a function is left: its marks are taken off, its results are read -/
theorem Rel.leaves {X : Cx} {β : Bt} {σ : St} {n : Nat} {F : Fence} {fn : Func} {Q : Ending → World → Prop} {a : Act} {w : World} (hmb : X.w0.heap.size ≤ X.mb) (R : Rel X β σ a w)
    (h : ∀ w', Rel X β σ { tmps := a.tmps, defers := [] } w' → ∃ v, (results fn a.tmps).run P w' = .ok v w' ∧ Q (.returned v) w') : LeavesInM F n P fn a.tmps Q a.defers .returning w := by
  obtain ⟨t, ds⟩ := a
  induction ds generalizing w with
  | nil => exact h w R
  | cons d ds ih =>
    obtain ⟨⟨k, h1, h2, h3, h4, h5⟩, h6⟩ := R.df
    refine ⟨by simp, .inl ⟨k, _, by rw [h1], run_takeDeferred h2, ih (R.unmark h1 h2 hmb h3 h4 h5) h⟩⟩

/-- a contract of a function that neither takes nor hands back pointers of the caller's state -/
theorem fnOk_of_vc {f : FuncId} {fn : Func} {c : Code} {con : Con} (hL : LOk P L) (hΓ : ConOk P Γ) (hf : P.funcs[f]? = some fn) (hb : fn.body = some c)
    (henter : ∀ (args : Array Value) (w : World), (callFunc f args).run P w = .ok (.enter f args) w)
    (hcon : ∀ args hp fr cs r up, con args hp fr = some (cs, r, up) → (∀ c ∈ cs, c) →
      ∃ φ : Fn, fn.ntmps = φ.N ∧ (∀ (F : Fence) (n : Nat) (X : Cx), Wide F → X.N = φ.N → X.b0.pr = P → DrawOk P L Γ F n X φ.draw) ∧ up = [] ∧ args.length ≤ φ.N ∧ tvsOk [] args = true ∧ avOk [] r = true ∧ (vcFn L Γ φ fn.results.toList c args r).holds) : FnOk P f con := by
  refine ⟨henter, fun args hp fr cs r up hc hcs w β vals hpr hH hargs => ?_⟩
  obtain ⟨φ, hN, hD, rfl, hlen, hok, hrok, hvc⟩ := hcon args hp fr cs r up hc hcs
  rw [← callsIn_wide (n := 1)]
  let βc : Bt := ⟨fun _ => none, fun _ => none, Mt β hp, fun _ _ _ => False, fun _ _ _ _ _ => True, P⟩
  let X : Cx := { w0 := w, B0 := fun _ => False, N := φ.N, b0 := βc, D0 := fun _ => False, M := Mt β hp, mb := w.heap.size }
  have hlv : vals.length = args.length := hargs.length.symm
  refine callsIn_of_wp_marks hf hb trivial ?_
  have hMc : ∀ k off, Mt βc (look ([] : List (Nat × HO))) k off → Mt β hp k off := fun k off h => by
    rcases h with h | ⟨m, o, h1, _⟩
    · exact h
    · cases h1
  have hR0 : Rel X βc { s := args0 0 args, g := [], h := [] } { tmps := vals.toArray ++ Array.replicate (fn.ntmps - vals.toArray.size) undef, defers := [] } w := by
    have hall : All2 (VT w (Mt βc (look ([] : List (Nat × HO)))) βc (dm (look ([] : List (Nat × HO))))) args vals := VTs.any (Evo.less hMc) hargs hok
    refine ⟨?_, trivial, Fr.refl, fun m k hn => absurd rfl hn, ⟨fun m hm => hm.elim, fun m hm => hm.elim, fun m u hm => hm.elim, rfl⟩, fun _ _ h => h, ⟨?_, fun m k hn => absurd rfl hn, fun m k off hn => absurd rfl hn, fun m q k hn => absurd rfl hn, (fun m o hm => by cases hm), fun m o hm => by cases hm⟩, Evo.less hMc, fun t v h => ?_, fun t g b x h => by cases h⟩
    · simp [hN, X]; omega
    · rintro k off (h | ⟨m, o, h1, h2⟩)
      · exact hH.m0 k off h
      · exact hH.lt m k (by rw [h1]; simp) (h2.elim (fun h => .inl h.1) fun h => .inr ⟨off, h⟩)
    · obtain ⟨j, x, h1, h2, rfl⟩ := args0_look h
      have hj : j < args.length := (List.getElem?_eq_some_iff.1 h2).1
      obtain ⟨u, hu, hv⟩ := hall.get h2
      refine ⟨by show t < φ.N; omega, ?_⟩
      have : (vals.toArray ++ Array.replicate (fn.ntmps - vals.toArray.size) undef).getD t undef = u := by
        rw [Array.getD_eq_getD_getElem?, Array.getElem?_append_left (by simp; omega)]
        have : t = j := by omega
        subst this
        simp [hu]
      rw [this]
      exact hv
  have hpost : ∀ β' σ a w', (postOf L fn.results.toList r σ).holds → Rel X β' σ a w' →
      LeavesInM Fence.wide 1 P fn a.tmps (fun e w' => ∃ v, e = .returned v ∧ FnPost hp (upd hp []) β r w w' v) a.defers .returning w' := by
    intro β' σ a w' hp0 R
    unfold postOf at hp0
    split at hp0
    · rename_i xs hxs
      refine Rel.leaves (Nat.le_refl _) R fun w'' R' => ?_
      obtain ⟨v, hv1, hv2⟩ := results_sound hL R' hxs
      rcases hfz : frzA σ.h (resAV xs) with ⟨ps, y, es⟩
      rw [hfz] at hp0
      simp only at hp0
      have hp0 := VC.all_holds hp0
      obtain ⟨β', R', _, _, hy⟩ := frzA_sound R' hfz fun p hp => hp0 p (List.mem_append_left _ hp)
      have hv2 := hy v hv2
      have heq : coA r y = r := eqAV_sound fun p hp => hp0 p (List.mem_append_right _ hp)
      have hv2 := coA_sound (c := r) hv2
      rw [heq] at hv2
      have hup : upd hp [] = hp := by funext m; rfl
      have hm : ∀ k off, Mt β hp k off → β'.m k off := R'.bm
      refine ⟨v, hv1, v, rfl, ⟨β, ?_, fun _ _ h => h, ?_, ?_, ?_, ?_⟩, ?_⟩
      · rw [hup]; exact BEvo.refl
      · rw [hup]; exact hH.fr R'.fr
      · rw [hup]
        exact VA.any (Evo.less fun k off h => .inl (hm k off h)) hv2 hrok
      · intro m k hm hk
        exact .inl ⟨m, hm, hk⟩
      · rw [hup]
        exact Evo.of_fr R'.fr (fun _ _ h => h.elim)
      · exact ⟨R'.fr.os, R'.fr.tape, R'.fr.output, R'.fr.size, fun k hk _ => R'.fr.block k hk (fun h => h)⟩
    · exact hp0.elim
  have := vc_sound (F := Fence.wide) (n := 1) (X := X) (Q := bodyPostM Fence.wide 1 P fn fun e w' => ∃ v, e = .returned v ∧ FnPost hp (upd hp []) β r w w' v) ⟨fun _ => trivial, rfl, rfl⟩ rfl hL hΓ (φ := φ) rfl (fun _ => ⟨rfl, Nat.le_refl _⟩) hD
    (post := fun e σ => match e with | .ex _ => .ff | _ => postOf L fn.results.toList r σ) (fun e β' σ a w' h R => by cases e <;> first | exact hpost β' σ a w' h R | exact h.elim) 4000 [.code c] _ βc _ w hvc hR0
  exact this
end Go.Sy
