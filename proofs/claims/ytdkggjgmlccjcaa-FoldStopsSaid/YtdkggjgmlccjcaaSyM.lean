/- A verified generator of conditions for this program, and its soundness: part M of the proof. -/
import Derived.Test.YtdkggjgmlccjcaaSyL
namespace Go.Sy
variable {P : Program} {L : Nat → Option Lay} {Γ : Nat → Option Con} {F : Fence} {n : Nat}

/-! names in a callee's state and in its caller's -/
def rnP (ρ : Nat → Nat) (q : Nat × Nat) : Nat × Nat := (ρ q.1, q.2)
def rnL (ρ : Nat → Nat) : LV → LV
  | .d x => .d x
  | .ptr n o => .ptr (ρ n) o
  | .dptr k c => .dptr k c
  | .clo f a b => .clo f (a.map (rnP ρ)) (b.map (rnP ρ))
  | .own n x => .own (ρ n) x
  | .mp n => .mp (ρ n)
  | .yl n => .yl (ρ n)
  | .vr n k => .vr (ρ n) k
  | .vp n k sz i off wd => .vp (ρ n) k sz i off wd
def rnT (ρ : Nat → Nat) : TV → TV
  | .one x => .one (rnL ρ x)
  | .agg xs => .agg (xs.map (rnL ρ))
def rnA (ρ : Nat → Nat) : AV → AV
  | .t x => .t (rnT ρ x)
  | .tup xs => .tup (xs.map (rnT ρ))
def rnH (ρ : Nat → Nat) : HO → HO
  | .cells b => .cells (b.map (rnL ρ))
  | .gr e a b => .gr e a b
  | .mp κ ν l => .mp κ ν l
  | .ob sg h g => .ob sg h g
  | .vec τ e l => .vec τ e l
def rn (bs : List (Nat × Nat)) (n : Nat) : Nat := (look bs n).getD n

section
variable {w : World} {M M' : CM} {β β' : Bt} {D D' : Nat → Prop} {ρ : Nat → Nat}

/-- inwards: from the caller's names to the callee's -/
structure In (M M' : CM) (β β' : Bt) (D' : Nat → Prop) (ρ : Nat → Nat) (w : World) : Prop where
  m : ∀ k off, k < w.heap.size → ¬ M k off → ¬ M' k off
  b : ∀ n, D' n → β' n = β (ρ n) ∧ β'.o n = β.o (ρ n) ∧ β'.ym n = β.ym (ρ n) ∧ β'.yj n = β.yj (ρ n)
  pr : β'.pr = β.pr

theorem In.evo (i : In M M' β β' D' ρ w) : Evo M M' w w := ⟨Nat.le_refl _, fun _ _ _ => rfl, fun k off hk h => i.m k off hk h, fun _ _ _ => rfl, rfl, rfl, rfl⟩
theorem PV.in_ (i : In M M' β β' D' ρ w) {q : Nat × Nat} {v : Value} (h : PV β D (rnP ρ q) v) (hd : D' q.1) : PV β' D' q v := by
  obtain ⟨k, _, h0, h2, h3⟩ := h
  exact ⟨k, hd, (i.b _ hd).2.1.trans h0, (i.b _ hd).1.trans h2, h3⟩
theorem PVs.in_ (i : In M M' β β' D' ρ w) : ∀ {ps : List (Nat × Nat)} {vs : List Value}, All2 (PV β D) (ps.map (rnP ρ)) vs → (∀ q ∈ ps, D' q.1) → All2 (PV β' D') ps vs
  | [], vs, h, _ => by cases h; exact .nil
  | q :: ps, vs, h, hd => by
    cases h with
    | cons h1 h2 => exact .cons (h1.in_ i (hd q (List.mem_cons_self ..))) (PVs.in_ i h2 fun q hq => hd q (List.mem_cons_of_mem _ hq))

theorem ptrsOk_mem {h : List (Nat × HO)} : ∀ {ps : List (Nat × Nat)}, ptrsOk h ps = true → ∀ q ∈ ps, dm (look h) q.1
  | q :: ps, hp, r, hr => by
    simp only [ptrsOk, Bool.and_eq_true] at hp
    rcases List.mem_cons.1 hr with e | hr
    · rw [e]; exact ptrOk_iff.1 hp.1
    · exact ptrsOk_mem hp.2 r hr

theorem VL.in_ {h : List (Nat × HO)} (i : In M M' β β' (dm (look h)) ρ w) {x : LV} {v : Value} (hv : VL w M β D (rnL ρ x) v) (hd : lvOk h x = true) : VL w M' β' (dm (look h)) x v := by
  cases x with
  | d x => cases hv with | d hv => exact .d (hv.evo i.evo)
  | ptr n o => cases hv with | ptr hv => exact .ptr (PV.in_ (q := (n, o)) i hv (ptrOk_iff.1 hd))
  | dptr k c => cases hv with | dptr vs hb hM hc hv => exact .dptr vs hb (fun j hj => i.m _ _ hb (hM j hj)) hc (fun j hj => (hv j hj).evo i.evo)
  | clo f a b =>
    simp only [lvOk, Bool.and_eq_true] at hd
    cases hv with
    | clo h1 h2 => exact .clo (PVs.in_ i h1 (ptrsOk_mem hd.1)) (PVs.in_ i h2 (ptrsOk_mem hd.2))
  | own n x =>
    cases hv with
    | own h ho =>
      have hn := ptrOk_iff.1 hd
      obtain ⟨_, u, h1, h2⟩ := ho
      exact .own (h.evo i.evo) ⟨hn, u, (i.b _ hn).2.1.trans h1, h2⟩
  | mp n =>
    cases hv with
    | mp h1 h2 h3 =>
      have hn := ptrOk_iff.1 hd
      exact .mp hn ((i.b _ hn).2.1.trans h2) ((i.b _ hn).1.trans h3)
  | yl n =>
    cases hv with
    | yl h1 h2 h3 =>
      have hn := ptrOk_iff.1 hd
      exact .yl hn ((i.b _ hn).2.1.trans h2) ((i.b _ hn).1.trans h3)
  | vr n k =>
    cases hv with
    | vr hs hk ho =>
      have hn := ptrOk_iff.1 hd
      exact .vr hs hk (ho.to hn (i.b _ hn).2.1)
  | vp n k sz j off wd =>
    cases hv with
    | vp ho =>
      have hn := ptrOk_iff.1 hd
      exact .vp (ho.to hn (i.b _ hn).2.1)
theorem VLs.in_ {h : List (Nat × HO)} (i : In M M' β β' (dm (look h)) ρ w) : ∀ {xs : List LV} {vs : List Value}, All2 (VL w M β D) (xs.map (rnL ρ)) vs → lvsOk h xs = true → All2 (VL w M' β' (dm (look h))) xs vs
  | [], vs, h, _ => by cases h; exact .nil
  | x :: xs, vs, h, hd => by
    simp only [lvsOk, Bool.and_eq_true] at hd
    cases h with
    | cons h1 h2 => exact .cons (h1.in_ i hd.1) (VLs.in_ i h2 hd.2)
theorem VT.in_ {h : List (Nat × HO)} (i : In M M' β β' (dm (look h)) ρ w) {x : TV} {v : Value} (hv : VT w M β D (rnT ρ x) v) (hd : tvOk h x = true) : VT w M' β' (dm (look h)) x v := by
  cases x with
  | one x => exact VL.in_ i hv hd
  | agg xs => obtain ⟨arr, rfl, hv⟩ := hv; exact ⟨arr, rfl, VLs.in_ i hv hd⟩
theorem VTs.in_ {h : List (Nat × HO)} (i : In M M' β β' (dm (look h)) ρ w) : ∀ {xs : List TV} {vs : List Value}, All2 (VT w M β D) (xs.map (rnT ρ)) vs → tvsOk h xs = true → All2 (VT w M' β' (dm (look h))) xs vs
  | [], vs, h, _ => by cases h; exact .nil
  | x :: xs, vs, h, hd => by
    simp only [tvsOk, Bool.and_eq_true] at hd
    cases h with
    | cons h1 h2 => exact .cons (VT.in_ i h1 hd.1) (VTs.in_ i h2 hd.2)

/-- outwards -/
structure Out (M M' : CM) (β β' : Bt) (D D' : Nat → Prop) (ρ : Nat → Nat) (w : World) : Prop where
  m : ∀ k off, k < w.heap.size → ¬ M k off → ¬ M' k off
  b : ∀ n, D n → β' (ρ n) = β n ∧ β'.o (ρ n) = β.o n ∧ β'.ym (ρ n) = β.ym n ∧ β'.yj (ρ n) = β.yj n
  pr : β'.pr = β.pr
  d : ∀ n, D n → D' (ρ n)
theorem Out.evo (i : Out M M' β β' D D' ρ w) : Evo M M' w w := ⟨Nat.le_refl _, fun _ _ _ => rfl, fun k off hk h => i.m k off hk h, fun _ _ _ => rfl, rfl, rfl, rfl⟩
theorem PV.out (i : Out M M' β β' D D' ρ w) {q : Nat × Nat} {v : Value} (h : PV β D q v) : PV β' D' (rnP ρ q) v := by
  obtain ⟨k, h1, h0, h2, h3⟩ := h
  exact ⟨k, i.d _ h1, (i.b _ h1).2.1.trans h0, (i.b _ h1).1.trans h2, h3⟩
theorem PVs.out (i : Out M M' β β' D D' ρ w) {ps : List (Nat × Nat)} {vs : List Value} (h : All2 (PV β D) ps vs) : All2 (PV β' D') (ps.map (rnP ρ)) vs := by
  induction h with
  | nil => exact .nil
  | cons h1 _ ih => exact .cons (h1.out i) ih
theorem VL.out (i : Out M M' β β' D D' ρ w) {x : LV} {v : Value} (hv : VL w M β D x v) : VL w M' β' D' (rnL ρ x) v := by
  cases hv with
  | d hv => exact .d (hv.evo i.evo)
  | ptr hv => exact .ptr (hv.out i)
  | dptr vs hb hM hc hv => exact .dptr vs hb (fun j hj => i.m _ _ hb (hM j hj)) hc (fun j hj => (hv j hj).evo i.evo)
  | clo h1 h2 => exact .clo (PVs.out i h1) (PVs.out i h2)
  | own h ho =>
    obtain ⟨hn, u, h1, h2⟩ := ho
    exact .own (h.evo i.evo) ⟨i.d _ hn, u, (i.b _ hn).2.1.trans h1, h2⟩
  | mp h1 h2 h3 => exact .mp (i.d _ h1) ((i.b _ h1).2.1.trans h2) ((i.b _ h1).1.trans h3)
  | yl h1 h2 h3 => exact .yl (i.d _ h1) ((i.b _ h1).2.1.trans h2) ((i.b _ h1).1.trans h3)
  | vr hs hk ho => exact .vr hs hk (ho.to (i.d _ ho.1) (i.b _ ho.1).2.1)
  | vp h => exact .vp (h.to (i.d _ h.1) (i.b _ h.1).2.1)
theorem VLs.out (i : Out M M' β β' D D' ρ w) {xs : List LV} {vs : List Value} (h : All2 (VL w M β D) xs vs) : All2 (VL w M' β' D') (xs.map (rnL ρ)) vs := by
  induction h with
  | nil => exact .nil
  | cons h1 _ ih => exact .cons (h1.out i) ih
theorem VT.out (i : Out M M' β β' D D' ρ w) {x : TV} {v : Value} (hv : VT w M β D x v) : VT w M' β' D' (rnT ρ x) v := by
  cases x with
  | one x => exact VL.out i hv
  | agg xs => obtain ⟨arr, rfl, hv⟩ := hv; exact ⟨arr, rfl, VLs.out i hv⟩
theorem VTs.out (i : Out M M' β β' D D' ρ w) {xs : List TV} {vs : List Value} (h : All2 (VT w M β D) xs vs) : All2 (VT w M' β' D') (xs.map (rnT ρ)) vs := by
  induction h with
  | nil => exact .nil
  | cons h1 _ ih => exact .cons (VT.out i h1) ih
theorem VA.out (i : Out M M' β β' D D' ρ w) {x : AV} {v : Value} (hv : VA w M β D x v) : VA w M' β' D' (rnA ρ x) v := by
  cases x with
  | t x => exact VT.out i hv
  | tup xs => obtain ⟨arr, rfl, hv⟩ := hv; exact ⟨arr, rfl, VTs.out i hv⟩
end

theorem HOR.in_ {w : World} {M M' : CM} {β β' : Bt} {D : Nat → Prop} {ρ : Nat → Nat} {h : List (Nat × HO)} (i : In M M' β β' (dm (look h)) ρ w) {n : Nat} {o : HO} (hv : HOR w M β D (ρ n) (rnH ρ o)) (hn : dm (look h) n) (ok : ∀ b, o = .cells b → lvsOk h b = true)
    (hdis : o.isOb = true → ∀ q off, M' q off → q < w.heap.size ∧ ∀ off', ¬ β'.ym n q off → ¬ β'.ym n q off') : HOR w M' β' (dm (look h)) n o := by
  obtain ⟨b1, b2, b3, b4⟩ := i.b n hn
  cases o with
  | cells c =>
    obtain ⟨k, arr, t, h0, h1, h2, h3⟩ := hv
    exact ⟨k, arr, t, b2.trans h0, b1.trans h1, h2, VLs.in_ i h3 (ok c rfl)⟩
  | gr t sz len =>
    rcases hv with ⟨h0, h1, h2⟩ | ⟨k, cap, arr, h0, h1, h2⟩
    · exact .inl ⟨b2.trans h0, b1.trans h1, h2⟩
    · exact .inr ⟨k, cap, arr, b2.trans h0, b1.trans h1, h2⟩
  | mp κ ν l =>
    obtain ⟨k, es, clock, h0, h1, h2, h3⟩ := hv
    exact ⟨k, es, clock, b2.trans h0, b1.trans h1, h2, h3.mono fun _ _ _ h => ⟨h.1.evo i.evo, h.2.evo i.evo⟩⟩
  | vec τ t l =>
    rcases hv with ⟨h0, h1, h2⟩ | ⟨k, cap, arr, h0, h1, h2, h3, h4, h5, h6⟩
    · exact .inl ⟨b2.trans h0, b1.trans h1, h2⟩
    · exact .inr ⟨k, cap, arr, b2.trans h0, b1.trans h1, h2, h3, h4, h5, fun a j u hi hj hu => (h6 a j u hi hj hu).evo i.evo⟩
  | ob sg hist go =>
    obtain ⟨h0, k, h1, h2, h3⟩ := hv
    rw [b3] at hdis
    refine ⟨b2.trans h0, k, b1.trans h1, by rw [i.pr, b4]; exact h2, ?_⟩
    rw [b3, b4]
    refine h2.stay _ _ _ _ _ _ h3 ⟨Nat.le_refl _, fun _ _ _ => rfl, fun _ _ _ => rfl, rfl, rfl, rfl⟩ (fun q off hq => ?_) (fun q off off' hq => (hdis rfl q off hq.1).2 off' hq.2)
    by_cases hlt : q < w.heap.size
    · refine .inl ⟨?_, hq.2⟩
      by_cases hM : M q off
      · exact hM
      · exact absurd hq.1 (i.m q off hlt hM)
    · exact .inr ⟨Nat.le_of_not_lt hlt, (hdis rfl q off hq.1).1⟩
theorem HOR.out {w : World} {M M' : CM} {β β' : Bt} {D D' : Nat → Prop} {ρ : Nat → Nat} (i : Out M M' β β' D D' ρ w) {n : Nat} {o : HO} (hv : HOR w M β D n o) (hn : D n)
    (hdis : o.isOb = true → ∀ q off, M' q off → q < w.heap.size ∧ ∀ off', ¬ β'.ym (ρ n) q off → ¬ β'.ym (ρ n) q off') : HOR w M' β' D' (ρ n) (rnH ρ o) := by
  obtain ⟨b1, b2, b3, b4⟩ := i.b n hn
  cases o with
  | cells c =>
    obtain ⟨k, arr, t, h0, h1, h2, h3⟩ := hv
    exact ⟨k, arr, t, b2.trans h0, b1.trans h1, h2, VLs.out i h3⟩
  | gr t sz len =>
    rcases hv with ⟨h0, h1, h2⟩ | ⟨k, cap, arr, h0, h1, h2⟩
    · exact .inl ⟨b2.trans h0, b1.trans h1, h2⟩
    · exact .inr ⟨k, cap, arr, b2.trans h0, b1.trans h1, h2⟩
  | mp κ ν l =>
    obtain ⟨k, es, clock, h0, h1, h2, h3⟩ := hv
    exact ⟨k, es, clock, b2.trans h0, b1.trans h1, h2, h3.mono fun _ _ _ h => ⟨h.1.evo i.evo, h.2.evo i.evo⟩⟩
  | vec τ t l =>
    rcases hv with ⟨h0, h1, h2⟩ | ⟨k, cap, arr, h0, h1, h2, h3, h4, h5, h6⟩
    · exact .inl ⟨b2.trans h0, b1.trans h1, h2⟩
    · exact .inr ⟨k, cap, arr, b2.trans h0, b1.trans h1, h2, h3, h4, h5, fun a j u hi hj hu => (h6 a j u hi hj hu).evo i.evo⟩
  | ob sg hist go =>
    obtain ⟨h0, k, h1, h2, h3⟩ := hv
    rw [b3] at hdis
    refine ⟨b2.trans h0, k, b1.trans h1, by rw [i.pr, b4]; exact h2, ?_⟩
    rw [b3, b4]
    refine h2.stay _ _ _ _ _ _ h3 ⟨Nat.le_refl _, fun _ _ _ => rfl, fun _ _ _ => rfl, rfl, rfl, rfl⟩ (fun q off hq => ?_) (fun q off off' hq => (hdis rfl q off hq.1).2 off' hq.2)
    by_cases hlt : q < w.heap.size
    · refine .inl ⟨?_, hq.2⟩
      by_cases hM : M q off
      · exact hM
      · exact absurd hq.1 (i.m q off hlt hM)
    · exact .inr ⟨Nat.le_of_not_lt hlt, (hdis rfl q off hq.1).1⟩
theorem mut_rn {ρ : Nat → Nat} {o : HO} {off : Nat} : (rnH ρ o).mut off ↔ o.mut off := by cases o <;> exact Iff.rfl
/-- the names that a callee shares with its caller: bs: those that it was handed; fs: those that it hands back -/
structure Shared (hp : Nat → Option HO) (bs fs : List (Nat × Nat)) (ch : List (Nat × HO)) : Prop where
  inj : ∀ c c' a, look (bs ++ fs) c = some a → look (bs ++ fs) c' = some a → c = c'
  bo : ∀ c a, look bs c = some a → ∃ o, look ch c = some o ∧ hp a = some (rnH (rn (bs ++ fs)) o)
  ch : ∀ c o, look ch c = some o → ∃ a, look bs c = some a
  fr : ∀ c a, look bs c = none → look fs c = some a → hp a = none

/-- what the callee's state must hold in the end -/
def postH (L : Nat → Option Lay) (rs : List ResultVar) (r : AV) (uc : List (Nat × HO)) (σ : St) : VC := match resOf L σ rs with
  | some xs => match vrA r with
    | [] => match frzA σ.h (resAV xs) with
      | (ps, (y, es)) => VC.all (ps ++ (eqAV (coA r y) r ++ entH (upds es σ.h) uc))
    | _ :: _ => VC.all (eqAV (coA r (resAV xs)) r ++ entH σ.h uc)
  | none => .ff
def vcH (L : Nat → Option Lay) (Γ : Nat → Option Con) (φ : Fn) (rs : List ResultVar) (c : Code) (args : List TV) (ch : List (Nat × HO)) (r : AV) (uc : List (Nat × HO)) : VC :=
  vc L Γ φ (fun e σ => match e with | .ex _ => .ff | _ => postH L rs r uc σ) 4000 [.code c] { s := args0 0 args, g := [], h := ch }

structure Meets (L : Nat → Option Lay) (Γ : Nat → Option Con) (φ : Fn) (fn : Func) (args : List TV) (hp : Nat → Option HO) (r : AV) (up : List (Nat × HO)) (bs fs : List (Nat × Nat)) (cargs : List TV) (ch : List (Nat × HO)) (rc : AV) (uc : List (Nat × HO)) : Prop where
  sh : Shared hp bs fs ch
  len : args.length ≤ φ.N
  eqa : args = cargs.map (rnT (rn (bs ++ fs)))
  ok1 : tvsOk ch cargs = true
  ok2 : heapOk ch ch = true
  res : r = rnA (rn (bs ++ fs)) rc
  eqh : ∀ a, upd hp up a = match look (uc.map fun q => (rn (bs ++ fs) q.1, rnH (rn (bs ++ fs)) q.2)) a with | some o => some o | none => hp a
  uc1 : ∀ c a, look (bs ++ fs) c = some a → look uc c ≠ none
  uc2 : ∀ c, look uc c ≠ none → look (bs ++ fs) c ≠ none
  ok3 : avOk uc rc = true
  ok4 : heapOk uc uc = true
  vc : (vcH L Γ φ fn.results.toList (fn.body.getD .skip) cargs ch rc uc).holds
end Go.Sy
