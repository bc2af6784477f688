/- A verified generator of conditions for this program, and its soundness: part D of the proof. -/
import Derived.Test.YtdkggjgmlccjcaaSyC
import Derived.Laws.AppendOwn
namespace Go.Sy
variable {P : Program}

/-! operations, one by one -/
section
variable {X : Cx} {β : Bt} {σ : St} {a : Act} {w : World}

theorem cell_of_heap {w w' : World} {p : Addr} (h : w'.heap[p.block]? = w.heap[p.block]?) : w'.cell? p = w.cell? p := by
  unfold World.cell?
  rw [h]

/-- the same state in a world in which what may not be written is as it was -/
theorem Rel.evo {β' : Bt} {h' : List (Nat × HO)} {w' : World} (R : Rel X β σ a w)
    (e : Evo (Mt β (look σ.h)) (Mt β' (look h')) w w') (b : BEvo β β' (dm (look σ.h)) (dm (look h'))) (bm : ∀ k off, β.m k off → β'.m k off)
    (mk : ∀ k : Nat, β.m k 0 → w.heap[k]? = some (Obj.deferred (some [])) → w'.heap[k]? = some (Obj.deferred (some [])))
    (fr : Fr X.B0 X.w0 w') (own : ∀ n k, look h' n ≠ none → bk β' n k → X.B0 k ∨ X.w0.heap.size ≤ k) (hr : HR β' (look h') w') :
    Rel X β' { σ with h := h' } a w' where
  tn := R.tn
  df := R.df.keep bm fun k hk h _ => mk k hk h
  fr := fr
  own := own
  be := R.be.trans b
  bm := fun k off h => bm k off (R.bm k off h)
  hr := hr
  ev := R.ev.trans e
  sl := fun t v h => ⟨(R.sl t v h).1, VA.evo e b (R.sl t v h).2⟩
  gd := fun t g q x h => ⟨(R.gd t g q x h).1, (R.gd t g q x h).2.imp (fun h => ⟨h.1, VT.evo e b h.2⟩) id⟩

/-- a loop's cells are apart from all others -/
theorem dis_of {β : Bt} {hp : Nat → Option HO} {N : Nat} (m0 : ∀ k off, β.m k off → k < N) (lt : ∀ n k, hp n ≠ none → bk β n k → k < N) (fresh : ∀ n k off, hp n ≠ none → bk β n k → ¬ β.m k off) (inj : ∀ n m k, hp n ≠ none → hp m ≠ none → bk β n k → bk β m k → n = m) {n : Nat} {o : HO} (hn : hp n = some o) (hob : o.isOb = true) :
    ∀ q off, Mt β hp q off → q < N ∧ ∀ off', ¬ β.ym n q off → ¬ β.ym n q off' := by
  intro q off hM
  refine ⟨?_, fun off' h h' => ?_⟩
  · rcases hM with hM | ⟨n', o', h1, h2⟩
    · exact m0 q off hM
    · exact lt n' q (by rw [h1]; simp) (h2.elim (fun h => .inl h.1) fun h => .inr ⟨off, h⟩)
  have hnn : hp n ≠ none := by rw [hn]; simp
  rcases hM with hM | ⟨n', o', h1, h2⟩
  · exact fresh n q off hnn (.inr ⟨off', h'⟩) hM
  · have hb : bk β n' q := h2.elim (fun h => .inl h.1) fun h => .inr ⟨off, h⟩
    obtain rfl := inj n n' q hnn (by rw [h1]; simp) (.inr ⟨off', h'⟩) hb
    rw [hn] at h1; injection h1 with h1; subst h1
    rcases h2 with ⟨_, h2⟩ | h2
    · cases o <;> first | (cases hob; done) | exact h2
    · exact h h2

theorem HOR.evo {M M' : CM} {w w' : World} {β β' : Bt} {D D' : Nat → Prop} {n : Nat} {o : HO} (h : HOR w M β D n o) (e : Evo M M' w w') (b : BEvo β β' D D') (hb : β' n = β n) (ho : β'.o n = β.o n)
    (hym : β'.ym n = β.ym n) (hyj : β'.yj n = β.yj n) (hk : ∀ k, bk β n k → w'.heap[k]? = w.heap[k]?) (hdis : o.isOb = true → ∀ q off, M' q off → q < w'.heap.size ∧ ∀ off', ¬ β'.ym n q off → ¬ β'.ym n q off') : HOR w' M' β' D' n o := by
  cases o with
  | cells c =>
    obtain ⟨k, arr, t, h0, h1, h2, h3⟩ := h
    exact ⟨k, arr, t, ho.trans h0, hb.trans h1, (hk k (.inl h1)).trans h2, h3.mono fun _ _ _ h => VL.evo e b h⟩
  | gr t sz len =>
    rcases h with ⟨h0, h1, h2⟩ | ⟨k, cap, arr, h0, h1, h2, h3⟩
    · exact .inl ⟨ho.trans h0, hb.trans h1, h2⟩
    · exact .inr ⟨k, cap, arr, ho.trans h0, hb.trans h1, (hk k (.inl h1)).trans h2, h3⟩
  | mp κ ν l =>
    obtain ⟨k, es, clock, h0, h1, h2, h3⟩ := h
    exact ⟨k, es, clock, ho.trans h0, hb.trans h1, (hk k (.inl h1)).trans h2, h3.mono fun _ _ _ h => ⟨h.1.evo e, h.2.evo e⟩⟩
  | vec τ t l =>
    rcases h with ⟨h0, h1, h2⟩ | ⟨k, cap, arr, h0, h1, h2, h3, h4, h5, h6⟩
    · exact .inl ⟨ho.trans h0, hb.trans h1, h2⟩
    · exact .inr ⟨k, cap, arr, ho.trans h0, hb.trans h1, (hk k (.inl h1)).trans h2, h3, h4, h5, fun i j u hi hj hu => (h6 i j u hi hj hu).evo e⟩
  | ob sg hist go =>
    obtain ⟨h0, k, h1, h2, h3⟩ := h
    refine ⟨ho.trans h0, k, hb.trans h1, by rw [b.pr, hyj]; exact h2, ?_⟩
    rw [hym] at hdis ⊢
    rw [hyj]
    refine h2.stay hist _ _ _ w w' h3 ⟨e.size, fun p hp hn => ?_, fun k hk' hn => ?_, e.sys⟩ (fun q off hq => ?_) (fun q off off' hq => (hdis rfl q off hq.1).2 off' hq.2)
    · by_cases hY : β.ym n p.block p.off
      · exact cell_of_heap (hk _ (.inr ⟨_, hY⟩))
      · exact e.cell p hp fun hM => hn ⟨hM, hY⟩
    · by_cases hY : ∃ off, β.ym n k off
      · exact hk k (.inr hY)
      · exact e.blk k hk' fun off hM => hn off ⟨hM, fun h => hY ⟨off, h⟩⟩
    · by_cases hlt : q < w.heap.size
      · refine .inl ⟨?_, hq.2⟩
        by_cases hM : M q off
        · exact hM
        · exact absurd hq.1 (e.mt q off hlt hM)
      · exact .inr ⟨Nat.le_of_not_lt hlt, (hdis rfl q off hq.1).1⟩

/-- what of an entry's own block may be written -/
theorem HR.only {β : Bt} {hp : Nat → Option HO} {w : World} (H : HR β hp w) {n k off : Nat} {o : HO} (hn : hp n = some o) (hob : o.isOb = false) (hk : β n = some k) (hM : Mt β hp k off) : o.mut off := by
  rcases hM with hM | ⟨m, om, h1, h2⟩
  · exact absurd hM (H.fresh n k off (by rw [hn]; simp) (.inl hk))
  · obtain rfl := H.inj n m k (by rw [hn]; simp) (by rw [h1]; simp) (.inl hk) (h2.elim (fun h => .inl h.1) fun h => .inr ⟨off, h⟩)
    rw [hn] at h1; injection h1 with h1; subst h1
    rcases h2 with ⟨_, h2⟩ | h2
    · exact h2
    · exact absurd h2 (H.ye n o hn hob k off)

theorem mut_ex {o : HO} (h : o.isOb = false) : ∃ off, o.mut off := by
  cases o with
  | cells => exact ⟨0, trivial⟩
  | gr e sz len => exact ⟨len * sz, Nat.le_refl _⟩
  | mp => exact ⟨0, trivial⟩
  | vec => exact ⟨0, trivial⟩
  | ob => cases h

/-- one entry is new, or is another one -/
theorem Rel.set (R : Rel X β σ a w) (n : Nat) (o : HO) (hob0 : ∀ o0, look σ.h n = some o0 → o0.isOb = false) (kb : Option Nat) (ov : Option Value) {w' : World}
    (hos : w'.os = w.os) (htape : w'.tape = w.tape) (hout : w'.output = w.output) (hsize : w.heap.size ≤ w'.heap.size)
    (hother : ∀ k, k < w.heap.size → (∀ o0, look σ.h n = some o0 → β n ≠ some k) → w'.heap[k]? = w.heap[k]?)
    (hcell : ∀ o0 (p : Addr), look σ.h n = some o0 → β n = some p.block → ¬ o0.mut p.off → w'.cell? p = w.cell? p)
    (hkb : ∀ k, kb = some k → k < w'.heap.size ∧ ((∃ o0, look σ.h n = some o0 ∧ β n = some k ∧ ∀ off, o.mut off → o0.mut off) ∨ w.heap.size ≤ k))
    (hbe : ∀ o0, look σ.h n = some o0 → (β.o n = none → ov = none ∧ kb = β n) ∧ ∀ u, β.o n = some u → ∃ u', ov = some u' ∧ (u' = u ∨ hlen u < hlen u'))
    (hHOR : ∀ β' : Bt, β' n = kb → β'.o n = ov → Evo (Mt β (look σ.h)) (Mt β' (look ((n, o) :: σ.h))) w w' → BEvo β β' (dm (look σ.h)) (dm (look ((n, o) :: σ.h))) →
      HOR w' (Mt β' (look ((n, o) :: σ.h))) β' (dm (look ((n, o) :: σ.h))) n o) :
    ∃ β' : Bt, Rel X β' { σ with h := (n, o) :: σ.h } a w' ∧ β' n = kb ∧ β'.o n = ov ∧ Evo (Mt β (look σ.h)) (Mt β' (look ((n, o) :: σ.h))) w w' ∧ BEvo β β' (dm (look σ.h)) (dm (look ((n, o) :: σ.h))) := by
  let β' : Bt := ⟨fun m => if m = n then kb else β m, fun m => if m = n then ov else β.o m, β.m, fun m => if m = n then fun _ _ => False else β.ym m, β.yj, β.pr⟩
  have hβn : β' n = kb := by simp [β']
  have hon : β'.o n = ov := by simp [β']
  have hyn : ∀ k off, ¬ β'.ym n k off := by simp [β']
  have hβ : ∀ m, m ≠ n → β' m = β m := fun m hm => by simp [β', hm]
  have hoo : ∀ m, m ≠ n → β'.o m = β.o m := fun m hm => by simp [β', hm]
  have hyy : ∀ m, m ≠ n → β'.ym m = β.ym m := fun m hm => by simp [β', hm]
  have hbkn : ∀ k, bk β' n k → kb = some k := fun k h => h.elim (fun h => hβn.symm.trans h) fun ⟨off, h⟩ => absurd h (hyn k off)
  have hbk : ∀ m k, m ≠ n → bk β' m k → bk β m k := fun m k hm h => by unfold bk at h ⊢; rw [hβ m hm, hyy m hm] at h; exact h
  have hl : ∀ m, m ≠ n → look ((n, o) :: σ.h) m = look σ.h m := fun m hm => by rw [look_cons, if_neg (Ne.symm hm)]
  have hln : look ((n, o) :: σ.h) n = some o := by rw [look_cons, if_pos rfl]
  have hbe' : BEvo β β' (dm (look σ.h)) (dm (look ((n, o) :: σ.h))) := by
    refine ⟨fun m hm => ?_, fun m hm h0 => ?_, fun m u hm hu => ?_, rfl⟩
    · by_cases h : m = n
      · subst h; unfold dm; rw [hln]; simp
      · unfold dm at hm ⊢; rw [hl m h]; exact hm
    · by_cases h : m = n
      · subst h
        cases ho : look σ.h m with
        | none => exact absurd ho hm
        | some o0 => rw [hβn, hon]; exact ⟨((hbe o0 ho).1 h0).1, ((hbe o0 ho).1 h0).2, rfl⟩
      · exact ⟨(hoo m h).trans h0, hβ m h, rfl⟩
    · by_cases h : m = n
      · subst h
        cases ho : look σ.h m with
        | none => exact absurd ho hm
        | some o0 => rw [hon]; exact (hbe o0 ho).2 u hu
      · exact ⟨u, (hoo m h).trans hu, .inl rfl⟩
  have hcase : ∀ m k, look ((n, o) :: σ.h) m ≠ none → bk β' m k → (m = n ∧ kb = some k) ∨ (m ≠ n ∧ look σ.h m ≠ none ∧ bk β m k ∧ k < w.heap.size) := by
    intro m k hm hk
    by_cases h : m = n
    · subst h; exact .inl ⟨rfl, hbkn k hk⟩
    · rw [hl m h] at hm
      have hk := hbk m k h hk
      exact .inr ⟨h, hm, hk, R.hr.lt m k hm hk⟩
  have hmo : ∀ k off, (∃ o0, look σ.h n = some o0 ∧ β n = some k ∧ o0.mut off) → Mt β (look σ.h) k off := fun k off ⟨o0, h1, h2, h3⟩ => .inr ⟨n, o0, h1, .inl ⟨h2, h3⟩⟩
  have hev : Evo (Mt β (look σ.h)) (Mt β' (look ((n, o) :: σ.h))) w w' := by
    refine ⟨hsize, fun p hp hm => ?_, fun k off hk hm hm' => hm ?_, fun k hk hm => ?_, hos, htape, hout⟩
    · cases ho : look σ.h n with
      | none => exact cell_of_heap (hother _ hp fun o0 h => by rw [ho] at h; cases h)
      | some o0 =>
        by_cases hb : β n = some p.block
        · exact hcell o0 p ho hb fun hmut => hm (hmo _ _ ⟨o0, ho, hb, hmut⟩)
        · exact cell_of_heap (hother _ hp fun _ _ => hb)
    · rcases hm' with h | ⟨m, om, h1, h2⟩
      · exact .inl h
      · by_cases h : m = n
        · subst h
          rw [hln] at h1; injection h1 with h1; subst h1
          rcases h2 with ⟨h2, h3⟩ | h2
          · rcases (hkb k (hβn.symm.trans h2)).2 with ⟨o0, g1, g2, g3⟩ | g
            · exact hmo _ _ ⟨o0, g1, g2, g3 off h3⟩
            · omega
          · exact absurd h2 (hyn k off)
        · rw [hl m h] at h1
          rw [hβ m h, hyy m h] at h2
          exact .inr ⟨m, om, h1, h2⟩
    · refine hother k hk fun o0 h0 hb => ?_
      obtain ⟨off, hoff⟩ := mut_ex (hob0 o0 h0)
      exact hm off (hmo _ _ ⟨o0, h0, hb, hoff⟩)
  have hfresh : ∀ m k off, look ((n, o) :: σ.h) m ≠ none → bk β' m k → ¬ β'.m k off := fun m k off hm hk hM => by
    rcases hcase m k hm hk with ⟨rfl, h⟩ | ⟨_, h1, h2, _⟩
    · rcases (hkb k h).2 with ⟨o0, g1, g2, _⟩ | g
      · exact R.hr.fresh m k off (by rw [g1]; simp) (.inl g2) hM
      · have := R.hr.m0 k off hM; omega
    · exact R.hr.fresh m k off h1 h2 hM
  have hinj : ∀ m q k, look ((n, o) :: σ.h) m ≠ none → look ((n, o) :: σ.h) q ≠ none → bk β' m k → bk β' q k → m = q := fun m q k hm hq h1 h2 => by
    rcases hcase m k hm h1 with ⟨rfl, g⟩ | ⟨g0, g1, g2, g3⟩ <;> rcases hcase q k hq h2 with ⟨rfl, h⟩ | ⟨h0, p1, p2, p3⟩
    · rfl
    · rcases (hkb k g).2 with ⟨o0, q1, q2, _⟩ | q
      · exact R.hr.inj m q k (by rw [q1]; simp) p1 (.inl q2) p2
      · omega
    · rcases (hkb k h).2 with ⟨o0, q1, q2, _⟩ | q'
      · exact R.hr.inj m q k g1 (by rw [q1]; simp) g2 (.inl q2)
      · omega
    · exact R.hr.inj m q k g1 p1 g2 p2
  have hm0 : ∀ k off, β'.m k off → k < w'.heap.size := fun k off h => Nat.lt_of_lt_of_le (R.hr.m0 k off h) hsize
  have hlt' : ∀ m k, look ((n, o) :: σ.h) m ≠ none → bk β' m k → k < w'.heap.size := fun m k hm hk => by
    rcases hcase m k hm hk with ⟨_, h⟩ | ⟨_, _, _, h⟩
    · exact (hkb k h).1
    · omega
  refine ⟨β', R.evo hev hbe' (fun _ _ h => h) (fun k hm hk => ?_) ?_ ?_ ?_, hβn, hon, hev, hbe'⟩
  · have hlt : k < w.heap.size := (Array.getElem?_eq_some_iff.1 hk).1
    rw [hother k hlt fun o0 h0 hb => R.hr.fresh n k 0 (by rw [h0]; simp) (.inl hb) hm]
    exact hk
  · refine ⟨hos.trans R.fr.os, htape.trans R.fr.tape, hout.trans R.fr.output, Nat.le_trans R.fr.size hsize, fun k hk hB => ?_⟩
    have hlt : k < w.heap.size := Nat.lt_of_lt_of_le hk R.fr.size
    rw [hother k hlt fun o0 h0 hb => ?_, R.fr.block k hk hB]
    rcases R.own n k (by rw [h0]; simp) (.inl hb) with h | h
    · exact hB h
    · omega
  · intro m k hm hk
    rcases hcase m k hm hk with ⟨rfl, h⟩ | ⟨_, h1, h2, _⟩
    · rcases (hkb k h).2 with ⟨o0, g1, g2, _⟩ | g
      · exact R.own m k (by rw [g1]; simp) (.inl g2)
      · exact .inr (Nat.le_trans R.fr.size g)
    · exact R.own m k h1 h2
  · refine ⟨hm0, hlt', hfresh, hinj, fun m om hm ho => ?_, fun m om hm => ?_⟩
    · by_cases h : m = n
      · subst h; exact hyn
      · rw [hl m h] at hm
        rw [hyy m h]
        exact R.hr.ye m om hm ho
    · by_cases h : m = n
      · subst h
        rw [hln] at hm; injection hm with hm; subst hm
        exact hHOR β' hβn hon hev hbe'
      · have hm' := hm
        rw [hl m h] at hm
        refine (R.hr.blk m om hm).evo hev hbe' (hβ m h) (hoo m h) (hyy m h) rfl (fun k hk => ?_) (fun hob' => dis_of hm0 hlt' hfresh hinj hm' hob')
        have hlt := R.hr.lt m k (by rw [hm]; simp) hk
        exact hother k hlt fun o0 h0 hb => h (R.hr.inj m n k (by rw [hm]; simp) (by rw [h0]; simp) hk (.inl hb))

/-- a new block -/
theorem Rel.alloc (R : Rel X β σ a w) {d : Nat} (hd : look σ.h d = none) {b : List LV} {arr : Array Value} (e : TypeId)
    (hb : All2 (VL w (Mt β (look σ.h)) β (dm (look σ.h))) b arr.toList) :
    ∃ β' : Bt, Rel X β' { σ with h := (d, .cells b) :: σ.h } a (w.alloc (.cells arr e (0, 0))) ∧ β' d = some w.heap.size ∧ β'.o d = none := by
  have hno : ∀ o0, look σ.h d = some o0 → False := fun o0 h => by rw [hd] at h; cases h
  obtain ⟨β', h1, h2, h3, _⟩ := R.set d (.cells b) (fun o0 h => (hno o0 h).elim) (some w.heap.size) none (w' := w.alloc (.cells arr e (0, 0))) rfl rfl rfl (by simp)
    (fun k hk _ => heap_alloc_old w _ k hk) (fun o0 _ h => (hno o0 h).elim) (fun k hk => by injection hk with hk; subst hk; exact ⟨by simp, .inr (Nat.le_refl _)⟩)
    (fun o0 h => (hno o0 h).elim) (fun β' g1 g2 hev hbe => ⟨w.heap.size, arr, e, g2, g1, heap_alloc_new w _, hb.mono fun _ _ _ h => VL.evo hev hbe h⟩)
  exact ⟨β', h1, h2, h3⟩

/-- what storing cells into a block does -/
theorem run_storeCells : ∀ (vs : List Value) (w : World) (k off i : Nat) (arr : Array Value) (e : TypeId), w.heap[k]? = some (.cells arr e (0, 0)) → off + i + vs.length ≤ arr.size → (∀ v ∈ vs, v.oneCell' = true) →
    ∃ w', (storeCells ⟨k, off, none⟩ vs i).run P w = .ok () w' ∧ w'.heap[k]? = some (.cells (arr.toList.take (off + i) ++ (vs ++ arr.toList.drop (off + i + vs.length))).toArray e (0, 0)) ∧
      w'.heap.size = w.heap.size ∧ (∀ j, j ≠ k → w'.heap[j]? = w.heap[j]?) ∧ w'.os = w.os ∧ w'.tape = w.tape ∧ w'.output = w.output
  | [], w, k, off, i, arr, e, hk, _, _ => ⟨w, by simp [storeCells], by simpa using hk, rfl, fun _ _ => rfl, rfl, rfl, rfl⟩
  | v :: vs, w, k, off, i, arr, e, hk, hlen, hone => by
    simp only [List.length_cons] at hlen
    have hadd : (⟨k, off, none⟩ : Addr).add i = ⟨k, off + i, none⟩ := Addr.add_lit k off i
    have hc : w.cell? ⟨k, off + i, none⟩ = some arr[off + i] := by
      simp only [World.cell?, hk]
      simp
    have hf : w.frozen? ⟨k, off + i, none⟩ = false := by simp [World.frozen?, hk]
    have hstep : (store ((⟨k, off, none⟩ : Addr).add i) v).run P w = .ok () (w.setCell ⟨k, off + i, none⟩ v) := by
      rw [run_store P w _ v _ (hone v (by simp)), hadd, hc]
      simp [hf]
    have hk' : (w.setCell ⟨k, off + i, none⟩ v).heap[k]? = some (.cells (arr.setIfInBounds (off + i) v) e (0, 0)) := by
      simp [World.setCell, Array.getElem?_modify, hk]
    obtain ⟨w', h1, h2, h3, h4, h5, h6, h7⟩ := run_storeCells vs (w.setCell ⟨k, off + i, none⟩ v) k off (i + 1) _ e hk' (by simp; omega) (fun v hv => hone v (by simp [hv]))
    refine ⟨w', ?_, ?_, by rw [h3]; simp, fun j hj => ?_, h5, h6, h7⟩
    · simp only [storeCells, Sem.run_bind, hstep, Result.andThen_ok, h1]
    · rw [h2]
      congr 2
      apply congrArg List.toArray
      have hset : (arr.setIfInBounds (off + i) v).toList = arr.toList.set (off + i) v := by simp
      rw [hset]
      have e1 : off + (i + 1) = (off + i) + 1 := by omega
      have e2 : off + (i + 1) + vs.length = off + i + (vs.length + 1) := by omega
      rw [List.length_cons, e2]
      have hlt : off + i < arr.toList.length := by simp; omega
      have t1 : (arr.toList.set (off + i) v).take (off + (i + 1)) = arr.toList.take (off + i) ++ [v] := by
        rw [e1, List.take_succ_eq_append_getElem (by simp; omega)]
        rw [List.take_set_of_le (Nat.le_refl _)]
        simp
      have t2 : (arr.toList.set (off + i) v).drop (off + i + (vs.length + 1)) = arr.toList.drop (off + i + (vs.length + 1)) := by
        rw [List.drop_set, if_pos (by omega)]
      rw [t1, t2]
      simp
    · rw [h4 j hj]
      simp only [World.setCell, Array.getElem?_modify]
      rw [if_neg (fun h => hj h.symm)]

/-- a block of the state's is written -/
theorem Rel.write (R : Rel X β σ a w) {n k : Nat} {b b' : List LV} {arr' : Array Value} {e : TypeId} {w' : World} (hn : look σ.h n = some (.cells b)) (hk : β n = some k)
    (h2 : w'.heap[k]? = some (.cells arr' e (0, 0))) (h3 : w'.heap.size = w.heap.size) (h4 : ∀ j, j ≠ k → w'.heap[j]? = w.heap[j]?) (h5 : w'.os = w.os) (h6 : w'.tape = w.tape) (h7 : w'.output = w.output)
    (hb : All2 (VL w (Mt β (look σ.h)) β (dm (look σ.h))) b' arr'.toList) :
    ∃ β' : Bt, Rel X β' { σ with h := (n, .cells b') :: σ.h } a w' := by
  have hno : β.o n = none := by obtain ⟨_, _, _, h0, _⟩ := R.hr.blk n _ hn; exact h0
  have hlt := R.hr.lt n k (by rw [hn]; simp) (.inl hk)
  obtain ⟨β', g, _⟩ := R.set n (.cells b') (fun o0 h => by rw [hn] at h; injection h with h; subst h; rfl) (some k) none (w' := w') h5 h6 h7 (by omega) (fun j _ hj => h4 j fun e => hj _ hn (by rw [e]; exact hk))
    (fun o0 p h _ hm => by rw [hn] at h; injection h with h; subst h; exact absurd trivial hm) (fun j hj => by injection hj with hj; subst hj; exact ⟨by omega, .inl ⟨_, hn, hk, fun _ _ => trivial⟩⟩)
    (fun o0 h => ⟨fun _ => ⟨rfl, hk.symm⟩, fun u hu => by rw [hno] at hu; cases hu⟩)
    (fun β' g1 g2 hev hbe => ⟨k, arr', e, g2, g1, h2, hb.mono fun _ _ _ h => VL.evo hev hbe h⟩)
  exact ⟨β', g⟩
end
end Go.Sy
