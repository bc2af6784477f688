/- A verified generator of conditions for this program, and its soundness: part 3 of the proof. -/
import Derived.Test.YtdkggjgmlccjcaaSyH
import Derived.LoopNIn
namespace Go.Sy
variable {P : Program} {L : Nat → Option Lay} {Γ : Nat → Option Con} {F : Fence} {n : Nat}

/-! a loop over a function -/
section
variable {X : Cx} {β : Bt} {σ : St} {a : Act} {w : World}

theorem PV.mv {β β' : Bt} {D : Nat → Prop} {h' : List (Nat × HO)} (hb : ∀ n, dm (look h') n → β' n = β n ∧ β'.o n = β.o n) {q : Nat × Nat} {v : Value} (h : PV β D q v) (ok : ptrOk h' q.1 = true) : PV β' (dm (look h')) q v := by
 obtain ⟨k, _, h0, h1, h2⟩ := h
 have hd := ptrOk_iff.1 ok
 exact ⟨k, hd, (hb _ hd).2.trans h0, (hb _ hd).1.trans h1, h2⟩
theorem PVs.mv {β β' : Bt} {D : Nat → Prop} {h' : List (Nat × HO)} (hb : ∀ n, dm (look h') n → β' n = β n ∧ β'.o n = β.o n) {ps : List (Nat × Nat)} {vs : List Value} (h : All2 (PV β D) ps vs) (ok : ptrsOk h' ps = true) : All2 (PV β' (dm (look h'))) ps vs := by
 induction h with
 | nil => exact .nil
 | cons h1 _ ih =>
  simp only [ptrsOk, Bool.and_eq_true] at ok
  exact .cons (h1.mv hb ok.1) (ih ok.2)
theorem VL.mv {M M' : CM} {w w' : World} {β β' : Bt} {D : Nat → Prop} {h' : List (Nat × HO)} (e : Evo M M' w w') (hb : ∀ n, dm (look h') n → β' n = β n ∧ β'.o n = β.o n) {x : LV} {v : Value} (h : VL w M β D x v) (ok : lvOk h' x = true) : VL w' M' β' (dm (look h')) x v := by
 cases h with
 | d h => exact .d (h.evo e)
 | ptr h => exact .ptr (PV.mv hb h ok)
 | dptr vs hb hM hc hv =>
  refine .dptr vs (Nat.lt_of_lt_of_le hb e.size) (fun j hj => e.mt _ _ hb (hM j hj)) (fun j hj => ?_) (fun j hj => (hv j hj).evo e)
  rw [e.cell _ (by rw [add_block]; exact hb) (by rw [add_block, add_off]; exact hM j hj)]
  exact hc j hj
 | clo h1 h2 =>
  simp only [lvOk, Bool.and_eq_true] at ok
  exact .clo (PVs.mv hb h1 ok.1) (PVs.mv hb h2 ok.2)
 | own h ho =>
  obtain ⟨_, u, h1, h2⟩ := ho
  have hd := ptrOk_iff.1 ok
  exact .own (h.evo e) ⟨hd, u, (hb _ hd).2.trans h1, h2⟩
 | mp h1 h2 h3 => have hd := ptrOk_iff.1 ok; exact .mp hd ((hb _ hd).2.trans h2) ((hb _ hd).1.trans h3)
 | yl h1 h2 h3 => have hd := ptrOk_iff.1 ok; exact .yl hd ((hb _ hd).2.trans h2) ((hb _ hd).1.trans h3)
 | vr hs hk h => have hd := ptrOk_iff.1 ok; exact .vr hs hk (h.to hd (hb _ hd).2)
 | vp h => have hd := ptrOk_iff.1 ok; exact .vp (h.to hd (hb _ hd).2)
 | nn h hs => exact .nn (h.evo e) hs
 | kn => exact .kn
theorem VLs.mv {M M' : CM} {w w' : World} {β β' : Bt} {D : Nat → Prop} {h' : List (Nat × HO)} (e : Evo M M' w w') (hb : ∀ n, dm (look h') n → β' n = β n ∧ β'.o n = β.o n) {xs : List LV} {vs : List Value} (h : All2 (VL w M β D) xs vs) (ok : lvsOk h' xs = true) : All2 (VL w' M' β' (dm (look h'))) xs vs := by
 induction h with
 | nil => exact .nil
 | cons h1 _ ih =>
  simp only [lvsOk, Bool.and_eq_true] at ok
  exact .cons (h1.mv e hb ok.1) (ih ok.2)
theorem VT.mv {M M' : CM} {w w' : World} {β β' : Bt} {D : Nat → Prop} {h' : List (Nat × HO)} (e : Evo M M' w w') (hb : ∀ n, dm (look h') n → β' n = β n ∧ β'.o n = β.o n) {x : TV} {v : Value} (h : VT w M β D x v) (ok : tvOk h' x = true) : VT w' M' β' (dm (look h')) x v := by
 cases x with
 | one x => exact VL.mv e hb h ok
 | agg xs => obtain ⟨arr, rfl, hv⟩ := h; exact ⟨arr, rfl, VLs.mv e hb hv ok⟩
theorem VTs.mv {M M' : CM} {w w' : World} {β β' : Bt} {D : Nat → Prop} {h' : List (Nat × HO)} (e : Evo M M' w w') (hb : ∀ n, dm (look h') n → β' n = β n ∧ β'.o n = β.o n) {xs : List TV} {vs : List Value} (h : All2 (VT w M β D) xs vs) (ok : tvsOk h' xs = true) : All2 (VT w' M' β' (dm (look h'))) xs vs := by
 induction h with
 | nil => exact .nil
 | cons h1 _ ih =>
  simp only [tvsOk, Bool.and_eq_true] at ok
  exact .cons (VT.mv e hb h1 ok.1) (ih ok.2)
theorem VA.mv {M M' : CM} {w w' : World} {β β' : Bt} {D : Nat → Prop} {h' : List (Nat × HO)} (e : Evo M M' w w') (hb : ∀ n, dm (look h') n → β' n = β n ∧ β'.o n = β.o n) {x : AV} {v : Value} (h : VA w M β D x v) (ok : avOk h' x = true) : VA w' M' β' (dm (look h')) x v := by
 cases x with
 | t x => exact VT.mv e hb h ok
 | tup xs => obtain ⟨arr, rfl, hv⟩ := h; exact ⟨arr, rfl, VTs.mv e hb hv ok⟩
 | nx => exact h

theorem HOR.mv {M M' : CM} {w w' : World} {β β' : Bt} {D : Nat → Prop} {h' : List (Nat × HO)} {n : Nat} {o : HO} (h : HOR w M β D n o) (e : Evo M M' w w') (hb : ∀ n, dm (look h') n → β' n = β n ∧ β'.o n = β.o n) (hn : dm (look h') n)
  (hym : β'.ym n = β.ym n) (hyj : β'.yj n = β.yj n) (hpr : β'.pr = β.pr) (hk : ∀ k, bk β n k → w'.heap[k]? = w.heap[k]?) (ok : lvsOk h' o.body = true)
  (hdis : o.isOb = true → ∀ q off, M' q off → q < w'.heap.size ∧ ∀ off', ¬ β'.ym n q off → ¬ β'.ym n q off') : HOR w' M' β' (dm (look h')) n o := by
 obtain ⟨hb1, hb2⟩ := hb n hn
 cases o with
 | cells c =>
  obtain ⟨k, arr, t, h0, h1, h2, h3⟩ := h
  exact ⟨k, arr, t, hb2.trans h0, hb1.trans h1, (hk k (.inl h1)).trans h2, VLs.mv e hb h3 ok⟩
 | gr t sz len =>
  rcases h with ⟨h0, h1, h2⟩ | ⟨k, cap, arr, h0, h1, h2, h3⟩
  ·exact .inl ⟨hb2.trans h0, hb1.trans h1, h2⟩
  ·exact .inr ⟨k, cap, arr, hb2.trans h0, hb1.trans h1, (hk k (.inl h1)).trans h2, h3⟩
 | mp κ ν l =>
  obtain ⟨k, es, clock, h0, h1, h2, h3⟩ := h
  exact ⟨k, es, clock, hb2.trans h0, hb1.trans h1, (hk k (.inl h1)).trans h2, h3.mono fun _ _ _ h => ⟨h.1.evo e, h.2.evo e⟩⟩
 | fm l =>
  obtain ⟨k, es, clock, h0, h1, h2, h3⟩ := h
  exact ⟨k, es, clock, hb2.trans h0, hb1.trans h1, (hk k (.inl h1)).trans h2, h3.mono_mem fun p _ hp h => ⟨h.1.evo e, VT.mv e hb h.2 (fm_ok ok p hp)⟩⟩
 | dead m => obtain ⟨u, hu, hm⟩ := h; exact ⟨u, hb2.trans hu, hm⟩
 | vh τ t l =>
  obtain ⟨k, cap, arr, h0, h1, h2, h3, h4, h5, h6, h7, h8⟩ := h
  exact ⟨k, cap, arr, hb2.trans h0, hb1.trans h1, (hk k (.inl h1)).trans h2, h3, h4, h5, fun i j u hi hj hne hu => (h6 i j u hi hj hne hu).evo e, h7, fun u hu => by cases VLs.mv e hb (.cons (h8 u hu) .nil) ok with | cons h1 _ => exact h1⟩
 | it q p =>
  obtain ⟨k, h0, h1, h2⟩ := h
  exact ⟨k, hb2.trans h0, hb1.trans h1, (hk k (.inl h1)).trans h2⟩
 | vec τ t l =>
  rcases h with ⟨h0, h1, h2⟩ | ⟨k, cap, arr, h0, h1, h2, h3, h4, h5, h6⟩
  ·exact .inl ⟨hb2.trans h0, hb1.trans h1, h2⟩
  ·exact .inr ⟨k, cap, arr, hb2.trans h0, hb1.trans h1, (hk k (.inl h1)).trans h2, h3, h4, h5, fun i j u hi hj hu => (h6 i j u hi hj hu).evo e⟩
 | frz τ t l =>
  rcases h with ⟨h0, h1, h2⟩ | ⟨k, cap, arr, h0, h1, h2, h3, h4, h5, h6⟩
  ·exact .inl ⟨hb2.trans h0, hb1.trans h1, h2⟩
  ·exact .inr ⟨k, cap, arr, hb2.trans h0, hb1.trans h1, (hk k (.inl h1)).trans h2, h3, h4, h5, fun i j u hi hj hu => (h6 i j u hi hj hu).evo e⟩
 | ob sg hist go =>
  obtain ⟨h0, k, h1, h2, h3⟩ := h
  refine ⟨hb2.trans h0, k, hb1.trans h1, by rw [hpr, hyj]; exact h2, ?_⟩
  rw [hym] at hdis ⊢
  rw [hyj]
  refine h2.stay hist _ _ _ w w' h3 ⟨e.size, fun p hp hn => ?_, fun k hk' hn => ?_, e.sys⟩ (fun q off hq => ?_) (fun q off off' hq => (hdis rfl q off hq.1).2 off' hq.2)
  ·by_cases hY : β.ym n p.block p.off
   ·exact cell_of_heap (hk _ (.inr ⟨_, hY⟩))
   ·exact e.cell p hp fun hM => hn ⟨hM, hY⟩
  ·by_cases hY : ∃ off, β.ym n k off
   ·exact hk k (.inr hY)
   ·exact e.blk k hk' fun off hM => hn off ⟨hM, fun h => hY ⟨off, h⟩⟩
  ·by_cases hlt : q < w.heap.size
   ·refine .inl ⟨?_, hq.2⟩
    by_cases hM : M q off
    ·exact hM
    ·exact absurd hq.1 (e.mt q off hlt hM)
   ·exact .inr ⟨Nat.le_of_not_lt hlt, (hdis rfl q off hq.1).1⟩

theorem Rel.move2 {X' : Cx} (R : Rel X β σ a w) {s' : List (Nat × AV)} {h' : List (Nat × HO)} {m' I : CM} {a' : Act} {w' : World} (hB : ∀ k, X'.B0 k) (ht : a'.tmps.size = X'.N) (hd : a'.defers = [])
  (hh : ∀ k o, look h' k = some o → look σ.h k = some o) (ok2 : ∀ k o, look h' k = some o → lvsOk h' o.body = true)
  (chg : Chg I w w') (hI : ∀ q off n, I q off → look h' n ≠ none → ¬ bk β n q) (hIM : ∀ q off, I q off → Mt β (look σ.h) q off)
  (hm : ∀ q off, m' q off → q < w'.heap.size) (hmM : ∀ q off, q < w.heap.size → m' q off → Mt β (look σ.h) q off) (hmf : ∀ n q off, look h' n ≠ none → bk β n q → ¬ m' q off)
  (fr : Fr (fun _ => True) X'.w0 w') (be : BEvo X'.b0 β X'.D0 (dm (look h'))) (bm : ∀ k off, X'.b0.m k off → m' k off)
  (ev : Evo (Mt β (look σ.h)) (Mt { β with m := m' } (look h')) w w' → Evo X'.M (Mt { β with m := m' } (look h')) X'.w0 w')
  (sl : Evo (Mt β (look σ.h)) (Mt { β with m := m' } (look h')) w w' → ∀ t v, look s' t = some v → t < X'.N ∧ VA w' (Mt { β with m := m' } (look h')) { β with m := m' } (dm (look h')) v (a'.tmps.getD t undef)) :
  Rel X' { β with m := m' } { s := s', g := [], h := h' } a' w' := by
 have hin : ∀ n, look h' n ≠ none → look σ.h n ≠ none := fun n hn => by
  cases ho : look h' n with
  | none => exact absurd ho hn
  | some o => rw [hh n o ho]; simp
 have e : Evo (Mt β (look σ.h)) (Mt { β with m := m' } (look h')) w w' := by
  refine ⟨chg.size, fun p hp hn => chg.cell p hp fun h => hn (hIM _ _ h), fun q off hq hn hn' => hn ?_, fun q hq hn => chg.blk q hq fun off h => hn off (hIM _ _ h), chg.sys⟩
  rcases hn' with h | ⟨n, o, h1, h2⟩
  ·exact hmM q off hq h
  ·exact .inr ⟨n, o, hh n o h1, h2⟩
 have hb : ∀ n, dm (look h') n → ({ β with m := m' } : Bt) n = β n ∧ ({ β with m := m' } : Bt).o n = β.o n := fun _ _ => ⟨rfl, rfl⟩
 have hfresh : ∀ n q off, look h' n ≠ none → bk { β with m := m' } n q → ¬ ({ β with m := m' } : Bt).m q off := fun n q off hn hq => hmf n q off hn hq
 have hinj : ∀ n n' q, look h' n ≠ none → look h' n' ≠ none → bk { β with m := m' } n q → bk { β with m := m' } n' q → n = n' := fun n n' q hn hn' h1 h2 => R.hr.inj n n' q (hin n hn) (hin n' hn') h1 h2
 refine ⟨ht, by rw [hd]; trivial, ⟨fr.os, fr.tape, fr.output, fr.size, fun k _ hk => absurd (hB k) hk⟩, fun _ k _ _ => .inl (hB k), ⟨be.d, be.b, be.o, be.pr⟩, bm,
  ⟨hm, fun n q hn hq => Nat.lt_of_lt_of_le (R.hr.lt n q (hin n hn) hq) chg.size, hfresh, hinj, fun n o hn ho => R.hr.ye n o (hh n o hn) ho, fun n o hn => ?_, R.hr.gl.evo e⟩, ev e, sl e, fun t g b x h => by cases h⟩
 refine (R.hr.blk n o (hh n o hn)).mv e hb (by unfold dm; rw [hn]; simp) rfl rfl rfl (fun q hq => ?_) (ok2 n o hn) fun hob => dis_of (β := { β with m := m' }) hm (fun n q hn hq => Nat.lt_of_lt_of_le (R.hr.lt n q (hin n hn) hq) chg.size) hfresh hinj hn hob
 exact chg.blk q (R.hr.lt n q (by rw [hh n o hn]; simp) hq) fun off h => hI q off n h (by rw [hn]; simp) hq
theorem Rel.move {X' : Cx} (R : Rel X β σ a w) {s' : List (Nat × AV)} {h' : List (Nat × HO)} {m' I : CM} {a' : Act} {w' : World} (hN : X'.N = X.N) (hB : ∀ k, X'.B0 k) (ht : a'.tmps = a.tmps) (hd : a'.defers = [])
  (hs : ∀ k v, look s' k = some v → look σ.s k = some v) (hh : ∀ k o, look h' k = some o → look σ.h k = some o) (ok1 : ∀ k v, look s' k = some v → avOk h' v = true) (ok2 : ∀ k o, look h' k = some o → lvsOk h' o.body = true)
  (chg : Chg I w w') (hI : ∀ q off n, I q off → look h' n ≠ none → ¬ bk β n q) (hIM : ∀ q off, I q off → Mt β (look σ.h) q off)
  (hm : ∀ q off, m' q off → q < w'.heap.size) (hmM : ∀ q off, q < w.heap.size → m' q off → Mt β (look σ.h) q off) (hmf : ∀ n q off, look h' n ≠ none → bk β n q → ¬ m' q off)
  (fr : Fr (fun _ => True) X'.w0 w') (be : BEvo X'.b0 β X'.D0 (dm (look h'))) (bm : ∀ k off, X'.b0.m k off → m' k off)
  (ev : Evo (Mt β (look σ.h)) (Mt { β with m := m' } (look h')) w w' → Evo X'.M (Mt { β with m := m' } (look h')) X'.w0 w') :
  Rel X' { β with m := m' } { s := s', g := [], h := h' } a' w' :=
 R.move2 hB (by rw [ht, R.tn, hN]) hd hh ok2 chg hI hIM hm hmM hmf fr be bm ev fun e t v h => by
  rw [ht]
  exact ⟨by rw [hN]; exact (R.sl t v (hs t v h)).1, VA.mv (β := β) (β' := { β with m := m' }) e (fun _ _ => ⟨rfl, rfl⟩) (R.sl t v (hs t v h)).2 (ok1 t v h)⟩

abbrev againX (X : Cx) (β : Bt) (σ : St) (w : World) : Cx := { w0 := w, B0 := fun j => ∃ n, look σ.h n ≠ none ∧ bk β n j, N := X.N, b0 := β, D0 := dm (look σ.h), M := Mt β (look σ.h), mb := X.mb }
theorem Evo.turn {M : CM} {k : Nat} {r : Loop} (o' : Loop) (hk : w.heap[k]? = some (.loop r)) (hm : ∀ off, M k off) : Evo M M w (w.putObj k (.loop o')) := by
 have hlt : k < w.heap.size := (Array.getElem?_eq_some_iff.1 hk).1
 have hoth : ∀ j, j ≠ k → (w.putObj k (.loop o')).heap[j]? = w.heap[j]? := fun j hj => World.putObj_heap_other hj
 refine ⟨by simp, fun p _ hp => cell_of_heap (hoth _ fun e => hp (e ▸ hm _)), fun _ _ _ h => h, fun j _ hj => hoth j fun e => hj 0 (e ▸ hm 0), rfl, rfl, rfl⟩
theorem Rel.turn (R : Rel X β σ a w) {k : Nat} {r : Loop} (o' : Loop) (hk : w.heap[k]? = some (.loop r)) (hm : ∀ off, β.m k off) : Rel (againX X β σ (w.putObj k (.loop o'))) β σ a (w.putObj k (.loop o')) := by
 have hlt : k < w.heap.size := (Array.getElem?_eq_some_iff.1 hk).1
 have hoth : ∀ j, j ≠ k → (w.putObj k (.loop o')).heap[j]? = w.heap[j]? := fun j hj => World.putObj_heap_other hj
 have hev : Evo (Mt β (look σ.h)) (Mt β (look σ.h)) w (w.putObj k (.loop o')) := Evo.turn o' hk fun off => .inl (hm off)
 refine ⟨R.tn, R.df.keep (fun _ _ h => h) fun j _ hj _ => ?_, Fr.refl, fun n j hn hj => .inl ⟨n, hn, hj⟩, BEvo.refl, fun _ _ h => h, ⟨fun q off h => by simpa using R.hr.m0 q off h, fun n q hn hq => by simpa using R.hr.lt n q hn hq, R.hr.fresh, R.hr.inj, R.hr.ye, fun n o hn => ?_, R.hr.gl.evo hev⟩, Evo.refl,
  fun t v h => ⟨(R.sl t v h).1, VA.evo hev BEvo.refl (R.sl t v h).2⟩, fun t g q x h => ⟨(R.gd t g q x h).1, (R.gd t g q x h).2.imp (fun h => ⟨h.1, VT.evo hev BEvo.refl h.2⟩) id⟩⟩
 ·rw [hoth j fun e => by rw [e, hk] at hj; cases hj]; exact hj
 ·refine (R.hr.blk n o hn).evo hev BEvo.refl rfl rfl rfl rfl (fun q hq => hoth q fun e => R.hr.fresh n q 0 (by rw [hn]; simp) hq (e ▸ hm 0)) fun hob => dis_of (fun q off h => by simpa using R.hr.m0 q off h) (fun n q hn hq => by simpa using R.hr.lt n q hn hq) R.hr.fresh R.hr.inj hn hob

theorem namesIn_spec {h : List (Nat × HO)} : ∀ {l : List (Nat × HO)}, namesIn h l = true → ∀ k o, (k, o) ∈ l → dm (look h) k
 | (a, x) :: r, hn, k, o, hm => by
  simp only [namesIn, Bool.and_eq_true] at hn
  rcases List.mem_cons.1 hm with e | hm
  ·injection e with e1 e2; subst e1 e2; exact ptrOk_iff.1 hn.1
  ·exact namesIn_spec hn.2 k o hm
theorem okS_sub {h : List (Nat × HO)} : ∀ {l : List (Nat × AV)} {seen : List Nat} {k : Nat} {v : AV}, look (okS h l seen) k = some v → k ∉ seen ∧ look l k = some v ∧ avOk h v = true
 | [], _, _, _, hh => by cases hh
 | (a, x) :: r, seen, k, v, hh => by
  simp only [okS] at hh
  split at hh
  ·rename_i hc
   simp only [Bool.and_eq_true, Bool.not_eq_true'] at hc
   rw [look_cons] at hh
   split at hh
   ·rename_i e
    subst e
    injection hh with hh; subst hh
    exact ⟨fun hm => by rw [mem_iff.2 hm] at hc; exact absurd hc.1 (by simp), by rw [look_cons, if_pos rfl], hc.2⟩
   ·rename_i e
    obtain ⟨h1, h2, h3⟩ := okS_sub hh
    simp only [List.mem_cons, not_or] at h1
    exact ⟨h1.2, by rw [look_cons, if_neg e]; exact h2, h3⟩
  ·obtain ⟨h1, h2, h3⟩ := okS_sub hh
   simp only [List.mem_cons, not_or] at h1
   exact ⟨h1.2, by rw [look_cons, if_neg (fun e => h1.1 e.symm)]; exact h2, h3⟩
theorem selH_iff {ln : List Nat} {q : Bool} : ∀ {l : List (Nat × HO)} {k : Nat} {o : HO}, look (selH ln q l) k = some o ↔ mem ln k = q ∧ look l k = some o
 | [], k, o => by simp [selH, look]
 | (a, x) :: r, k, o => by
  simp only [selH]
  by_cases hq : (mem ln a == q) = true
  ·rw [if_pos hq, look_cons, look_cons]
   by_cases e : a = k
   ·subst e
    simp only [if_true]
    exact ⟨fun h => ⟨by simpa using hq, h⟩, fun h => h.2⟩
   ·rw [if_neg e, if_neg e]; exact selH_iff
  ·rw [if_neg hq, look_cons]
   by_cases e : a = k
   ·subst e
    simp only [if_true]
    constructor
    ·intro h; obtain ⟨h1, _⟩ := selH_iff.1 h; exact absurd (by simpa using h1) hq
    ·intro h; exact absurd (by simpa using h.1) hq
   ·rw [if_neg e]; exact selH_iff

theorem tvOf_ok {h : List (Nat × HO)} {τ : Ty} {v : τ.T} : tvOk h (tvOf τ v) = true := by
 unfold tvOf
 split
 ·have : ∀ (c : Nat → DV) (n i : Nat), lvsOk h (dcells c i n) = true := by
   intro c n
   induction n with
   | zero => intro i; rfl
   | succ n ih => intro i; simp [dcells, lvsOk, lvOk, ih]
  exact this _ _ _
 ·rfl
theorem ArgsOk.length {w : World} {M : CM} : ∀ {sg : List Ty} {x : (tpl sg).T} {vals : List Value}, ArgsOk w M sg x vals → vals.length = sg.length := by
 intro sg
 induction sg with
 | nil => intro x vals h; rw [show vals = [] from h]; rfl
 | cons a r ih => intro x vals h; obtain ⟨v, vs, rfl, _, h⟩ := h; simp [ih h]
theorem foldl_look : ∀ (ps : List Nat) (vs : List Value) (t : Array Value) (k : Nat), distinct ps = true → ps.length = vs.length → below t.size ps = true →
  ((ps.zip vs).foldl (fun t (p, v) => t.setIfInBounds p v) t).size = t.size ∧ (k ∉ ps → ((ps.zip vs).foldl (fun t (p, v) => t.setIfInBounds p v) t).getD k undef = t.getD k undef) ∧
   ∀ i : Nat, ps[i]? = some k → ∀ v, vs[i]? = some v → ((ps.zip vs).foldl (fun t (p, v) => t.setIfInBounds p v) t).getD k undef = v
 | [], _, t, k, _, _, _ => ⟨rfl, fun _ => rfl, fun i h => by simp at h⟩
 | p :: ps, [], t, k, _, hl, _ => by simp at hl
 | p :: ps, v :: vs, t, k, hd, hl, hb => by
  simp only [distinct, below, Bool.and_eq_true, Bool.not_eq_true'] at hd hb
  have hp : p < t.size := by have := hb.1; exact Nat.le_of_ble_eq_true this
  obtain ⟨h1, h2, h3⟩ := foldl_look ps vs (t.setIfInBounds p v) k hd.2 (by simpa using hl) (by simpa using hb.2)
  simp only [List.zip_cons_cons, List.foldl_cons]
  have hpn : p ∉ ps := fun h => by rw [mem_iff.2 h] at hd; exact absurd hd.1 (by simp)
  refine ⟨by rw [h1]; simp, fun hk => ?_, fun i hi u hu => ?_⟩
  ·simp only [List.mem_cons, not_or] at hk
   rw [h2 hk.2]
   simp only [Array.getD_eq_getD_getElem?, Array.getElem?_setIfInBounds]
   rw [if_neg (fun e => hk.1 e.symm)]
  ·cases i with
   | zero =>
    simp at hi hu
    subst hi hu
    rw [h2 hpn]
    simp [Array.getD_eq_getD_getElem?, hp]
   | succ i => exact h3 i (by simpa using hi) u (by simpa using hu)
theorem pSlots_look {w : World} {M : CM} {β : Bt} {D : Nat → Prop} : ∀ {sg : List Ty} {ps : List Nat} {x : (tpl sg).T} {vals : List Value}, ArgsOk w M sg x vals → distinct ps = true → ∀ k v, look (pSlots ps sg x) k = some v →
  ∃ (i : Nat) (u : Value), ps[i]? = some k ∧ vals[i]? = some u ∧ VA w M β D v u ∧ ∀ h, avOk h v = true := by
 intro sg
 induction sg with
 | nil => intro ps x vals _ _ k v h; cases ps <;> cases h
 | cons a r ih =>
  intro ps x vals hv hd k v h
  obtain ⟨u, us, rfl, h1, h2⟩ := hv
  cases ps with
  | nil => cases h
  | cons p ps =>
   simp only [distinct, Bool.and_eq_true] at hd
   simp only [pSlots] at h
   rw [look_cons] at h
   split at h
   ·rename_i e
    injection h with h; subst h
    exact ⟨0, u, by simp [e], rfl, tvOf_sound h1, fun h => tvOf_ok⟩
   ·obtain ⟨i, u', g1, g2, g3⟩ := ih h2 hd.2 k v h
    exact ⟨i + 1, u', by simpa using g1, by simpa using g2, g3⟩
theorem pSlots_none : ∀ {sg : List Ty} {ps : List Nat} {x : (tpl sg).T}, ps.length = sg.length → ∀ k, look (pSlots ps sg x) k = none → k ∉ ps := by
 intro sg
 induction sg with
 | nil => intro ps x hl k _; rw [List.eq_nil_of_length_eq_zero hl]; simp
 | cons a r ih =>
  intro ps x hl k h
  cases ps with
  | nil => simp
  | cons p ps =>
   simp only [pSlots] at h
   rw [look_cons] at h
   split at h
   ·cases h
   ·rename_i e
    simp only [List.mem_cons, not_or]
    exact ⟨fun e' => e e'.symm, ih (by simpa using hl) k h⟩

theorem HR.bkM {β : Bt} {hp : Nat → Option HO} {w : World} (H : HR β hp w) {n k : Nat} {o : HO} (hn : hp n = some o) (hk : bk β n k) : ∃ off, Mt β hp k off := by
 rcases hk with hk | ⟨off, hk⟩
 ·cases hob : o.isOb with
  | false => obtain ⟨off, h⟩ := mut_ex hob; exact ⟨off, .inr ⟨n, o, hn, .inl ⟨hk, h⟩⟩⟩
  | true =>
   have h := H.blk n o hn
   cases o with
   | ob sg hist go =>
    obtain ⟨_, k', h1, h2, h3⟩ := h
    obtain rfl : k = k' := Option.some.inj (hk.symm.trans h1)
    obtain ⟨off, h4⟩ := h2.rc _ _ _ _ h3
    exact ⟨off, .inr ⟨n, _, hn, .inr h4⟩⟩
   | _ => cases hob
 ·exact ⟨off, .inr ⟨n, o, hn, .inr hk⟩⟩
theorem Marks.mem {b : Nat} {m : CM} {w : World} : ∀ {ds : List Deferred}, Marks b m w ds → ∀ k, ({ target := .collected k, args := #[] } : Deferred) ∈ ds → w.heap[k]? = some (Obj.deferred (some []))
 | _ :: _, ⟨⟨k', h1, h2, _⟩, hr⟩, k, hm => by
  rcases List.mem_cons.1 hm with e | hm
  ·rw [h1] at e
   have : k = k' := by injection e with e1 e2; injection e1
   rw [this]; exact h2
  ·exact Marks.mem hr k hm

abbrev hhOf (A : RAnn) (rh : List (Nat × HO)) (hist : List (tpl A.sg).T) : List (Nat × HO) := A.h hist ++ dropH (A.h hist) rh

theorem range_sound (hF : Wide F) (hro : F.round = none) (hmb : X.mb ≤ X.w0.heap.size) (hpr : X.b0.pr = P) (R : Rel X β σ a w) {g : Operand} {ps : Array Tmp} {as bd : Code} {A : RAnn} {f : FuncId} {ca : List (Nat × Nat)} {y : Nat} {ln : List Nat} {con : Con} {fr : Nat} {cs : List Prop} {r' : AV}
  {H : List (tpl A.sg).T} {Q : Exit → Act → World → Prop} (hg : VL w (Mt β (look σ.h)) β (dm (look σ.h)) (.clo f [] ca) (a.eval g)) (hok : FnOk P f con)
  (hcon : con (.one (.yl y) :: ptrs ca) (look ((y, .ob A.sg [] A.go) :: selH ln true σ.h)) fr = some (cs, r', [(y, .ob A.sg H A.go)])) (hcs : ∀ c ∈ cs, c) (hy : look σ.h y = none)
  (okl : heapOk (selH ln true σ.h) (selH ln true σ.h) = true) (okr : heapOk (selH ln false σ.h) (selH ln false σ.h) = true) (okc : ptrsOk (selH ln true σ.h) ca = true) (hps : ps.size = A.sg.length)
  (hnm : ∀ hist, A.inv hist → namesIn (selH ln false σ.h) (A.h hist) = true ∧ heapOk (hhOf A (selH ln false σ.h) hist) (A.h hist) = true) (hi0 : A.inv []) (he0 : ∀ k o, (k, o) ∈ A.h [] → look (selH ln false σ.h) k = some o)
  (hbody : ∀ (l : Nat) (hist : List (tpl A.sg).T) (x : (tpl A.sg).T) (vals : List Value) (X' : Cx) (β' : Bt) (w' : World), X'.N = X.N → X'.b0.pr = P → A.inv hist → liveX A.go hist x → ArgsOk w' (Mt β' (look (hhOf A (selH ln false σ.h) hist))) A.sg x vals →
   Rel X' β' { s := okS (selH ln false σ.h) σ.s [], g := [], h := hhOf A (selH ln false σ.h) hist } { tmps := a.tmps, defers := [] } w' →
   as.wpIn (Fence.wide.inRound l) 0 P (Exit.then (fun a1 w1 => ∃ β1 σ1, Rel X' β1 σ1 a1 w1 ∧ ∀ X2 w2 β2, X2.N = X.N → X2.b0.pr = P → Rel X2 β2 σ1 a1 w2 → bd.wpIn (Fence.wide.inRound l) 0 P (fun e a3 w3 => ∃ β3 σ3, Rel X2 β3 σ3 a3 w3 ∧ A.inv (hist ++ [x]) ∧ (∀ k o, look (hhOf A (selH ln false σ.h) (hist ++ [x])) k = some o → look σ3.h k = some o) ∧
    ((e = .normal ∧ A.go (hist ++ [x]) = true) ∨ (A.go (hist ++ [x]) = false ∧ ∃ q ∈ A.js, (q.1 = .rt ∨ ∃ id, q.1 = .ex id) ∧ e = q.1.exit ∧ q.2 (hist ++ [x])))) a1 w2) (fun _ _ _ => False))
    { tmps := (ps.zip vals.toArray).foldl (fun t (p, v) => t.setIfInBounds p v) a.tmps, defers := [] } w')
  (hdone : ∀ β' a' w', Rel X β' { s := σ.s, g := [], h := A.h H ++ dropH (A.h H) σ.h } a' w' → A.inv H → live A.go H → Q .normal a' w')
  (hstop : ∀ β' a' w' q, Rel X β' { s := σ.s, g := [], h := A.h H ++ dropH (A.h H) σ.h } a' w' → A.inv H → ¬ live A.go H → q ∈ A.js → q.2 H → q.1.code.wpIn F n P Q a' w') :
  (Code.rangeFunc g ps as bd).wpIn F n P Q a w := by
 refine wpIn_rangeFunc ?_
 intro fn hfn
 rw [hro]
 obtain ⟨rec, hrec⟩ : ∃ rec : LoopState → Option Code → Loop, rec = fun st pe => { state := st, pending := pe, fn, tmps := a.tmps, params := ps, assign := as, body := bd, defers := w.heap.size } := ⟨_, rfl⟩
 obtain ⟨W1, hW1⟩ : ∃ W1, (w.alloc (.deferred (some []))).alloc (.loop (rec .ready none)) = W1 := ⟨_, rfl⟩
 have hs1 : W1.heap.size = w.heap.size + 2 := by rw [← hW1]; simp
 have hL1 : W1.heap[w.heap.size + 1]? = some (.loop (rec .ready none)) := by
  rw [← hW1]; have := World.alloc_heap_new (w.alloc (.deferred (some []))) (.loop (rec .ready none)); rwa [World.size_alloc] at this
 have hD1 : W1.heap[w.heap.size]? = some (Obj.deferred (some [])) := by
  rw [← hW1]; exact (heap_alloc_old _ _ _ (by simp)).trans (World.alloc_heap_new w _)
 have hold : ∀ k, k < w.heap.size → W1.heap[k]? = w.heap[k]? := fun k hk => by
  rw [← hW1]; exact (heap_alloc_old _ _ _ (by simp; omega)).trans (heap_alloc_old _ _ _ hk)
 have hsys1 : W1.os = w.os ∧ W1.tape = w.tape ∧ W1.output = w.output := by rw [← hW1]; exact ⟨rfl, rfl, rfl⟩
 -- the closure
 generalize hev : a.eval g = gv at hg
 cases hg with
 | @clo _ _ _ vf vc h1 h2 =>
 cases h1
 have hch1 : Chg (fun _ _ => False) w W1 := ⟨by omega, fun p hp _ => cell_of_heap (hold _ hp), fun k hk _ => hold k hk, hsys1⟩
 -- the parts of the state
 have hlk : ∀ k o, look (selH ln true σ.h) k = some o ↔ mem ln k = true ∧ look σ.h k = some o := fun k o => selH_iff
 have hrk : ∀ k o, look (selH ln false σ.h) k = some o ↔ mem ln k = false ∧ look σ.h k = some o := fun k o => selH_iff
 generalize hlh : selH ln true σ.h = lh at *
 generalize hrh : selH ln false σ.h = rh at *
 have hhk : ∀ hist k o, look (hhOf A rh hist) k = some o → (k, o) ∈ A.h hist ∨ look rh k = some o := fun hist k o h => by
  rw [look_append] at h
  split at h
  ·rename_i o' ho'; injection h with h; subst h; exact .inl (look_mem ho')
  ·rename_i hn; rw [dropH_sub hn] at h; exact .inr h
 have hhd : ∀ hist, A.inv hist → ∀ k, dm (look (hhOf A rh hist)) k ↔ dm (look rh) k := fun hist hi k => by
  constructor
  ·intro h
   cases ho : look (hhOf A rh hist) k with
   | none => exact absurd ho h
   | some o =>
    rcases hhk hist k o ho with h | h
    ·exact namesIn_spec (hnm hist hi).1 k o h
    ·unfold dm; rw [h]; simp
  ·intro h
   unfold dm at h ⊢
   rw [look_append]
   cases ho : look (A.h hist) k with
   | some o => simp
   | none => rw [dropH_sub ho]; exact h
 have okh : ∀ hist, A.inv hist → ∀ k o, look (hhOf A rh hist) k = some o → lvsOk (hhOf A rh hist) o.body = true := fun hist hi k b h => by
  rcases hhk hist k _ h with h | h
  ·exact heapOk_sound (hnm hist hi).2 h
  ·exact lvsOk_mono (fun n hn => ptrOk_iff.2 ((hhd hist hi n).2 (ptrOk_iff.1 hn))) (heapOk_sound okr (look_mem h))
 have oks : ∀ hist, A.inv hist → ∀ k v, look (okS rh σ.s []) k = some v → avOk (hhOf A rh hist) v = true := fun hist hi k v h =>
  avOk_mono (fun n hn => ptrOk_iff.2 ((hhd hist hi n).2 (ptrOk_iff.1 hn))) (okS_sub h).2.2
 have hrne : ∀ k, look rh k ≠ none → look σ.h k ≠ none ∧ mem ln k = false := fun k h => by
  cases ho : look rh k with
  | none => exact absurd ho h
  | some o => obtain ⟨h1, h2⟩ := (hrk k o).1 ho; exact ⟨by rw [h2]; simp, h1⟩
 have hlne : ∀ k, look lh k ≠ none → look σ.h k ≠ none ∧ mem ln k = true := fun k h => by
  cases ho : look lh k with
  | none => exact absurd ho h
  | some o => obtain ⟨h1, h2⟩ := (hlk k o).1 ho; exact ⟨by rw [h2]; simp, h1⟩
 let I1 : CM := fun q off => β.m q off ∨ ∃ n o, look lh n = some o ∧ ((β n = some q ∧ o.mut off) ∨ β.ym n q off)
 have hI1 : ∀ q off, I1 q off → Mt β (look σ.h) q off := fun q off h => by
  rcases h with h | ⟨n, o, h1, h2⟩
  ·exact .inl h
  ·exact .inr ⟨n, o, ((hlk n o).1 h1).2, h2⟩
 have hMlt : ∀ q off, Mt β (look σ.h) q off → q < w.heap.size := fun q off h => by
  rcases h with h | ⟨n, o, h1, h2⟩
  ·exact R.hr.m0 q off h
  ·exact R.hr.lt n q (by rw [h1]; simp) (h2.elim (fun h => .inl h.1) fun h => .inr ⟨off, h⟩)
 have hI1r : ∀ n q off, look rh n ≠ none → bk β n q → ¬ I1 q off := fun n q off hn hq h => by
  obtain ⟨hn1, hn2⟩ := hrne n hn
  rcases h with h | ⟨n', o, h1, h2⟩
  ·exact R.hr.fresh n q off hn1 hq h
  ·obtain ⟨g1, g2⟩ := (hlk n' o).1 h1
   have := R.hr.inj n n' q hn1 (by rw [g2]; simp) hq (h2.elim (fun h => .inl h.1) fun h => .inr ⟨off, h⟩)
   subst this
   rw [hn2] at g1; cases g1
 let X' : Cx := { w0 := W1, B0 := fun _ => True, N := X.N, b0 := { β with m := fun _ _ => False }, D0 := dm (look rh), M := fun q off => Mt β (look σ.h) q off ∨ q = w.heap.size ∨ q = w.heap.size + 1, mb := 0 }
 let aJ : Act := { tmps := a.tmps, defers := [] }
 let J : HO → CM → CM → World → Prop := fun o Y I W => ∃ hist β1, o = .ob A.sg hist A.go ∧ Rel X' β1 { s := okS rh σ.s [], g := [], h := hhOf A rh hist } aJ W ∧ A.inv hist ∧
  (∀ q off, β1.m q off ↔ (I q off ∨ q = w.heap.size ∨ q = w.heap.size + 1)) ∧ (∀ q off, Y q off ↔ (Mt β1 (look (hhOf A rh hist)) q off ∧ ¬ I q off)) ∧ (∀ off, ¬ I w.heap.size off ∧ ¬ I (w.heap.size + 1) off) ∧
  W.heap[w.heap.size]? = some (Obj.deferred (some [])) ∧ ∃ st c, W.heap[w.heap.size + 1]? = some (.loop (rec st c)) ∧ (live A.go hist → st = .ready ∧ c = none) ∧ (¬ live A.go hist → st = .done ∧ ∃ q ∈ A.js, c = some q.1.code ∧ q.2 hist)
 -- at the start
 let β1 : Bt := { β with m := fun q off => I1 q off ∨ q = w.heap.size ∨ q = w.heap.size + 1 }
 let Y1 : CM := fun q off => Mt β1 (look (hhOf A rh [])) q off ∧ ¬ I1 q off
 have hhr0 : ∀ k o, look (hhOf A rh []) k = some o → look rh k = some o := fun k o h => (hhk [] k o h).elim (he0 k o) id
 have hR1 : Rel X' β1 { s := okS rh σ.s [], g := [], h := hhOf A rh [] } aJ W1 := by
  refine R.move (X' := X') (a' := aJ) (I := fun _ _ => False) rfl (fun _ => trivial) rfl rfl (fun k v h => (okS_sub h).2.1) (fun k o h => ((hrk k o).1 (hhr0 k o h)).2) (oks [] hi0) (okh [] hi0) hch1 (fun _ _ _ h => h.elim) (fun _ _ h => h.elim)
   (fun q off h => ?_) (fun q off hq h => ?_) (fun n q off hn hq h => ?_) ⟨rfl, rfl, rfl, Nat.le_refl _, fun _ _ _ => rfl⟩ ⟨fun n hn => (hhd [] hi0 n).2 hn, fun _ _ h => ⟨h, rfl, rfl⟩, fun n u _ h => ⟨u, h, .inl rfl⟩, rfl⟩ (fun _ _ h => h.elim)
   (fun _ => Evo.less fun q off h => ?_)
  ·rcases h with h | h | h
   ·have := hMlt q off (hI1 q off h); omega
   ·omega
   ·omega
  ·rcases h with h | h | h
   ·exact hI1 q off h
   ·omega
   ·omega
  ·have hn' := (hhd [] hi0 n).1 hn
   rcases h with h | h | h
   ·exact hI1r n q off hn' hq h
   ·have := R.hr.lt n q (hrne n hn').1 hq; omega
   ·have := R.hr.lt n q (hrne n hn').1 hq; omega
  ·rcases h with (h | h) | ⟨n, o, h1, h2⟩
   ·exact .inl (hI1 q off h)
   ·exact .inr h
   ·exact .inl (.inr ⟨n, o, ((hrk n o).1 (hhr0 n o h1)).2, h2⟩)
 have hJ0 : J (.ob A.sg [] A.go) Y1 I1 W1 := by
  refine ⟨[], β1, rfl, hR1, hi0, fun _ _ => Iff.rfl, fun _ _ => Iff.rfl, fun off => ⟨fun h => ?_, fun h => ?_⟩, hD1, .ready, none, hL1, fun _ => ⟨rfl, rfl⟩, fun h => absurd (.inl rfl) h⟩
  ·have := hMlt _ off (hI1 _ off h); omega
  ·have := hMlt _ off (hI1 _ off h); omega
 have hJob : ∀ {hist : List (tpl A.sg).T} {hist' : List (tpl A.sg).T}, HO.ob A.sg hist A.go = HO.ob A.sg hist' A.go → hist = hist' := fun h => by injection h
 -- what a loop promises
 have hY : YOk P A.sg A.go (w.heap.size + 1) J := by
  refine ⟨?_, ?_, ?_⟩
  ·rintro hist Y I W ⟨hist', β2, he, hR, hi, hm, hYM, hIn, _⟩
   exact ⟨0, (hYM _ _).2 ⟨.inl ((hm _ _).2 (.inr (.inr rfl))), (hIn 0).2⟩⟩
  ·rintro hist Y I I' W W' ⟨hist', β2, he, hR, hi, hm, hYM, hIn, hD, st, c, hL, hl1, hl2⟩ chg hI' hdis
   have e := hJob he
   subst e
   have hlt : ∀ q off, β2.m q off → q < W.heap.size := hR.hr.m0
   have hDl : w.heap.size + 1 < W.heap.size := hlt _ 0 ((hm _ _).2 (.inr (.inr rfl)))
   have hI'n : ∀ off, ¬ I' w.heap.size off ∧ ¬ I' (w.heap.size + 1) off := fun off => by
    refine ⟨fun h => ?_, fun h => ?_⟩
    ·rcases hI' _ off h with h | h
     ·exact (hIn off).1 h
     ·omega
    ·rcases hI' _ off h with h | h
     ·exact (hIn off).2 h
     ·omega
   refine ⟨hist, { β2 with m := fun q off => I' q off ∨ q = w.heap.size ∨ q = w.heap.size + 1 }, rfl, ?_, hi, fun _ _ => Iff.rfl, fun q off => ?_, hI'n, ?_, st, c, ?_, hl1, hl2⟩
   ·refine hR.move (X' := X') (a' := aJ) (I := I) rfl (fun _ => trivial) rfl rfl (fun k v h => h) (fun k o h => h) (oks hist hi) (okh hist hi) chg (fun q off n hq hn hb => hR.hr.fresh n q off hn hb ((hm _ _).2 (.inl hq))) (fun q off h => .inl ((hm _ _).2 (.inl h)))
     (fun q off h => ?_) (fun q off hq h => ?_) (fun n q off hn hq h => ?_) ⟨chg.sys.1.trans hR.fr.os, chg.sys.2.1.trans hR.fr.tape, chg.sys.2.2.trans hR.fr.output, Nat.le_trans hR.fr.size chg.size, fun _ _ h => absurd trivial h⟩ hR.be (fun _ _ h => h.elim) (fun e => hR.ev.trans e)
    ·rcases h with h | h | h
     ·rcases hI' q off h with h | h
      ·exact Nat.lt_of_lt_of_le (hlt q off ((hm _ _).2 (.inl h))) chg.size
      ·exact h.2
     ·have := chg.size; omega
     ·have := chg.size; omega
    ·rcases h with h | h
     ·rcases hI' q off h with h | h
      ·exact .inl ((hm _ _).2 (.inl h))
      ·omega
     ·exact .inl ((hm _ _).2 (.inr h))
    ·rcases h with h | h
     ·rcases hI' q off h with h | h
      ·exact hR.hr.fresh n q off hn hq ((hm _ _).2 (.inl h))
      ·have := hR.hr.lt n q hn hq; omega
     ·exact hR.hr.fresh n q off hn hq ((hm _ _).2 (.inr h))
   ·rw [hYM]
    constructor
    ·rintro ⟨h1, h2⟩
     refine ⟨?_, fun h => hdis q off off h ((hYM _ _).2 ⟨h1, h2⟩)⟩
     rcases h1 with h1 | h1
     ·rcases (hm _ _).1 h1 with h | h
      ·exact absurd h h2
      ·exact .inl (.inr h)
     ·exact .inr h1
    ·rintro ⟨h1, h2⟩
     rcases h1 with (h1 | h1) | ⟨n, o, g1, g2⟩
     ·exact absurd h1 h2
     ·refine ⟨.inl ((hm _ _).2 (.inr h1)), fun h => ?_⟩
      rcases h1 with rfl | rfl
      ·exact (hIn off).1 h
      ·exact (hIn off).2 h
     ·refine ⟨.inr ⟨n, o, g1, g2⟩, fun h => ?_⟩
      exact hR.hr.fresh n q off (by rw [g1]; simp) (g2.elim (fun h => .inl h.1) fun h => .inr ⟨off, h⟩) ((hm _ _).2 (.inl h))
   ·rw [chg.blk _ (by omega) fun off => (hIn off).1]; exact hD
   ·rw [chg.blk _ hDl fun off => (hIn off).2]; exact hL
  ·rintro hist Y I W x vals ⟨hist', β2, he, hR, hi, hm, hYM, hIn, hD, st, c, hL, hl1, hl2⟩ hIlt hdis hlive hargs
   have e := hJob he
   subst e
   obtain ⟨rfl, rfl⟩ := hl1 hlive.1
   have hlt : ∀ q off, β2.m q off → q < W.heap.size := hR.hr.m0
   have hml : ∀ off, β2.m (w.heap.size + 1) off := fun off => (hm _ _).2 (.inr (.inr rfl))
   have hmD : ∀ off, β2.m w.heap.size off := fun off => (hm _ _).2 (.inr (.inl rfl))
   have hyr := run_yield (P := P) (args := vals.toArray) hL (by rw [hrec]; simp [hargs.length, hps])
   refine ⟨fn, _, as, bd, by rw [hrec] at hyr; exact hyr, roundIn_of_wpIn trivial ?_⟩
   have hRa : Rel (againX X β2 { s := okS rh σ.s [], g := [], h := hhOf A rh hist } W) β2 { s := okS rh σ.s [], g := [], h := hhOf A rh hist } aJ W :=
    ⟨hR.tn, trivial, Fr.refl, fun n j hn hj => .inl ⟨n, hn, hj⟩, BEvo.refl, fun _ _ h => h, hR.hr, Evo.refl, hR.sl, hR.gd⟩
   have hpr2 : β2.pr = P := hR.be.pr.trans (R.be.pr.trans hpr)
   refine wpIn_mono (hbody (w.heap.size + 1) hist x vals (againX X β2 { s := okS rh σ.s [], g := [], h := hhOf A rh hist } W) β2 W rfl hpr2 hi hlive (hargs.less fun q off h => ?_) hRa) ?_
   ·by_cases hI : I q off
    ·exact .inr hI
    ·exact .inl ((hYM q off).2 ⟨h, hI⟩)
   rintro e1 a1 w1 hK
   cases e1 with
   | normal =>
    obtain ⟨β3, σ3, R3, hgo⟩ := hK
    have hnB : ∀ q, (∃ off, β2.m q off) → ¬ ∃ n, look (hhOf A rh hist) n ≠ none ∧ bk β2 n q := fun q ⟨off, hq⟩ ⟨n, hn, hb⟩ => hR.hr.fresh n q off hn hb hq
    have hL3 : w1.heap[w.heap.size + 1]? = some (.loop (rec .ready none)) := by
     rw [R3.fr.block _ (hlt _ 0 (hml 0)) (hnB _ ⟨0, hml 0⟩)]; exact hL
    have hm3 : ∀ q off, β2.m q off → β3.m q off := R3.bm
    refine ⟨_, run_beginRound hL3 (by rw [hrec]), ?_⟩
    have R3' := R3.turn { rec .ready none with state := .busy } hL3 fun off => hm3 _ _ (hml off)
    refine wpIn_mono (hgo (againX (againX X β2 { s := okS rh σ.s [], g := [], h := hhOf A rh hist } W) β3 σ3 (w1.putObj (w.heap.size + 1) (.loop { rec .ready none with state := .busy }))) _ β3 rfl (R3.be.pr.trans hpr2) R3') ?_
    rintro e2 a3 w3 ⟨β4, σ4, R4, hi4, he4, hcase⟩
    have hm4 : ∀ q off, β2.m q off → β4.m q off := fun q off h => R4.bm q off (hm3 q off h)
    have hL4 : w3.heap[w.heap.size + 1]? = some (.loop { rec .ready none with state := .busy }) := by
     have h1 : (w1.putObj (w.heap.size + 1) (.loop { rec .ready none with state := .busy })).heap[w.heap.size + 1]? = some (.loop { rec .ready none with state := .busy }) := World.putObj_heap_same (Array.getElem?_eq_some_iff.1 hL3).1
     rw [R4.fr.block _ (by simpa using (Array.getElem?_eq_some_iff.1 hL3).1) fun ⟨n, hn, hb⟩ => R3.hr.fresh n _ 0 hn hb (hm3 _ _ (hml 0))]
     exact h1
    -- what is left as it was
    have keep : ∀ q, q < W.heap.size → q ≠ w.heap.size + 1 → (∃ off, β2.m q off) → w3.heap[q]? = W.heap[q]? := fun q hq hne ⟨off, hqm⟩ => by
     rw [R4.fr.block q (by simpa using Nat.lt_of_lt_of_le hq R3.fr.size) fun ⟨n, hn, hb⟩ => R3.hr.fresh n q off hn hb (hm3 _ _ hqm), World.putObj_heap_other hne]
     exact R3.fr.block q hq (hnB q ⟨off, hqm⟩)
    have hE1 : Evo (Mt β3 (look σ3.h)) (Mt β3 (look σ3.h)) w1 (w1.putObj (w.heap.size + 1) (.loop { rec .ready none with state := .busy })) := Evo.turn _ hL3 fun off => .inl (hm3 _ _ (hml off))
    have hE : Evo (Mt β2 (look (hhOf A rh hist))) (Mt β4 (look σ4.h)) W w3 := R3.ev.trans (hE1.trans R4.ev)
    have hB : BEvo β2 β4 (dm (look (hhOf A rh hist))) (dm (look σ4.h)) := R3.be.trans R4.be
    -- the end of a round
    have fin : ∀ (st' : LoopState) (jump : Option Code), (live A.go (hist ++ [x]) → st' = .ready ∧ jump = none) → (¬ live A.go (hist ++ [x]) → st' = .done ∧ ∃ q ∈ A.js, jump = some q.1.code ∧ q.2 (hist ++ [x])) →
      ∃ Y', J (.ob A.sg (hist ++ [x]) A.go) Y' I (w3.putObj (w.heap.size + 1) (.loop (rec st' jump))) ∧ Chg Y W (w3.putObj (w.heap.size + 1) (.loop (rec st' jump))) ∧ (∀ q off, Y' q off → (∃ off', Y q off') ∨ W.heap.size ≤ q) ∧
       (∀ q off, q < W.heap.size → Y' q off → Y q off) ∧ ∀ q off, Y' q off → q < (w3.putObj (w.heap.size + 1) (.loop (rec st' jump))).heap.size := by
     intro st' jump hs1 hs2
     obtain ⟨w', hw'⟩ : ∃ w', w3.putObj (w.heap.size + 1) (.loop (rec st' jump)) = w' := ⟨_, rfl⟩
     rw [hw']
     have hE2 : Evo (Mt β4 (look σ4.h)) (Mt β4 (look σ4.h)) w3 w' := by rw [← hw']; exact Evo.turn _ hL4 fun off => .inl (hm4 _ _ (hml off))
     have hsz' : w'.heap.size = w3.heap.size := by rw [← hw']; simp
     have hother : ∀ q, q ≠ w.heap.size + 1 → w'.heap[q]? = w3.heap[q]? := fun q hq => by rw [← hw']; exact World.putObj_heap_other hq
     have hE3 := hE.trans hE2
     have keep' : ∀ q, q < W.heap.size → q ≠ w.heap.size + 1 → (∃ off, β2.m q off) → w'.heap[q]? = W.heap[q]? := fun q hq hne h => (hother q hne).trans (keep q hq hne h)
     have hinh : ∀ k o, look (hhOf A rh (hist ++ [x])) k = some o → look σ4.h k = some o := he4
     have hin4 : ∀ n, look (hhOf A rh (hist ++ [x])) n ≠ none → look σ4.h n ≠ none := fun n hn => by
      cases ho : look (hhOf A rh (hist ++ [x])) n with
      | none => exact absurd ho hn
      | some o => rw [hinh n o ho]; simp
     have hless : ∀ q off, Mt { β4 with m := β2.m } (look (hhOf A rh (hist ++ [x]))) q off → Mt β4 (look σ4.h) q off := fun q off h => by
      rcases h with h | ⟨n, o, h1, h2⟩
      ·exact .inl (hm4 q off h)
      ·exact .inr ⟨n, o, hinh n o h1, h2⟩
     have hltw : ∀ q off, β2.m q off → q < w'.heap.size := fun q off h => Nat.lt_of_lt_of_le (hlt q off h) hE3.size
     have R5 : Rel X' { β4 with m := β2.m } { s := okS rh σ.s [], g := [], h := hhOf A rh (hist ++ [x]) } aJ w' := by
      refine R4.move2 (X' := X') (a' := aJ) (I := fun q _ => q = w.heap.size + 1) (fun _ => trivial) hR.tn rfl hinh (okh _ hi4) ⟨hE2.size, fun p _ hn => cell_of_heap (hother _ hn), fun q _ hn => hother q (hn 0), hE2.sys⟩
       (fun q off n hq hn hb => by subst hq; exact R4.hr.fresh n _ 0 (hin4 n hn) hb (hm4 _ _ (hml 0))) (fun q off hq => by subst hq; exact .inl (hm4 _ _ (hml off))) hltw (fun q off _ h => .inl (hm4 q off h))
       (fun n q off hn hq h => R4.hr.fresh n q off (hin4 n hn) hq (hm4 q off h)) ⟨hE3.sys.1.trans hR.fr.os, hE3.sys.2.1.trans hR.fr.tape, hE3.sys.2.2.trans hR.fr.output, Nat.le_trans hR.fr.size hE3.size, fun _ _ h => absurd trivial h⟩
       ?_ (fun _ _ h => h.elim) (fun _ => hR.ev.trans (hE3.trans (Evo.less hless))) (fun _ t v h => ⟨(hR.sl t v h).1, ?_⟩)
      ·have hbb := hR.be.trans hB
       exact ⟨fun n hn => (hhd _ hi4 n).2 hn, hbb.b, hbb.o, hbb.pr⟩
      ·exact VA.mv (β := β4) (β' := { β4 with m := β2.m }) (Evo.less hless) (fun _ _ => ⟨rfl, rfl⟩) (VA.evo hE3 hB (hR.sl t v h).2) (oks _ hi4 t v h)
     have hYY : ∀ q off, q < W.heap.size → (Mt { β4 with m := β2.m } (look (hhOf A rh (hist ++ [x]))) q off ∧ ¬ I q off) → Y q off := fun q off hq ⟨h1, h2⟩ => by
      refine (hYM q off).2 ⟨?_, h2⟩
      by_cases hM : Mt β2 (look (hhOf A rh hist)) q off
      ·exact hM
      ·exact absurd (hless q off h1) (hE3.mt q off hq hM)
     have hIm : ∀ q off, I q off → β2.m q off ∧ q ≠ w.heap.size + 1 := fun q off h => ⟨(hm _ _).2 (.inl h), fun e => (hIn off).2 (e ▸ h)⟩
     refine ⟨fun q off => Mt { β4 with m := β2.m } (look (hhOf A rh (hist ++ [x]))) q off ∧ ¬ I q off, ⟨hist ++ [x], { β4 with m := β2.m }, rfl, R5, hi4, hm, fun _ _ => Iff.rfl, hIn, ?_, st', jump, ?_, hs1, hs2⟩, ⟨hE3.size, fun p hp hn => ?_, fun q hq hn => ?_, hE3.sys⟩, fun q off h => ?_, hYY, fun q off h => ?_⟩
     ·rw [keep' _ (hlt _ 0 (hmD 0)) (by omega) ⟨0, hmD 0⟩]; exact hD
     ·rw [← hw']; exact World.putObj_heap_same (Array.getElem?_eq_some_iff.1 hL4).1
     ·by_cases hI : I p.block p.off
      ·exact cell_of_heap (keep' _ hp (hIm _ _ hI).2 ⟨_, (hIm _ _ hI).1⟩)
      ·exact hE3.cell p hp fun hM => hn ((hYM _ _).2 ⟨hM, hI⟩)
     ·by_cases hM : ∃ off, Mt β2 (look (hhOf A rh hist)) q off
      ·obtain ⟨off, hM⟩ := hM
       have hI : I q off := by
        by_cases hI : I q off
        ·exact hI
        ·exact absurd ((hYM _ _).2 ⟨hM, hI⟩) (hn off)
       exact keep' _ hq (hIm _ _ hI).2 ⟨_, (hIm _ _ hI).1⟩
      ·exact hE3.blk q hq fun off h => hM ⟨off, h⟩
     ·by_cases hq : q < W.heap.size
      ·exact .inl ⟨off, hYY q off hq h⟩
      ·exact .inr (Nat.le_of_not_lt hq)
     ·rcases h.1 with h | ⟨n, o, h1, h2⟩
      ·exact hltw q off h
      ·exact R5.hr.lt n q (by show look (hhOf A rh (hist ++ [x])) n ≠ none; rw [h1]; simp) (h2.elim (fun h => .inl h.1) fun h => .inr ⟨off, h⟩)
    have hend : ∀ jump, (Instr.endRound (w.heap.size + 1) jump).run P w3 = .ok (.bool jump.isNone) (w3.putObj (w.heap.size + 1) (.loop (rec (if jump.isNone then .ready else .done) jump))) := fun jump => by
     have := run_endRound (P := P) jump hL4
     rw [hrec] at this ⊢
     exact this
    have hnl : A.go (hist ++ [x]) = false → ¬ live A.go (hist ++ [x]) := fun h hl => by
     rcases hl with hl | hl
     ·simp at hl
     ·rw [h] at hl; cases hl
    rcases hcase with ⟨rfl, hgo'⟩ | ⟨hgo', q, hq, hqe, rfl, hq2⟩
    ·refine ⟨_, _, hend none, by rw [hgo']; rfl, fin .ready none (fun _ => ⟨rfl, rfl⟩) fun h => absurd (.inr hgo') h⟩
    ·rcases hqe with he | ⟨id, he⟩
     ·rw [he]
      exact ⟨_, _, hend (some .ret), by rw [hgo']; rfl, fin .done (some .ret) (fun h => absurd h (hnl hgo')) fun _ => ⟨rfl, q, hq, by rw [he]; rfl, hq2⟩⟩
     ·rw [he]
      exact ⟨_, _, hend (some (.exit id)), by rw [hgo']; rfl, fin .done (some (.exit id)) (fun h => absurd h (hnl hgo')) fun _ => ⟨rfl, q, hq, by rw [he]; rfl, hq2⟩⟩
   | exit id => exact hK.elim
   | goto t => exact hK.elim
   | ret => exact hK.elim
   | panic ch => exact hK.elim
   | outgrown => exact hK.elim
 have hpr' : β.pr = P := R.be.pr.trans hpr
 have hylh : look lh y = none := by
  cases ho : look lh y with
  | none => rfl
  | some o => rw [((hlk y o).1 ho).2] at hy; cases hy
 have hyrh : look rh y = none := by
  cases ho : look rh y with
  | none => rfl
  | some o => rw [((hrk y o).1 ho).2] at hy; cases hy
 -- the iterator's own names
 let βi : Bt := ⟨fun n => if n = y then some (w.heap.size + 1) else β n, fun n => if n = y then none else β.o n, β.m, fun n => if n = y then Y1 else β.ym n, fun n => if n = y then J else β.yj n, β.pr⟩
 have hiy : βi y = some (w.heap.size + 1) ∧ βi.o y = none ∧ βi.ym y = Y1 ∧ βi.yj y = J := by simp [βi]
 have hio : ∀ n, n ≠ y → βi n = β n ∧ βi.o n = β.o n ∧ βi.ym n = β.ym n ∧ βi.yj n = β.yj n := fun n hn => by simp [βi, hn]
 have hpy : look ((y, HO.ob A.sg [] A.go) :: lh) y = some (.ob A.sg [] A.go) := by rw [look_cons, if_pos rfl]
 have hpo : ∀ n, n ≠ y → look ((y, HO.ob A.sg [] A.go) :: lh) n = look lh n := fun n hn => by rw [look_cons, if_neg (Ne.symm hn)]
 have hlny : ∀ n, look lh n ≠ none → n ≠ y := fun n hn e => hn (e ▸ hylh)
 have hbki : ∀ n k, n ≠ y → (bk βi n k ↔ bk β n k) := fun n k hn => by unfold bk; rw [(hio n hn).1, (hio n hn).2.2.1]
 -- the loop's cells
 have hY1c : ∀ q off, Y1 q off → (q = w.heap.size ∨ q = w.heap.size + 1) ∨ ∃ n o, look rh n = some o ∧ ((β n = some q ∧ o.mut off) ∨ β.ym n q off) := fun q off ⟨h1, h2⟩ => by
  rcases h1 with (h1 | h1) | ⟨n, o, g1, g2⟩
  ·exact absurd h1 h2
  ·exact .inl h1
  ·exact .inr ⟨n, o, hhr0 n o g1, g2⟩
 have hYI : ∀ q off off', I1 q off → ¬ Y1 q off' := fun q off off' h h' => by
  rcases hY1c q off' h' with h1 | ⟨n, o, g1, g2⟩
  ·have := hMlt q off (hI1 q off h); omega
  ·exact hI1r n q off (by rw [g1]; simp) (g2.elim (fun h => .inl h.1) fun h => .inr ⟨off', h⟩) h
 have hbky : ∀ k, bk βi y k → k = w.heap.size + 1 ∨ ∃ off, Y1 k off := fun k h => by
  rcases h with h | ⟨off, h⟩
  ·rw [hiy.1] at h; injection h with h; exact .inl h.symm
  ·rw [hiy.2.2.1] at h; exact .inr ⟨off, h⟩
 have hbkold : ∀ k, k < w.heap.size → bk βi y k → ∃ n, look rh n ≠ none ∧ bk β n k := fun k hk h => by
  rcases hbky k h with h | ⟨off, h⟩
  ·omega
  ·rcases hY1c k off h with h1 | ⟨n, o, g1, g2⟩
   ·omega
   ·exact ⟨n, by rw [g1]; simp, g2.elim (fun h => .inl h.1) fun h => .inr ⟨off, h⟩⟩
 have hMi : ∀ q off, Mt βi (look ((y, HO.ob A.sg [] A.go) :: lh)) q off → I1 q off ∨ Y1 q off := fun q off h => by
  rcases h with h | ⟨n, o, h1, h2⟩
  ·exact .inl (.inl h)
  ·by_cases hn : n = y
   ·subst hn
    rw [hpy] at h1; injection h1 with h1; subst h1
    rcases h2 with ⟨_, h2⟩ | h2
    ·exact h2.elim
    ·rw [hiy.2.2.1] at h2; exact .inr h2
   ·rw [hpo n hn] at h1
    rw [(hio n hn).1, (hio n hn).2.2.1] at h2
    exact .inl (.inr ⟨n, o, h1, h2⟩)
 have hY1M : ∀ q off, q < w.heap.size → Y1 q off → Mt β (look σ.h) q off := fun q off hq h => by
  rcases hY1c q off h with h1 | ⟨n, o, g1, g2⟩
  ·omega
  ·exact .inr ⟨n, o, ((hrk n o).1 g1).2, g2⟩
 have hE0 : Evo (Mt β (look σ.h)) (Mt βi (look ((y, HO.ob A.sg [] A.go) :: lh))) w W1 :=
  ⟨hch1.size, fun p hp _ => hch1.cell p hp id, fun q off hq hn h => hn ((hMi q off h).elim (hI1 q off) (hY1M q off hq)), fun q hq _ => hold q hq, hsys1⟩
 have hil : ∀ n k, look ((y, HO.ob A.sg [] A.go) :: lh) n ≠ none → bk βi n k → k < W1.heap.size := fun n k hn hk => by
  by_cases h : n = y
  ·subst h
   rcases hbky k hk with h | ⟨off, h⟩
   ·omega
   ·rcases hY1c k off h with h1 | ⟨n', o, g1, g2⟩
    ·omega
    ·have := R.hr.lt n' k (by rw [((hrk n' o).1 g1).2]; simp) (g2.elim (fun h => .inl h.1) fun h => .inr ⟨off, h⟩); omega
  ·rw [hpo n h] at hn
   have := R.hr.lt n k (hlne n hn).1 ((hbki n k h).1 hk); omega
 have hif : ∀ n k off, look ((y, HO.ob A.sg [] A.go) :: lh) n ≠ none → bk βi n k → ¬ βi.m k off := fun n k off hn hk hM => by
  have hM' : β.m k off := hM
  by_cases h : n = y
  ·subst h
   have hk' := R.hr.m0 k off hM'
   obtain ⟨n', h1, h2⟩ := hbkold k hk' hk
   exact R.hr.fresh n' k off (hrne n' h1).1 h2 hM'
  ·rw [hpo n h] at hn
   exact R.hr.fresh n k off (hlne n hn).1 ((hbki n k h).1 hk) hM'
 have hix : ∀ n k, look lh n ≠ none → bk β n k → bk βi y k → False := fun n k hn hk hy' => by
  obtain ⟨n', h1, h2⟩ := hbkold k (R.hr.lt n k (hlne n hn).1 hk) hy'
  have := R.hr.inj n n' k (hlne n hn).1 (hrne n' h1).1 hk h2
  subst this
  have e1 := (hlne n hn).2
  have e2 := (hrne n h1).2
  rw [e1] at e2; cases e2
 have hii : ∀ n m k, look ((y, HO.ob A.sg [] A.go) :: lh) n ≠ none → look ((y, HO.ob A.sg [] A.go) :: lh) m ≠ none → bk βi n k → bk βi m k → n = m := fun n m k hn hm h1 h2 => by
  by_cases e1 : n = y <;> by_cases e2 : m = y
  ·rw [e1, e2]
  ·subst e1; rw [hpo m e2] at hm; exact (hix m k hm ((hbki m k e2).1 h2) h1).elim
  ·subst e2; rw [hpo n e1] at hn; exact (hix n k hn ((hbki n k e1).1 h1) h2).elim
  ·rw [hpo n e1] at hn; rw [hpo m e2] at hm
   exact R.hr.inj n m k (hlne n hn).1 (hlne m hm).1 ((hbki n k e1).1 h1) ((hbki m k e2).1 h2)
 have hdm : ∀ n, dm (look lh) n → dm (look ((y, HO.ob A.sg [] A.go) :: lh)) n := fun n hn => by unfold dm at hn ⊢; rw [hpo n (hlny n hn)]; exact hn
 have him : ∀ q off, βi.m q off → q < W1.heap.size := fun q off h => by have := R.hr.m0 q off h; omega
 have hHi : HR βi (look ((y, HO.ob A.sg [] A.go) :: lh)) W1 := by
  refine ⟨him, hil, hif, hii, fun n o hn ho => ?_, fun n o hn => ?_, R.hr.gl.evo hE0⟩
  ·by_cases h : n = y
   ·subst h; rw [hpy] at hn; injection hn with hn; subst hn; cases ho
   ·rw [hpo n h] at hn
    rw [(hio n h).2.2.1]
    exact R.hr.ye n o ((hlk n o).1 hn).2 ho
  ·by_cases h : n = y
   ·subst h
    rw [hpy] at hn; injection hn with hn; subst hn
    refine ⟨hiy.2.1, _, hiy.1, by show YOk β.pr _ _ _ _; rw [hpr', hiy.2.2.2]; exact hY, ?_⟩
    rw [hiy.2.2.1, hiy.2.2.2]
    refine hY.stay _ _ _ _ _ _ hJ0 ⟨Nat.le_refl _, fun _ _ _ => rfl, fun _ _ _ => rfl, rfl, rfl, rfl⟩ (fun q off hq => .inl ((hMi q off hq.1).resolve_right hq.2)) (fun q off off' hq => hYI q off off' ((hMi q off hq.1).resolve_right hq.2))
   ·have hn' := hn
    rw [hpo n h] at hn
    have hnn : look lh n ≠ none := by rw [hn]; simp
    have h1 := (R.hr.blk n o ((hlk n o).1 hn).2).mv (h' := lh) (β' := βi) hE0 (fun n hn => ⟨(hio n (hlny n hn)).1, (hio n (hlny n hn)).2.1⟩) hnn (hio n h).2.2.1 (hio n h).2.2.2 rfl
     (fun q hq => hold q (R.hr.lt n q (hlne n hnn).1 hq)) (heapOk_sound okl (look_mem hn)) (fun hob => dis_of him hil hif hii hn' hob)
    exact h1.evo Evo.refl ⟨hdm, fun _ _ h => ⟨h, rfl, rfl⟩, fun n u _ h => ⟨u, h, .inl rfl⟩, rfl⟩ rfl rfl rfl rfl (fun _ _ => rfl) (fun hob => dis_of him hil hif hii hn' hob)
 have hargs : All2 (VT W1 (Mt βi (look ((y, HO.ob A.sg [] A.go) :: lh))) βi (dm (look ((y, HO.ob A.sg [] A.go) :: lh)))) (.one (.yl y) :: ptrs ca) (.func (.yield (w.heap.size + 1)) #[] #[] :: vc) := by
  refine .cons (VL.yl (by unfold dm; rw [hpy]; simp) hiy.2.1 hiy.1) ?_
  have h3 := PVs.mv (β' := βi) (h' := lh) (fun n hn => ⟨(hio n (hlny n hn)).1, (hio n (hlny n hn)).2.1⟩) h2 okc
  exact ptrs_sound (h3.mono fun _ _ _ h => h.evo ⟨hdm, fun _ _ h => ⟨h, rfl, rfl⟩, fun n u _ h => ⟨u, h, .inl rfl⟩, rfl⟩)
 have hcall := hok.call _ _ _ _ _ _ hcon hcs W1 βi _ hpr' hHi hargs
 refine ⟨w.heap.size + 1, [{ target := .collected w.heap.size, args := #[] }], W1, { target := .fn (.func f) vc.toArray, args := #[.func (.yield (w.heap.size + 1)) #[] #[]] }, W1, f, (.func (.yield (w.heap.size + 1)) #[] #[] :: vc).toArray, W1, ?_, ?_, fun f' _ => hF.fn f', ?_,
  (fun h => by rw [hF.dp] at h; cases h), callsIn_of_calls hF (hcall.mono ?_)⟩
 ·rw [← hW1, hrec]; exact run_enterLoop_outer _ _ _ _ _
 ·simp only [resolve, hev]
  simp [go_sem]
 ·have := hok.enter (.func (.yield (w.heap.size + 1)) #[] #[] :: vc).toArray W1
  simp only [invoke]
  simpa [go_sem] using this
 rintro e w2 ⟨v, rfl, post⟩
 obtain ⟨β2, hb, hbm, hhr, _, hown, hevo⟩ := post.ex
 have hupd : upd (look ((y, HO.ob A.sg [] A.go) :: lh)) [(y, .ob A.sg H A.go)] = look ((y, HO.ob A.sg H A.go) :: lh) := by
  funext n
  show (match look [(y, HO.ob A.sg H A.go)] n with | some x => some x | none => look ((y, HO.ob A.sg [] A.go) :: lh) n) = _
  rw [look_cons, look_cons, look_cons]
  by_cases h : y = n
  ·simp [h]
  ·simp [h, look]
 rw [hupd] at hb hhr hown hevo
 have hqy : look ((y, HO.ob A.sg H A.go) :: lh) y = some (.ob A.sg H A.go) := by rw [look_cons, if_pos rfl]
 have hqo : ∀ n, n ≠ y → look ((y, HO.ob A.sg H A.go) :: lh) n = look lh n := fun n hn => by rw [look_cons, if_neg (Ne.symm hn)]
 have hql : ∀ n, look lh n ≠ none → look ((y, HO.ob A.sg H A.go) :: lh) n ≠ none := fun n hn => by rw [hqo n (hlny n hn)]; exact hn
 have hqyn : look ((y, HO.ob A.sg H A.go) :: lh) y ≠ none := by rw [hqy]; simp
 obtain ⟨_, k2, hk2, _, hJH⟩ := hhr.blk y _ hqy
 obtain ⟨_, hb2, hb3⟩ := hb.b y (by unfold dm; rw [hpy]; simp) hiy.2.1
 rw [hb3, hiy.2.2.2] at hJH
 obtain ⟨hist', β3, he, hR3, hiH, hm3, hYM3, hIn3, hD3, st, c, hL3, hl1, hl2⟩ := hJH
 have e := hJob he
 subst e
 have hY2I : ∀ q off, Mt β3 (look (hhOf A rh H)) q off → Mt β2 (look ((y, HO.ob A.sg H A.go) :: lh)) q off := fun q off h => by
  by_cases hI : Mt β2 (look ((y, HO.ob A.sg H A.go) :: lh)) q off ∧ ¬ β2.ym y q off
  ·exact hI.1
  ·exact .inr ⟨y, _, hqy, .inr ((hYM3 q off).2 ⟨h, hI⟩)⟩
 have hYl : ∀ off, β2.ym y (w.heap.size + 1) off := fun off => (hYM3 _ _).2 ⟨.inl ((hm3 _ _).2 (.inr (.inr rfl))), (hIn3 off).2⟩
 have hYD : ∀ off, β2.ym y w.heap.size off := fun off => (hYM3 _ _).2 ⟨.inl ((hm3 _ _).2 (.inr (.inl rfl))), (hIn3 off).1⟩
 have hmI : ∀ q off, β.m q off → β3.m q off := fun q off h => (hm3 q off).2 (.inl ⟨.inl (hbm q off h), fun h' => hhr.fresh y q off hqyn (.inr ⟨off, h'⟩) (hbm q off h)⟩)
 -- the loop is over
 obtain ⟨w3, hw3⟩ : ∃ w3, w2.putObj (w.heap.size + 1) (.loop { rec st c with state := .exhausted }) = w3 := ⟨_, rfl⟩
 have hl2lt : w.heap.size + 1 < w2.heap.size := (Array.getElem?_eq_some_iff.1 hL3).1
 have hsz3 : w3.heap.size = w2.heap.size := by rw [← hw3]; simp
 have hoth3 : ∀ q, q ≠ w.heap.size + 1 → w3.heap[q]? = w2.heap[q]? := fun q hq => by rw [← hw3]; exact World.putObj_heap_other hq
 have hsys3 : w3.os = w2.os ∧ w3.tape = w2.tape ∧ w3.output = w2.output := by rw [← hw3]; exact ⟨rfl, rfl, rfl⟩
 have hst : st ≠ .busy := by
  by_cases hl : live A.go H
  ·rw [(hl1 hl).1]; simp
  ·rw [(hl2 hl).1]; simp
 -- the state behind the loop
 let βf : Bt := ⟨fun n => if mem ln n = true then β2 n else β3 n, fun n => if mem ln n = true then β2.o n else β3.o n, fun q off => β.m q off ∨ q = w.heap.size, fun n => if mem ln n = true then β2.ym n else β3.ym n, fun n => if mem ln n = true then β2.yj n else β3.yj n, β.pr⟩
 have hft : ∀ n, mem ln n = true → βf n = β2 n ∧ βf.o n = β2.o n ∧ βf.ym n = β2.ym n ∧ βf.yj n = β2.yj n := fun n hn => by simp [βf, hn]
 have hff : ∀ n, mem ln n = false → βf n = β3 n ∧ βf.o n = β3.o n ∧ βf.ym n = β3.ym n ∧ βf.yj n = β3.yj n := fun n hn => by simp [βf, hn]
 have hbt : ∀ n k, mem ln n = true → (bk βf n k ↔ bk β2 n k) := fun n k hn => by unfold bk; rw [(hft n hn).1, (hft n hn).2.2.1]
 have hbf : ∀ n k, mem ln n = false → (bk βf n k ↔ bk β3 n k) := fun n k hn => by unfold bk; rw [(hff n hn).1, (hff n hn).2.2.1]
 have hrl : ∀ n, mem ln n = false → look rh n = look σ.h n := fun n hn => by
  cases ho : look σ.h n with
  | none =>
   cases ho' : look rh n with
   | none => rfl
   | some o => rw [((hrk n o).1 ho').2] at ho; cases ho
  | some o => exact (hrk n o).2 ⟨hn, ho⟩
 have hll : ∀ n, mem ln n = true → look lh n = look σ.h n := fun n hn => by
  cases ho : look σ.h n with
  | none =>
   cases ho' : look lh n with
   | none => rfl
   | some o => rw [((hlk n o).1 ho').2] at ho; cases ho
  | some o => exact (hlk n o).2 ⟨hn, ho⟩
 have hAln : ∀ n o, look (A.h H) n = some o → mem ln n = false := fun n o h => (hrne n (namesIn_spec (hnm H hiH).1 n o (look_mem h))).2
 have hgt : ∀ n, mem ln n = true → look (A.h H ++ dropH (A.h H) σ.h) n = look lh n := fun n hn => by
  rw [look_append]
  cases ho : look (A.h H) n with
  | some o => rw [hAln n o ho] at hn; cases hn
  | none => rw [dropH_sub ho, hll n hn]
 have hgf : ∀ n, mem ln n = false → look (A.h H ++ dropH (A.h H) σ.h) n = look (hhOf A rh H) n := fun n hn => by
  rw [look_append, look_append]
  cases ho : look (A.h H) n with
  | some o => rfl
  | none => rw [dropH_sub ho, dropH_sub ho, hrl n hn]
 have hmt : ∀ n, mem ln n = true ∨ mem ln n = false := fun n => by cases mem ln n <;> simp
 have hlhn : ∀ n, mem ln n = true → n ≠ y ∨ look lh n = none := fun n _ => by
  by_cases e : n = y
  ·exact .inr (e ▸ hylh)
  ·exact .inl e
 have hYb : ∀ n k, mem ln n = false → look (hhOf A rh H) n ≠ none → bk β3 n k → bk β2 y k := fun n k hn hnn hk => by
  cases ho : look (hhOf A rh H) n with
  | none => exact absurd ho hnn
  | some o =>
   obtain ⟨off, h⟩ := hR3.hr.bkM ho hk
   refine .inr ⟨off, (hYM3 k off).2 ⟨h, fun hI => ?_⟩⟩
   exact hR3.hr.fresh n k off hnn hk ((hm3 k off).2 (.inl hI))
 have hMf : ∀ q off, Mt βf (look (A.h H ++ dropH (A.h H) σ.h)) q off → Mt β2 (look ((y, HO.ob A.sg H A.go) :: lh)) q off := fun q off h => by
  rcases h with (h | rfl) | ⟨n, o, h1, h2⟩
  ·exact .inl (hbm q off h)
  ·exact .inr ⟨y, _, hqy, .inr (hYD off)⟩
  ·rcases hmt n with hn | hn
   ·rw [hgt n hn] at h1
    rw [(hft n hn).1, (hft n hn).2.2.1] at h2
    exact .inr ⟨n, o, by rw [hqo n (hlny n (by rw [h1]; simp))]; exact h1, h2⟩
   ·rw [hgf n hn] at h1
    rw [(hff n hn).1, (hff n hn).2.2.1] at h2
    exact hY2I q off (.inr ⟨n, o, h1, h2⟩)
 have hE3 : Evo (Mt β2 (look ((y, HO.ob A.sg H A.go) :: lh))) (Mt βf (look (A.h H ++ dropH (A.h H) σ.h))) w2 w3 := by
  have : Evo (Mt β2 (look ((y, HO.ob A.sg H A.go) :: lh))) (Mt β2 (look ((y, HO.ob A.sg H A.go) :: lh))) w2 w3 := by rw [← hw3]; exact Evo.turn _ hL3 fun off => .inr ⟨y, _, hqy, .inr (hYl off)⟩
  exact this.trans (Evo.less hMf)
 have hE := hE0.trans (hevo.trans hE3)
 have hBE : BEvo β βf (dm (look σ.h)) (dm (look (A.h H ++ dropH (A.h H) σ.h))) := by
  refine ⟨fun n hn => ?_, fun n hn h0 => ?_, fun n u hn hu => ?_, rfl⟩
  ·unfold dm at hn ⊢
   rcases hmt n with h | h
   ·rw [hgt n h, hll n h]; exact hn
   ·rw [hgf n h]; exact (hhd H hiH n).2 (by unfold dm; rw [hrl n h]; exact hn)
  ·rcases hmt n with h | h
   ·have hl : look lh n ≠ none := by rw [hll n h]; exact hn
    obtain ⟨g1, g2, g3⟩ := hb.b n (hdm n hl) ((hio n (hlny n hl)).2.1.trans h0)
    exact ⟨(hft n h).2.1.trans g1, (hft n h).1.trans (g2.trans (hio n (hlny n hl)).1), (hft n h).2.2.2.trans (g3.trans (hio n (hlny n hl)).2.2.2)⟩
   ·obtain ⟨g1, g2, g3⟩ := hR3.be.b n (show dm (look rh) n by unfold dm; rw [hrl n h]; exact hn) h0
    exact ⟨(hff n h).2.1.trans g1, (hff n h).1.trans g2, (hff n h).2.2.2.trans g3⟩
  ·rcases hmt n with h | h
   ·have hl : look lh n ≠ none := by rw [hll n h]; exact hn
    obtain ⟨u', g1, g2⟩ := hb.o n u (hdm n hl) ((hio n (hlny n hl)).2.1.trans hu)
    exact ⟨u', (hft n h).2.1.trans g1, g2⟩
   ·obtain ⟨u', g1, g2⟩ := hR3.be.o n u (show dm (look rh) n by unfold dm; rw [hrl n h]; exact hn) hu
    exact ⟨u', (hff n h).2.1.trans g1, g2⟩
 have hsz12 : W1.heap.size ≤ w2.heap.size := hevo.size
 have hfm : ∀ q off, βf.m q off → q < w3.heap.size := fun q off h => by
  rcases (show β.m q off ∨ q = w.heap.size from h) with h | h
  ·have := R.hr.m0 q off h; omega
  ·omega
 have hfl : ∀ n k, look (A.h H ++ dropH (A.h H) σ.h) n ≠ none → bk βf n k → k < w3.heap.size := fun n k hn hk => by
  rw [hsz3]
  rcases hmt n with h | h
  ·rw [hgt n h] at hn; exact hhr.lt n k (hql n hn) ((hbt n k h).1 hk)
  ·rw [hgf n h] at hn; exact hR3.hr.lt n k hn ((hbf n k h).1 hk)
 have hfr : ∀ n k off, look (A.h H ++ dropH (A.h H) σ.h) n ≠ none → bk βf n k → ¬ βf.m k off := fun n k off hn hk hM => by
  have hM' : β.m k off ∨ k = w.heap.size := hM
  rcases hmt n with h | h
  ·rw [hgt n h] at hn
   have hk := (hbt n k h).1 hk
   rcases hM' with hM' | rfl
   ·exact hhr.fresh n k off (hql n hn) hk (hbm k off hM')
   ·exact hlny n hn (hhr.inj n y _ (hql n hn) hqyn hk (.inr ⟨0, hYD 0⟩))
  ·rw [hgf n h] at hn
   have hk := (hbf n k h).1 hk
   rcases hM' with hM' | rfl
   ·exact hR3.hr.fresh n k off hn hk (hmI k off hM')
   ·exact hR3.hr.fresh n _ 0 hn hk ((hm3 _ _).2 (.inr (.inl rfl)))
 have hfx : ∀ n m k, mem ln n = true → mem ln m = false → look lh n ≠ none → look (hhOf A rh H) m ≠ none → bk β2 n k → bk β3 m k → False := fun n m k hn hm hn' hm' h1 h2 =>
  hlny n hn' (hhr.inj n y k (hql n hn') hqyn h1 (hYb m k hm hm' h2))
 have hfi : ∀ n m k, look (A.h H ++ dropH (A.h H) σ.h) n ≠ none → look (A.h H ++ dropH (A.h H) σ.h) m ≠ none → bk βf n k → bk βf m k → n = m := fun n m k hn hm h1 h2 => by
  rcases hmt n with e1 | e1 <;> rcases hmt m with e2 | e2
  ·rw [hgt n e1] at hn; rw [hgt m e2] at hm
   exact hhr.inj n m k (hql n hn) (hql m hm) ((hbt n k e1).1 h1) ((hbt m k e2).1 h2)
  ·rw [hgt n e1] at hn; rw [hgf m e2] at hm
   exact (hfx n m k e1 e2 hn hm ((hbt n k e1).1 h1) ((hbf m k e2).1 h2)).elim
  ·rw [hgf n e1] at hn; rw [hgt m e2] at hm
   exact (hfx m n k e2 e1 hm hn ((hbt m k e2).1 h2) ((hbf n k e1).1 h1)).elim
  ·rw [hgf n e1] at hn; rw [hgf m e2] at hm
   exact hR3.hr.inj n m k hn hm ((hbf n k e1).1 h1) ((hbf m k e2).1 h2)
 have hMt3 : ∀ q off, Mt βf (look (A.h H ++ dropH (A.h H) σ.h)) q off → Mt β3 (look (hhOf A rh H)) q off := fun q off h => by
  rcases h with (h | rfl) | ⟨n, o, h1, h2⟩
  ·exact .inl (hmI q off h)
  ·exact .inl ((hm3 _ _).2 (.inr (.inl rfl)))
  ·rcases hmt n with hn | hn
   ·rw [hgt n hn] at h1
    rw [(hft n hn).1, (hft n hn).2.2.1] at h2
    have hnn : look lh n ≠ none := by rw [h1]; simp
    refine .inl ((hm3 q off).2 (.inl ⟨.inr ⟨n, o, by rw [hqo n (hlny n hnn)]; exact h1, h2⟩, fun h' => ?_⟩))
    exact hlny n hnn (hhr.inj n y q (hql n hnn) hqyn (h2.elim (fun h => .inl h.1) fun h => .inr ⟨off, h⟩) (.inr ⟨off, h'⟩))
   ·rw [hgf n hn] at h1
    rw [(hff n hn).1, (hff n hn).2.2.1] at h2
    exact .inr ⟨n, o, h1, h2⟩
 have hHf : HR βf (look (A.h H ++ dropH (A.h H) σ.h)) w3 := by
  refine ⟨hfm, hfl, hfr, hfi, fun n o hn ho => ?_, fun n o hn => ?_, by have := hhr.gl.evo hE3; rw [hb.pr.trans hpr'] at this; exact hpr' ▸ this⟩
  ·rcases hmt n with h | h
   ·rw [hgt n h] at hn
    rw [(hft n h).2.2.1]
    exact hhr.ye n o (by rw [hqo n (hlny n (by rw [hn]; simp))]; exact hn) ho
   ·rw [hgf n h] at hn
    rw [(hff n h).2.2.1]
    exact hR3.hr.ye n o hn ho
  ·have hn0 := hn
   rcases hmt n with h | h
   ·rw [hgt n h] at hn
    have hnn : look lh n ≠ none := by rw [hn]; simp
    have h1 := (hhr.blk n o (by rw [hqo n (hlny n hnn)]; exact hn)).mv (h' := lh) (β' := βf) hE3 (fun m hm => ⟨(hft m (hlne m hm).2).1, (hft m (hlne m hm).2).2.1⟩) hnn (hft n h).2.2.1 (hft n h).2.2.2 (hpr'.trans (hb.pr.trans hpr').symm)
     (fun q hq => hoth3 q fun e => hlny n hnn (hhr.inj n y q (hql n hnn) hqyn hq (.inr ⟨0, e ▸ hYl 0⟩))) (heapOk_sound okl (look_mem hn)) (fun hob => dis_of hfm hfl hfr hfi hn0 hob)
    exact h1.evo Evo.refl ⟨fun m hm => by unfold dm at hm ⊢; rw [hgt m (hlne m hm).2]; exact hm, fun _ _ h => ⟨h, rfl, rfl⟩, fun n u _ h => ⟨u, h, .inl rfl⟩, rfl⟩ rfl rfl rfl rfl (fun _ _ => rfl) (fun hob => dis_of hfm hfl hfr hfi hn0 hob)
   ·rw [hgf n h] at hn
    have hnn : look (hhOf A rh H) n ≠ none := by rw [hn]; simp
    have hE3' : Evo (Mt β3 (look (hhOf A rh H))) (Mt βf (look (A.h H ++ dropH (A.h H) σ.h))) w2 w3 := by
     have : Evo (Mt β3 (look (hhOf A rh H))) (Mt β3 (look (hhOf A rh H))) w2 w3 := by rw [← hw3]; exact Evo.turn _ hL3 fun off => .inl ((hm3 _ _).2 (.inr (.inr rfl)))
     exact this.trans (Evo.less hMt3)
    have hmr : ∀ m, dm (look (hhOf A rh H)) m → mem ln m = false := fun m hm => (hrne m ((hhd H hiH m).1 hm)).2
    have h1 := (hR3.hr.blk n o hn).mv (h' := hhOf A rh H) (β' := βf) hE3' (fun m hm => ⟨(hff m (hmr m hm)).1, (hff m (hmr m hm)).2.1⟩) hnn (hff n h).2.2.1 (hff n h).2.2.2 hR3.be.pr.symm
     (fun q hq => hoth3 q fun e => hR3.hr.fresh n q 0 hnn hq (e ▸ (hm3 _ _).2 (.inr (.inr rfl)))) (okh H hiH n _ hn) (fun hob => dis_of hfm hfl hfr hfi hn0 hob)
    exact h1.evo Evo.refl ⟨fun m hm => by unfold dm at hm ⊢; rw [hgf m (hmr m hm)]; exact hm, fun _ _ h => ⟨h, rfl, rfl⟩, fun n u _ h => ⟨u, h, .inl rfl⟩, rfl⟩ rfl rfl rfl rfl (fun _ _ => rfl) (fun hob => dis_of hfm hfl hfr hfi hn0 hob)
 -- old memory
 have hold2 : ∀ k, k < w.heap.size → (∀ n, look σ.h n ≠ none → ¬ bk β n k) → w3.heap[k]? = w.heap[k]? := fun k hk hno => by
  rw [hoth3 k (by omega), post.fr.block k (by omega) ?_, hold k hk]
  rintro ⟨n, hn, hbn⟩
  by_cases h : n = y
  ·subst h
   obtain ⟨n', h1, h2⟩ := hbkold k hk hbn
   exact hno n' (hrne n' h1).1 h2
  ·rw [hpo n h] at hn
   exact hno n (hlne n hn).1 ((hbki n k h).1 hbn)
 have howf : ∀ n k, look ((y, HO.ob A.sg H A.go) :: lh) n ≠ none → bk β2 n k → X.B0 k ∨ X.w0.heap.size ≤ k := fun n k hn hk => by
  have := R.fr.size
  rcases hown n k hn hk with ⟨m, hm, hmk⟩ | h
  ·by_cases hlt : k < w.heap.size
   ·by_cases h : m = y
    ·subst h
     obtain ⟨n', h1, h2⟩ := hbkold k hlt hmk
     exact R.own n' k (hrne n' h1).1 h2
    ·rw [hpo m h] at hm
     exact R.own m k (hlne m hm).1 ((hbki m k h).1 hmk)
   ·exact .inr (by omega)
  ·exact .inr (by omega)
 have hRf : Rel X βf { s := σ.s, g := [], h := A.h H ++ dropH (A.h H) σ.h } { a with defers := [{ target := .collected w.heap.size, args := #[] }] ++ a.defers } w3 := by
  refine ⟨R.tn, ⟨⟨w.heap.size, rfl, ?_, Nat.le_trans hmb R.fr.size, .inr rfl, fun hm => ?_⟩, R.df.keep (fun _ _ h => .inl h) fun k hk hd _ => ?_⟩, ⟨hE.sys.1.trans R.fr.os, hE.sys.2.1.trans R.fr.tape, hE.sys.2.2.trans R.fr.output, Nat.le_trans R.fr.size hE.size, fun k hk hB => ?_⟩, fun n k hn hk => ?_, R.be.trans hBE,
   fun q off h => .inl (R.bm q off h), hHf, R.ev.trans hE, fun t v h => ⟨(R.sl t v h).1, VA.evo hE hBE (R.sl t v h).2⟩, fun t g b x h => by cases h⟩
  ·rw [hoth3 _ (by omega)]; exact hD3
  ·have := R.df.mem w.heap.size hm
   exact absurd (Array.getElem?_eq_some_iff.1 this).1 (Nat.lt_irrefl _)
  ·rw [hold2 k (Array.getElem?_eq_some_iff.1 hd).1 fun n hn hb => R.hr.fresh n k 0 hn hb hk]
   exact hd
  ·rw [hold2 k (Nat.lt_of_lt_of_le hk R.fr.size) fun n hn hb => ?_, R.fr.block k hk hB]
   rcases R.own n k hn hb with h | h
   ·exact hB h
   ·omega
  ·rcases hmt n with h | h
   ·rw [hgt n h] at hn; exact howf n k (hql n hn) ((hbt n k h).1 hk)
   ·rw [hgf n h] at hn; exact howf y k hqyn (hYb n k h hn ((hbf n k h).1 hk))
 have hend := run_endLoop (P := P) hL3 (by rw [hrec]; exact hst)
 refine ⟨c, w3, ?_, ?_⟩
 ·rw [hrec] at hend hw3
  rw [← hw3]
  exact hend
 ·by_cases hl : live A.go H
  ·rw [(hl1 hl).2]
   exact hdone _ _ _ hRf hiH hl
  ·obtain ⟨_, q, hq, hqc, hq2⟩ := hl2 hl
   rw [hqc]
   exact hstop _ _ _ q hRf hiH hl hq hq2
end
end Go.Sy
namespace Go.Sy
variable {P : Program} {L : Nat → Option Lay} {Γ : Nat → Option Con} {F : Fence} {n : Nat}

theorem wpIn_loop_ghost {c : Code} {Q : Exit → Act → World → Prop} {a : Act} {w : World} (J : Nat → Act → World → Prop) (h0 : ∃ m, J m a w)
  (round : ∀ m a w, J m a w → c.wpIn F n P (Exit.then (fun a' w' => ∃ m', m' < m ∧ J m' a' w') Q) a w) : (Code.loop c).wpIn F n P Q a w := by
 refine wpIn_loop (fun a w => ∃ m, J m a w) (fun a w => leastOf (fun m => J m a w)) h0 fun a w h => ?_
 obtain ⟨h1, _⟩ := leastOf_spec h
 refine wpIn_mono (round _ a w h1) fun e a' w' he => ?_
 cases e with
 | normal =>
  obtain ⟨m', hlt, hJ⟩ := he
  exact ⟨⟨m', hJ⟩, Nat.lt_of_le_of_lt ((leastOf_spec ⟨m', hJ⟩).2 m' hJ) hlt⟩
 | exit id => exact he
 | goto l => exact he
 | ret => exact he
 | panic c => exact he
 | outgrown => exact he

def K (F : Fence) (n : Nat) (P : Program) (X : Cx) (Q : Exit → Act → World → Prop) : List It → Exit → Act → World → Prop
 | [] => Q
 | .code c :: r => Exit.then (c.wpIn F n P (K F n P X Q r)) (K F n P X Q r)
 | .blk id :: r => Exit.inBlock id (K F n P X Q r)
 | .rn m c :: r => Exit.then (Code.roundsIn F n P c (K F n P X Q r) m) (K F n P X Q r)
 | .lend A x hd :: r => Exit.then (fun a' w' => ∃ x', A.inv x' ∧ A.m x' < A.m x ∧ ∃ σ' β, Rel X β σ' a' w' ∧ (∀ k v, look (hd x').s k = some v → ∃ c u, look σ'.s k = some u ∧ v = coA c u) ∧ (∀ k o, look (hd x').h k = some o → look σ'.h k = some o))
  (K F n P X Q r)

section
variable {X : Cx} {Q : Exit → Act → World → Prop}

theorem K_ret {a : Act} {w : World} (h : Q .ret a w) : ∀ (r : List It), K F n P X Q r .ret a w
 | [] => h
 | .code _ :: r => K_ret h r
 | .blk _ :: r => K_ret h r
 | .lend _ _ _ :: r => K_ret h r
 | .rn _ _ :: r => K_ret h r

theorem K_exit {a : Act} {w : World} {id : Nat} : ∀ {r r' : List It}, dropTo id r = some r' → K F n P X Q r' .normal a w → K F n P X Q r (.exit id) a w
 | .code _ :: r, r', h, hk => K_exit (r := r) h hk
 | .lend _ _ _ :: r, r', h, hk => K_exit (r := r) h hk
 | .rn _ _ :: r, r', h, hk => K_exit (r := r) h hk
 | .blk i :: r, r', h, hk => by
  simp only [dropTo] at h
  show Exit.inBlock i (K F n P X Q r) (.exit id) a w
  simp only [Exit.inBlock]
  by_cases hi : i = id
  ·subst hi
   simp at h
   subst h
   rw [if_pos rfl]
   exact hk
  ·rw [if_neg (fun e => hi e.symm)]
   simp [hi] at h
   exact K_exit (r := r) h hk

theorem K_none {a : Act} {w : World} {id : Nat} : ∀ {r : List It}, dropTo id r = none → Q (.exit id) a w → K F n P X Q r (.exit id) a w
 | [], _, hk => hk
 | .code _ :: r, h, hk => K_none (r := r) h hk
 | .lend _ _ _ :: r, h, hk => K_none (r := r) h hk
 | .rn _ _ :: r, h, hk => K_none (r := r) h hk
 | .blk i :: r, h, hk => by
  simp only [dropTo] at h
  show Exit.inBlock i (K F n P X Q r) (.exit id) a w
  simp only [Exit.inBlock]
  by_cases hi : i = id
  ·subst hi
   simp at h
  ·rw [if_neg (fun e => hi e.symm)]
   simp [hi] at h
   exact K_none h hk

def DrawOk (P : Program) (L : Nat → Option Lay) (Γ : Nat → Option Con) (F : Fence) (n : Nat) (X : Cx) (draw : List Oper → St → Bool) : Prop :=
 ∀ (ops : Array Oper) (id : Nat) (cs : List Cd) (σ σ' : St) (β : Bt) (a : Act) (w : World) (v : VC) (Q : Exit → Act → World → Prop), draw ops.toList σ = true → Rel X β σ a w →
  asteps L Γ X.N ops.toList ops.toList σ = some (cs, σ') → (VC.obs cs (VC.fcts cs v)).holds → (∀ a' w' β', Rel X β' σ' a' w' → v.holds → Q .normal a' w') → (Code.region id ops true).wpIn F n P Q a w

theorem ands_obs : ∀ {cs : List Prop} {u : VC}, (VC.ands (cs.map Cd.ob) u).holds → (∀ c ∈ cs, c) ∧ u.holds
 | [], u, h => ⟨by simp, h⟩
 | c :: cs, u, h => by
  obtain ⟨h1, h2⟩ := h
  obtain ⟨h3, h4⟩ := ands_obs h2
  exact ⟨fun x hx => by rcases List.mem_cons.1 hx with rfl | hx; exact h1; exact h3 x hx, h4⟩
theorem foldr_holds {α : Type} {p : Prop} {q : α → Prop} {g : α → VC} : ∀ {l : List α}, (l.foldr (fun x v => VC.both (.imp p (.imp (q x) (g x))) v) .tt).holds → ∀ x ∈ l, p → q x → (g x).holds
 | y :: l, h, x, hx, hp, hq => by
  rcases List.mem_cons.1 hx with rfl | hx
  ·exact h.1 hp hq
  ·exact foldr_holds h.2 x hx hp hq
theorem exFind_spec {α : Type} : ∀ {l : List (Ex × α)} {e : Ex} {p : α}, exFind l e = some p → (e, p) ∈ l
 | (e', p') :: l, e, p, h => by
  simp only [exFind] at h
  split at h
  ·rename_i hs
   injection h with h; subst h
   have : e' = e := by
    cases e' <;> cases e <;> simp_all [Ex.same]
   rw [this]; exact List.mem_cons_self ..
  ·exact List.mem_cons_of_mem _ (exFind_spec h)
theorem below_mem {N : Nat} : ∀ {l : List Nat}, below N l = true → ∀ k ∈ l, k < N
 | a :: l, h, k, hk => by
  simp only [below, Bool.and_eq_true] at h
  rcases List.mem_cons.1 hk with rfl | hk
  ·exact Nat.le_of_ble_eq_true h.1
  ·exact below_mem h.2 k hk

theorem Rel.params {X : Cx} {β : Bt} {s : List (Nat × AV)} {h : List (Nat × HO)} {t : Array Value} {w : World} {ps : Array Tmp} {sg : List Ty} {x : (tpl sg).T} {vals : List Value} (R : Rel X β { s := s, g := [], h := h } { tmps := t, defers := [] } w)
  (hargs : ArgsOk w (Mt β (look h)) sg x vals) (hps : ps.size = sg.length) (hd : distinct ps.toList = true) (hb : below X.N ps.toList = true) :
  Rel X β { s := pSlots ps.toList sg x ++ dropS ps.toList s, g := [], h := h } { tmps := (ps.zip vals.toArray).foldl (fun t (p, v) => t.setIfInBounds p v) t, defers := [] } w := by
 have hfold : (ps.zip vals.toArray).foldl (fun t (p, v) => t.setIfInBounds p v) t = (ps.toList.zip vals).foldl (fun t (p, v) => t.setIfInBounds p v) t := by
  rw [← Array.foldl_toList, Array.toList_zip]
 rw [hfold]
 have htn : t.size = X.N := R.tn
 have hlen : ps.toList.length = vals.length := by simp [hargs.length, hps]
 have hb' : below t.size ps.toList = true := by rw [htn]; exact hb
 refine ⟨(foldl_look _ _ t 0 hd hlen hb').1.trans R.tn, trivial, R.fr, R.own, R.be, R.bm, R.hr, R.ev, fun k v hk => ?_, fun t g b x h => by cases h⟩
 obtain ⟨_, f2, f3⟩ := foldl_look ps.toList vals t k hd hlen hb'
 simp only [look_append] at hk
 split at hk
 ·rename_i v' hv'
  injection hk with hk; subst hk
  obtain ⟨i, u, h1, h2, h3, _⟩ := pSlots_look hargs hd k v' hv'
  refine ⟨below_mem hb k (List.mem_of_getElem? h1), ?_⟩
  show VA w _ β _ v' (Array.getD _ k undef)
  rw [f3 i h1 u h2]
  exact h3
 ·rename_i hn
  have hk' := dropS_sub hk
  have hne := pSlots_none (by simpa using hps) k hn
  obtain ⟨h1, h2⟩ := R.sl k v hk'
  refine ⟨h1, ?_⟩
  show VA w _ β _ v (Array.getD _ k undef)
  rw [f2 hne]
  exact h2

theorem dropN_look {d : Nat} : ∀ {l : List (Nat × HO)} {k : Nat}, look (dropN d l) k = if k = d then none else look l k
 | [], k => by simp [dropN, look]
 | (a, x) :: r, k => by
  simp only [dropN]
  by_cases h : a = d
  ·subst h
   rw [if_pos (by simp), dropN_look, look_cons]
   by_cases e : k = a
   ·rw [if_pos e, if_pos e]
   ·rw [if_neg e, if_neg e, if_neg (Ne.symm e)]
  ·rw [if_neg (by simpa using h), look_cons, look_cons, dropN_look]
   by_cases e : a = k
   ·rw [if_pos e, if_neg (fun e' => h (e.trans e')), if_pos e]
   ·rw [if_neg e, if_neg e]
theorem frgt_sound {q : Bool} {N : Nat} {β : Bt} {a : Act} {w : World} (hq : q = true → ∀ d, X.D0 d → N ≤ d) : ∀ {ds : List Nat} {σ : St}, Rel X β σ a w → Rel X β (frgt q N ds σ) a w
 | [], _, R => R
 | d :: r, σ, R => by
  unfold frgt
  refine frgt_sound hq ?_
  split
  ·rename_i hc
   simp only [Bool.and_eq_true] at hc
   split
   ·rename_i hok
    have hlt : d < N := Nat.le_of_ble_eq_true hc.2.1
    have hsub : ∀ k o, look (dropN d σ.h) k = some o → look σ.h k = some o := fun k o h => by
     rw [dropN_look] at h
     split at h
     ·cases h
     ·exact h
    refine R.weaken (fun k v h => ⟨.tup [], v, (okS_sub h).2.1, (coA_none v).symm⟩) hsub (fun m hm => ?_) (fun k v h => (okS_sub h).2.2) (fun k b h => heapOk_sound hok (look_mem h))
    have hne : m ≠ d := fun e => Nat.lt_irrefl d (Nat.lt_of_lt_of_le hlt (by have := hq hc.1 m hm; rwa [e] at this))
    rw [dropN_look, if_neg hne]
    exact R.be.d m hm
   ·exact R
  ·exact R

theorem unkL_sound {w : World} {M : CM} {β : Bt} {D : Nat → Prop} {x : LV} {v : Value} (h : VL w M β D x v) : VL w M β D (unkL x) v := by
 cases h with
 | kn => exact .d (.lit rfl)
 | d h => exact .d h
 | ptr h => exact .ptr h
 | dptr vs hb hM hc hv => exact .dptr vs hb hM hc hv
 | clo h1 h2 => exact .clo h1 h2
 | own h ho => exact .own h ho
 | mp h1 h2 h3 => exact .mp h1 h2 h3
 | yl h1 h2 h3 => exact .yl h1 h2 h3
 | vr hs hk ho => exact .vr hs hk ho
 | vp h => exact .vp h
 | nn h hs => exact .nn h hs
theorem unkLs_sound {w : World} {M : CM} {β : Bt} {D : Nat → Prop} : ∀ {xs : List LV} {vs : List Value}, All2 (VL w M β D) xs vs → All2 (VL w M β D) (unkLs xs) vs
 | _, _, .nil => .nil
 | _, _, .cons h1 h2 => .cons (unkL_sound h1) (unkLs_sound h2)
theorem unkT_sound {w : World} {M : CM} {β : Bt} {D : Nat → Prop} {x : TV} {v : Value} (h : VT w M β D x v) : VT w M β D (unkT x) v := by
 cases x with
 | one x => exact unkL_sound h
 | agg xs => obtain ⟨arr, rfl, h⟩ := h; exact ⟨arr, rfl, unkLs_sound h⟩
theorem unkTs_sound {w : World} {M : CM} {β : Bt} {D : Nat → Prop} : ∀ {xs : List TV} {vs : List Value}, All2 (VT w M β D) xs vs → All2 (VT w M β D) (unkTs xs) vs
 | _, _, .nil => .nil
 | _, _, .cons h1 h2 => .cons (unkT_sound h1) (unkTs_sound h2)
theorem unkA_sound {w : World} {M : CM} {β : Bt} {D : Nat → Prop} {x : AV} {v : Value} (h : VA w M β D x v) : VA w M β D (unkA x) v := by
 cases x with
 | t x => exact unkT_sound h
 | tup xs => obtain ⟨arr, rfl, h⟩ := h; exact ⟨arr, rfl, unkTs_sound h⟩
 | nx => exact h
theorem look_unkS : ∀ {l : List (Nat × AV)} {k : Nat} {v : AV}, look (unkS l) k = some v → ∃ u, look l k = some u ∧ v = unkA u
 | (a, x) :: r, k, v, h => by
  simp only [unkS] at h
  rw [look_cons] at h ⊢
  split at h
  ·rename_i e; injection h with h; subst h; rw [if_pos e]; exact ⟨_, rfl, rfl⟩
  ·rename_i e; rw [if_neg e]; exact look_unkS h
theorem look_unkH : ∀ {l : List (Nat × HO)} {k : Nat}, look (unkH l) k = (look l k).map unkO
 | [], _ => rfl
 | (a, x) :: r, k => by
  simp only [unkH]
  rw [look_cons, look_cons]
  split
  ·rfl
  ·exact look_unkH
theorem Rel.alter {X : Cx} {β : Bt} {σ : St} {a : Act} {w : World} (R : Rel X β σ a w) {s' : List (Nat × AV)} {h' : List (Nat × HO)} (hd : ∀ n, look h' n = none → look σ.h n = none)
  (hh : ∀ n o', look h' n = some o' → ∃ o, look σ.h n = some o ∧ (∀ off, o'.mut off ↔ o.mut off) ∧ o'.isOb = o.isOb ∧ (HOR w (Mt β (look σ.h)) β (dm (look σ.h)) n o → HOR w (Mt β (look σ.h)) β (dm (look σ.h)) n o'))
  (hs : ∀ t v', look s' t = some v' → ∃ v, look σ.s t = some v ∧ ∀ M D u, VA w M β D v u → VA w M β D v' u) : Rel X β { s := s', g := [], h := h' } a w := by
 have hi : ∀ n, look h' n ≠ none ↔ look σ.h n ≠ none := fun n => ⟨fun hn => by
  cases ho : look h' n with
  | none => exact absurd ho hn
  | some o' => obtain ⟨o, h1, _⟩ := hh n o' ho; rw [h1]; simp, fun hn e => hn (hd n e)⟩
 have hD : dm (look h') = dm (look σ.h) := funext fun n => propext (hi n)
 have hM : Mt β (look h') = Mt β (look σ.h) := by
  funext k off
  apply propext
  constructor
  ·rintro (h | ⟨n, o', h1, h2⟩)
   ·exact .inl h
   ·obtain ⟨o, g1, g2, _⟩ := hh n o' h1
    exact .inr ⟨n, o, g1, h2.imp (fun h => ⟨h.1, (g2 off).1 h.2⟩) id⟩
  ·rintro (h | ⟨n, o, h1, h2⟩)
   ·exact .inl h
   ·cases ho : look h' n with
    | none => rw [hd n ho] at h1; cases h1
    | some o' =>
     obtain ⟨o2, g1, g2, _⟩ := hh n o' ho
     rw [h1] at g1; injection g1 with g1; subst g1
     exact .inr ⟨n, o', ho, h2.imp (fun h => ⟨h.1, (g2 off).2 h.2⟩) id⟩
 refine ⟨R.tn, R.df, R.fr, fun n k hn hk => R.own n k ((hi n).1 hn) hk, by show BEvo X.b0 β X.D0 (dm (look h')); rw [hD]; exact R.be, R.bm,
  ⟨R.hr.m0, fun n k hn hk => R.hr.lt n k ((hi n).1 hn) hk, fun n k off hn hk => R.hr.fresh n k off ((hi n).1 hn) hk, fun n m k hn hm => R.hr.inj n m k ((hi n).1 hn) ((hi m).1 hm), fun n o' ho hob => ?_, fun n o' ho => ?_, ?_⟩, ?_, fun t v' hv => ?_, fun t g b x h => by cases h⟩
 ·obtain ⟨o, g1, _, g3, _⟩ := hh n o' ho
  exact R.hr.ye n o g1 (g3 ▸ hob)
 ·obtain ⟨o, g1, _, _, g4⟩ := hh n o' ho
  show HOR w (Mt β (look h')) β (dm (look h')) n o'
  rw [hM, hD]
  exact g4 (R.hr.blk n o g1)
 ·show GInv β.pr w (Mt β (look h'))
  rw [hM]; exact R.hr.gl
 ·show Evo X.M (Mt β (look h')) X.w0 w
  rw [hM]; exact R.ev
 ·obtain ⟨v, g1, g2⟩ := hs t v' hv
  show t < X.N ∧ VA w (Mt β (look h')) β (dm (look h')) v' (a.tmps.getD t undef)
  rw [hM, hD]
  exact ⟨(R.sl t v g1).1, g2 _ _ _ (R.sl t v g1).2⟩
theorem Rel.unk {X : Cx} {β : Bt} {σ : St} {a : Act} {w : World} (R : Rel X β σ a w) (q : Option RAnn) : Rel X β (unkSt q σ) a w := by
 unfold unkSt
 split
 ·exact R
 ·split
  ·exact R
  ·refine R.alter (fun n h => ?_) (fun n o' h => ?_) fun t v' h => ?_
   ·rw [look_unkH] at h
    cases ho : look σ.h n with
    | none => rfl
    | some o => rw [ho] at h; cases h
   ·rw [look_unkH] at h
    cases ho : look σ.h n with
    | none => rw [ho] at h; cases h
    | some o =>
     rw [ho] at h
     injection h with h; subst h
     refine ⟨o, rfl, ?_⟩
     cases o with
     | cells b => exact ⟨fun _ => Iff.rfl, rfl, fun h => by obtain ⟨k, arr, e, h0, h1, h2, h3⟩ := h; exact ⟨k, arr, e, h0, h1, h2, unkLs_sound h3⟩⟩
     | _ => exact ⟨fun _ => Iff.rfl, rfl, fun h => h⟩
   ·obtain ⟨u, h1, rfl⟩ := look_unkS h
    exact ⟨u, h1, fun M D v hv => unkA_sound hv⟩
theorem set_all {w : World} {M : CM} {β : Bt} {D : Nat → Prop} {v : Int} : ∀ {b : List LV} {arr : List Value} {j : Nat}, All2 (VL w M β D) b arr → b[j]? = some (.d (.lit (.int .i64 v))) → All2 (VL w M β D) (b.set j (.kn v)) arr
 | _, _, 0, .cons h1 h2, hj => by
  injection hj with hj
  subst hj
  cases h1 with
  | d h => cases h; exact .cons .kn h2
 | _, _, j + 1, .cons h1 h2, hj => .cons h1 (set_all h2 hj)
theorem splG_sound {X : Cx} {β : Bt} {σ : St} {a : Act} {w : World} {f : St → VC} {n j : Nat} {b : List LV} {x : Int} (R : Rel X β σ a w) (hn : look σ.h n = some (.cells b)) (hj : b[j]? = some (.d (.lit (.int .i64 x)))) :
  ∀ {vs : List Int}, (splG f σ n j b x vs).holds → ∃ σ0, Rel X β σ0 a w ∧ (f σ0).holds
 | [], h => ⟨σ, R, h⟩
 | v :: r, h => by
  by_cases e : x = v
  ·subst e
   refine ⟨_, R.alter (s' := σ.s) (h' := (n, .cells (b.set j (.kn x))) :: σ.h) (fun m h => ?_) (fun m o' h => ?_) (fun t v' h => ⟨v', h, fun _ _ _ h => h⟩), h.1 rfl⟩
   ·rw [look_cons] at h
    split at h
    ·cases h
    ·exact h
   ·rw [look_cons] at h
    split at h
    ·rename_i e
     subst e
     injection h with h; subst h
     exact ⟨_, hn, fun _ => Iff.rfl, rfl, fun h => by obtain ⟨k, arr, e, h0, h1, h2, h3⟩ := h; exact ⟨k, arr, e, h0, h1, h2, set_all h3 hj⟩⟩
    ·exact ⟨o', h, fun _ => Iff.rfl, rfl, fun h => h⟩
  ·exact splG_sound R hn hj (h.2 e)
theorem set_allV {w : World} {M : CM} {β : Bt} {D : Nat → Prop} {x y : LV} (hxy : ∀ v, VL w M β D x v → VL w M β D y v) : ∀ {b : List LV} {arr : List Value} {j : Nat}, All2 (VL w M β D) b arr → b[j]? = some x → All2 (VL w M β D) (b.set j y) arr
 | _, _, 0, .cons h1 h2, hj => by
  injection hj with hj
  subst hj
  exact .cons (hxy _ h1) h2
 | _, _, j + 1, .cons h1 h2, hj => .cons h1 (set_allV hxy h2 hj)
theorem splF_sound {X : Cx} {β : Bt} {σ : St} {a : Act} {w : World} {f : St → VC} {n j : Nat} (R : Rel X β σ a w) (h : (splF f σ n j).holds) : ∃ β' σ0, Rel X β' σ0 a w ∧ (f σ0).holds := by
 unfold splF at h
 split at h
 ·rename_i b hn
  split at h
  ·rename_i k m hj
   split at h
   ·rename_i τ e l hk
    split at h
    ·rename_i hτ
     obtain ⟨hm, h⟩ := h
     obtain ⟨β', R', _, _, _⟩ := R.freezeF hk (Nat.le_of_ble_eq_true hτ)
     have hkn : k ≠ n := fun q => by subst q; rw [hk] at hn; cases hn
     have hn' : look ((k, HO.frz τ e l) :: σ.h) n = some (.cells b) := by rw [look_cons, if_neg hkn]; exact hn
     have hk' : look ((k, HO.frz τ e l) :: σ.h) k = some (.frz τ e l) := by rw [look_cons, if_pos rfl]
     refine ⟨β', _, R'.alter (s' := σ.s) (h' := (n, .cells (b.set j (.d (.sl τ l)))) :: (k, .frz τ e l) :: σ.h) (fun q h => ?_) (fun q o' h => ?_) (fun t v' h => ⟨v', h, fun _ _ _ h => h⟩), h⟩
     ·rw [look_cons] at h
      split at h
      ·cases h
      ·exact h
     ·rw [look_cons] at h
      split at h
      ·rename_i e
       subst e
       injection h with h; subst h
       exact ⟨_, hn', fun _ => Iff.rfl, rfl, fun h => by obtain ⟨k, arr, e, h0, h1, h2, h3⟩ := h; exact ⟨k, arr, e, h0, h1, h2, set_allV (fun v hv => R'.frozen hk' (Nat.le_of_ble_eq_true hτ) hm hv) h3 hj⟩⟩
      ·exact ⟨o', h, fun _ => Iff.rfl, rfl, fun h => h⟩
    ·exact h.elim
   ·exact h.elim
  ·exact h.elim
 ·exact h.elim
theorem splFs_sound {X : Cx} {a : Act} {w : World} {f : St → VC} : ∀ {r : List (Nat × Nat)} {β : Bt} {σ : St}, Rel X β σ a w → (splFs f r σ).holds → ∃ β' σ0, Rel X β' σ0 a w ∧ (f σ0).holds
 | [], β, σ, R, h => ⟨β, σ, R, h⟩
 | (n, j) :: r, β, σ, R, h => by
  obtain ⟨β', σ', R', h'⟩ := splF_sound R h
  exact splFs_sound R' h'
theorem splS_sound {X : Cx} {β : Bt} {σ : St} {a : Act} {w : World} {A : RAnn} {f : St → VC} (R : Rel X β σ a w) (h : (splS A f σ).holds) : ∃ β' σ0, Rel X β' σ0 a w ∧ (f σ0).holds := by
 unfold splS at h
 split at h
 ·exact ⟨β, σ, R, h⟩
 ·rename_i n j vs _
  split at h
  ·rename_i b hn
   split at h
   ·rename_i x hj
    exact ⟨β, splG_sound R hn hj h⟩
   ·rename_i l0 hj
    refine ⟨β, _, R.alter (s' := σ.s) (h' := (n, .cells (b.set j (.d (.sl _ [])))) :: σ.h) (fun q h => ?_) (fun q o' h => ?_) (fun t v' h => ⟨v', h, fun _ _ _ h => h⟩), h⟩
    ·rw [look_cons] at h
     split at h
     ·cases h
     ·exact h
    ·rw [look_cons] at h
     split at h
     ·rename_i e
      subst e
      injection h with h; subst h
      exact ⟨_, hn, fun _ => Iff.rfl, rfl, fun h => by obtain ⟨k, arr, e, h0, h1, h2, h3⟩ := h; exact ⟨k, arr, e, h0, h1, h2, set_allV (fun v hv => coL_sound (c := .d (.sl _ [])) hv) h3 hj⟩⟩
     ·exact ⟨o', h, fun _ => Iff.rfl, rfl, fun h => h⟩
   ·exact splF_sound R h
   ·exact h.elim
  ·exact h.elim
theorem splV_sound {X : Cx} {β : Bt} {σ : St} {a : Act} {w : World} {q : Option RAnn} {f : St → VC} (R : Rel X β σ a w) (h : (splV q f σ).holds) : ∃ β' σ0, Rel X β' σ0 a w ∧ (f σ0).holds := by
 unfold splV at h
 split at h
 ·exact ⟨β, σ, R, h⟩
 ·obtain ⟨β', σ', R', h'⟩ := splFs_sound R h
  exact splS_sound R' h'

theorem vc_core (hL : LOk P L) (hΓ : ConOk P Γ) : ∀ (k : Nat) {F : Fence} {n : Nat} {X : Cx} {Q : Exit → Act → World → Prop} {φ : Fn} {post : Ex → St → VC} (_ : Wide F) (_ : X.b0.pr = P) (_ : X.N = φ.N)
  (_ : ∀ (F : Fence) (n : Nat) (X : Cx), Wide F → X.N = φ.N → X.b0.pr = P → DrawOk P L Γ F n X φ.draw) (_ : φ.rf = true → F.round = none ∧ X.mb ≤ X.w0.heap.size ∧ ∀ d, X.D0 d → φ.N ≤ d)
  (_ : ∀ e β σ a w, (post e σ).holds → Rel X β σ a w → Q e.exit a w) (items : List It) (σ : St) (β : Bt) (a : Act) (w : World), (vc L Γ φ post k items σ).holds → Rel X β σ a w → K F n P X Q items .normal a w := by
 intro k
 induction k with
 | zero => intro F n X Q φ post hF hpr hN hD hrf hQ items σ β a w h; exact h.elim
 | succ k ih0 =>
  intro F n X Q φ post hF hpr hN hD hrf hQ
  have ih := ih0 (n := n) hF hpr hN hD hrf hQ
  intro items σ β a w h R
  match items with
  | [] => exact hQ .nm β σ a w h R
  | .blk id :: r => exact ih r σ β a w h R
  | .rn 0 c :: r => exact h.elim
  | .rn (m + 1) c :: r => exact ih (.code c :: .rn m c :: r) σ β a w h R
  | .lend A x hd :: r =>
   obtain ⟨x', h1, h2, h3⟩ := h
   have h3 := VC.all_holds h3
   simp only [List.mem_append] at h3
   have e1 := entS_sound (fun p hp => h3 p (.inl hp))
   have e2 := entH_sound (fun p hp => h3 p (.inr hp))
   exact ⟨x', h1, h2, σ, β, R, fun k v hk => e1 k v (look_mem hk), fun k o hk => e2 k o (look_mem hk)⟩
  | .code c :: r =>
   show c.wpIn F n P (K F n P X Q r) a w
   simp only [vc] at h
   split at h
   ·exact wpIn_skip (ih r σ β a w h R)
   ·rename_i id ops
    obtain ⟨β, σ0, R, h⟩ := splV_sound R h
    split at h
    ·rename_i cs σ' hs
     rw [← hN] at hs
     exact wpIn_region_list (steps_sound hF hpr hL hΓ (fun a' w' β' R' hv => ih r _ β' a' w' hv ((R'.clean φ.keep).unk _)) (frgt_sound (fun hq => by rw [hN]; exact (hrf hq).2.2) R) hs h)
    ·exact h.elim
   ·rename_i id ops
    obtain ⟨β, σ0, R, h⟩ := splV_sound R h
    split at h
    ·rename_i cs σ' hs
     split at h
     ·rename_i hd
      rw [← hN] at hs hd
      exact hD F n X hF hN hpr ops id cs _ σ' β a w _ _ hd (frgt_sound (fun hq => by rw [hN]; exact (hrf hq).2.2) R) hs h (fun a' w' β' R' hv => ih r _ β' a' w' hv ((R'.clean φ.keep).unk _))
     ·exact h.elim
    ·exact h.elim
   ·rename_i x y
    exact wpIn_seq (ih (.code x :: .code y :: r) σ β a w h R)
   ·rename_i c x y
    split at h
    ·rename_i b hb
     have hc := VT.bool (opT_sound R (G := []) (fun t b hh => by simp [has] at hh) hb)
     refine wpIn_cond hc ?_
     cases b with
     | true => exact ih (.code x :: r) σ β a w (h.1 rfl) R
     | false => exact ih (.code y :: r) σ β a w (h.2 rfl) R
    ·exact h.elim
   ·rename_i id x
    exact wpIn_block (ih (.code x :: .blk id :: r) σ β a w h R)
   ·rename_i id
    split at h
    ·rename_i r' hr
     exact wpIn_exit (K_exit hr (ih r' σ β a w h R))
    ·rename_i hr
     exact wpIn_exit (K_none hr (hQ (.ex id) β σ a w h R))
   ·exact wpIn_ret (K_ret (hQ .rt β σ a w h R) r)
   ·rename_i g ps as bd
    split at h
    ·rename_i i hrft hi
     split at h
     ·rename_i A f ca hA hg
      split at h
      ·rename_i con hcon
       split at h
       ·rename_i cs r' y sg' H go' hc
        split at h
        ·rename_i e _
         subst e
         split at h
         ·rename_i hchk
          simp only [Bool.and_eq_true, Bool.not_eq_true', beq_iff_eq] at hchk
          obtain ⟨⟨rfl, hy, okl, okc⟩, okr, hps, hdist, hbel⟩ := hchk
          obtain ⟨hcs, hgo, hi0, hen, hb, hf⟩ := ands_obs h
          have hgo' : go' = A.go := hgo
          subst hgo'
          have hround := hrf hrft
          have hyn : look σ.h (ry i) = none := by
           cases ho : look σ.h (ry i) with
           | none => rfl
           | some o => unfold ptrOk at hy; rw [ho] at hy; cases hy
          have hcheck : ∀ hist, A.inv hist → ((namesIn (selH (lentN σ.h ca) false σ.h) (A.h hist) = true ∧ heapOk (hhOf A (selH (lentN σ.h ca) false σ.h) hist) (A.h hist) = true) ∧ (namesIn (selH (lentN σ.h ca) false σ.h) (A.jh hist) = true ∧ heapOk (A.jh hist ++ dropH (A.jh hist) (selH (lentN σ.h ca) false σ.h)) (A.jh hist) = true)) ∧ (∀ x, liveX A.go hist x → _) := fun hist hinv => by
           have h1 := hb hist hinv
           split at h1
           ·rename_i hc2
            simp only [Bool.and_eq_true] at hc2
            exact ⟨hc2, h1⟩
           ·exact h1.elim
          have hl1 : ∀ hist, live A.go hist → A.one.h hist = A.h hist := fun hist hl => if_pos hl
          have hl0 : ∀ hist, ¬ live A.go hist → A.one.h hist = A.jh hist := fun hist hl => if_neg hl
          refine range_sound (A := A.one) hF hround.1 hround.2.1 hpr R (ln := lentN σ.h ca) (y := ry i) (con := con) (fr := 99000) (cs := cs) (r' := r') (H := H) (opT_sound R (G := []) (fun t b hh => by simp [has] at hh) hg) (hΓ f con hcon) hc hcs hyn okl okr okc hps
           (fun hist hinv => ?_) hi0 (fun n o hm => entH_sound (VC.all_holds hen) n o ((congrArg (fun l => (n, o) ∈ l) (hl1 [] (.inl rfl))).mp hm)) (fun l hist x vals X' β' w' hXN hXpr hinv hlive hargs hRel => ?_) (fun β' a' w' R' hinv hlive => ?_) (fun β' a' w' q R' hinv hnl hq hq2 => ?_)
          ·show namesIn _ (A.one.h hist) = true ∧ heapOk (A.one.h hist ++ dropH (A.one.h hist) _) (A.one.h hist) = true
           by_cases hl : live A.go hist
           ·rw [hl1 hist hl]; exact (hcheck hist hinv).1.1
           ·rw [hl0 hist hl]; exact (hcheck hist hinv).1.2
          ·have hlh := hl1 hist hlive.1
           have hargs : ArgsOk w' (Mt β' (look (hhOf A (selH (lentN σ.h ca) false σ.h) hist))) A.sg x vals := by
            have h0 : ArgsOk w' (Mt β' (look (A.one.h hist ++ dropH (A.one.h hist) (selH (lentN σ.h ca) false σ.h)))) A.sg x vals := hargs
            rwa [hlh] at h0
           have hRel : Rel X' β' { s := okS (selH (lentN σ.h ca) false σ.h) σ.s [], g := [], h := hhOf A (selH (lentN σ.h ca) false σ.h) hist } { tmps := a.tmps, defers := [] } w' := by
            have h0 : Rel X' β' { s := okS (selH (lentN σ.h ca) false σ.h) σ.s [], g := [], h := A.one.h hist ++ dropH (A.one.h hist) (selH (lentN σ.h ca) false σ.h) } { tmps := a.tmps, defers := [] } w' := hRel
            rwa [hlh] at h0
           have hv := (hcheck hist hinv).2 x hlive
           refine ih0 (φ := { φ with rf := false }) (F := Fence.wide.inRound l) (n := 0) (X := X') ⟨fun _ => trivial, rfl, rfl⟩ hXpr (hXN.trans hN) (fun F n X hF hN hpr => hD F n X hF hN hpr) (fun h => by cases h) (fun e1 β1 σ1 a1 w1 hp R1 => ?_) [.code as] _ β' _ w' hv
            (hRel.params hargs hps hdist (by rw [hXN, hN]; exact hbel))
           cases e1 with
           | nm =>
            refine ⟨β1, σ1, R1, fun X2 w2 β2 hN2 hpr2 R2 => ?_⟩
            refine ih0 (φ := { φ with rf := false }) (F := Fence.wide.inRound l) (n := 0) (X := X2) ⟨fun _ => trivial, rfl, rfl⟩ hpr2 (hN2.trans hN) (fun F n X hF hN hpr => hD F n X hF hN hpr) (fun h => by cases h) (fun e2 β3 σ3 a3 w3 hp3 R3 => ?_) [.code bd] _ β2 _ w2 hp R2
            show ∃ β3 σ3, Rel X2 β3 σ3 a3 w3 ∧ A.inv (hist ++ [x]) ∧ (∀ k o, look (A.one.h (hist ++ [x]) ++ dropH (A.one.h (hist ++ [x])) (selH (lentN σ.h ca) false σ.h)) k = some o → look σ3.h k = some o) ∧
               ((e2.exit = .normal ∧ A.go (hist ++ [x]) = true) ∨ (A.go (hist ++ [x]) = false ∧ ∃ q ∈ A.js, (q.1 = .rt ∨ ∃ id, q.1 = .ex id) ∧ e2.exit = q.1.exit ∧ q.2 (hist ++ [x])))
            have out : ∀ e2, e2 ≠ Ex.nm → (match exFind A.js e2 with
               | some p => VC.conj (A.go (hist ++ [x]) = false) (.conj (A.inv (hist ++ [x])) (.conj (p (hist ++ [x])) (VC.all (entH σ3.h (A.jh (hist ++ [x]) ++ dropH (A.jh (hist ++ [x])) (selH (lentN σ.h ca) false σ.h))))))
               | none => .ff).holds → ∃ β3 σ3, Rel X2 β3 σ3 a3 w3 ∧ A.inv (hist ++ [x]) ∧ (∀ k o, look (A.one.h (hist ++ [x]) ++ dropH (A.one.h (hist ++ [x])) (selH (lentN σ.h ca) false σ.h)) k = some o → look σ3.h k = some o) ∧
               ((e2.exit = .normal ∧ A.go (hist ++ [x]) = true) ∨ (A.go (hist ++ [x]) = false ∧ ∃ q ∈ A.js, (q.1 = .rt ∨ ∃ id, q.1 = .ex id) ∧ e2.exit = q.1.exit ∧ q.2 (hist ++ [x]))) := fun e2 hne hp3 => by
             split at hp3
             ·rename_i p hp
              obtain ⟨g1, g2, g3, g4⟩ := hp3
              have hnl : ¬ live A.go (hist ++ [x]) := fun hl => by
               rcases hl with hl | hl
               ·exact List.cons_ne_nil x [] (List.append_eq_nil_iff.1 hl).2
               ·rw [hl] at g1; cases g1
              refine ⟨β3, σ3, R3, g2, fun k o hk => entH_sound (VC.all_holds g4) k o (look_mem ((congrArg (fun l => look (l ++ dropH l (selH (lentN σ.h ca) false σ.h)) k = some o) (hl0 (hist ++ [x]) hnl)).mp hk)), .inr ⟨g1, (e2, p), exFind_spec hp, ?_, rfl, g3⟩⟩
              cases e2 with
              | nm => exact absurd rfl hne
              | rt => exact .inl rfl
              | ex id => exact .inr ⟨id, rfl⟩
             ·exact hp3.elim
            cases e2 with
            | nm =>
             obtain ⟨g1, g2, g3⟩ := hp3
             exact ⟨β3, σ3, R3, g2, fun k o hk => entH_sound (VC.all_holds g3) k o (look_mem ((congrArg (fun l => look (l ++ dropH l (selH (lentN σ.h ca) false σ.h)) k = some o) (hl1 (hist ++ [x]) (.inr g1))).mp hk)), .inl ⟨rfl, g1⟩⟩
            | rt => exact out .rt (by simp) hp3
            | ex id => exact out (.ex id) (by simp) hp3
           | rt => exact hp.elim
           | ex id => exact hp.elim
          ·have R' : Rel X β' { s := σ.s, g := [], h := A.one.h H ++ dropH (A.one.h H) σ.h } a' w' := R'
           rw [hl1 H hlive] at R'
           exact ih r _ β' a' w' ((hf hinv).1 hlive) R'
          ·have R' : Rel X β' { s := σ.s, g := [], h := A.one.h H ++ dropH (A.one.h H) σ.h } a' w' := R'
           rw [hl0 H hnl] at R'
           exact ih (.code q.1.code :: r) _ β' a' w' (foldr_holds (hf hinv).2 q hq hnl hq2) R'
         ·exact h.elim
        ·exact h.elim
       ·exact h.elim
      ·exact h.elim
     ·exact h.elim
    ·exact h.elim
   ·rename_i b
    split at h
    ·rename_i i hi
     split at h
     ·rename_i A hA
      split at h
      ·rename_i m hm
       exact wpIn_loop_rounds m (ih (.rn m b :: r) σ β a w h R)
      obtain ⟨⟨x0, hx0, hx1⟩, hall⟩ := h
      have hx1 := VC.all_holds hx1
      simp only [List.mem_append] at hx1
      have e1 := entS_sound (fun p hp => hx1 p (.inl hp))
      have e2 := entH_sound (fun p hp => hx1 p (.inr hp))
      have hchk : ∀ x, A.inv x → (slotsOk (A.h x ++ dropH (A.h x) σ.h) (A.s x) = true ∧ heapOk (A.h x ++ dropH (A.h x) σ.h) (A.h x) = true) ∧
        (vc L Γ φ post k (.code b :: .lend A x (headOf A (dsts 20 b) σ) :: r) (headOf A (dsts 20 b) σ x)).holds := by
       intro x hx
       have := hall x hx
       split at this
       ·rename_i hc
        simp only [Bool.and_eq_true] at hc
        exact ⟨hc, this⟩
       ·exact this.elim
      have hdom : ∀ x n, ptrOk σ.h n = true → ptrOk (A.h x ++ dropH (A.h x) σ.h) n = true := by
       intro x n hn
       rw [ptrOk_iff] at hn ⊢
       unfold dm at hn ⊢
       rw [look_append]
       cases ho : look (A.h x) n with
       | some o => simp
       | none => rw [dropH_sub ho]; exact hn
      have hweak : ∀ x, A.inv x → ∀ (σ' : St) (β' : Bt) (a' : Act) (w' : World), Rel X β' σ' a' w' → (∀ k v, look (headOf A (dsts 20 b) σ x).s k = some v → ∃ c u, look σ'.s k = some u ∧ v = coA c u) →
        (∀ k o, look (headOf A (dsts 20 b) σ x).h k = some o → look σ'.h k = some o) → Rel X β' (headOf A (dsts 20 b) σ x) a' w' := by
       intro x hx σ' β' a' w' R' h1 h2
       obtain ⟨⟨c1, c2⟩, _⟩ := hchk x hx
       refine R'.weaken h1 h2 (fun m hm => ptrOk_iff.1 (hdom x m (ptrOk_iff.2 (R.be.d m hm)))) (fun k v hk => ?_) (fun k c hk => ?_)
       ·rw [look_append] at hk
        split at hk
        ·rename_i u hu
         injection hk with hk; subst hk
         exact slotsOk_sound c1 (look_mem hu)
        ·exact avOk_mono (hdom x) (R.ok1 (dropS_sub hk))
       ·rw [look_append] at hk
        split at hk
        ·rename_i u hu
         injection hk with hk; subst hk
         exact heapOk_sound c2 (look_mem hu)
        ·rename_i hu
         rw [dropH_sub hu] at hk
         exact lvsOk_mono (hdom x) (R.ok2 hk)
      refine wpIn_loop_ghost (fun m a w => ∃ x β, A.inv x ∧ A.m x = m ∧ Rel X β (headOf A (dsts 20 b) σ x) a w) ⟨A.m x0, x0, β, hx0, rfl, hweak x0 hx0 σ β a w R (fun k v hk => ?_) (fun k o hk => ?_)⟩ ?_
      ·rw [look_append] at hk
       split at hk
       ·rename_i u hu
        injection hk with hk; subst hk
        exact e1 k u (look_mem hu)
       ·exact ⟨.tup [], v, dropS_sub hk, (coA_none v).symm⟩
      ·rw [look_append] at hk
       split at hk
       ·rename_i u hu
        injection hk with hk; subst hk
        exact e2 k u (look_mem hu)
       ·rename_i hu
        rw [dropH_sub hu] at hk
        exact hk
      ·rintro m a1 w1 ⟨x, β1, hx, rfl, R1⟩
       have h1 := ih _ _ β1 a1 w1 (hchk x hx).2 R1
       refine wpIn_mono (Q := K F n P X Q (.lend A x (headOf A (dsts 20 b) σ) :: r)) h1 fun e a' w' he => ?_
       cases e with
       | normal =>
        obtain ⟨x', g1, g2, σ', β', R', g3, g4⟩ := he
        exact ⟨A.m x', g2, x', β', g1, rfl, hweak x' g1 σ' β' a' w' R' g3 g4⟩
       | exit id => exact he
       | goto l => exact he
       | ret => exact he
       | panic c => exact he
       | outgrown => exact he
     ·exact h.elim
    ·exact h.elim
   ·exact h.elim

theorem vc_sound (hF : Wide F) (hpr : X.b0.pr = P) (hL : LOk P L) (hΓ : ConOk P Γ) {φ : Fn} (hN : X.N = φ.N) (hrf : φ.rf = true → F.round = none ∧ X.mb ≤ X.w0.heap.size ∧ ∀ d, X.D0 d → φ.N ≤ d) (hD : ∀ (F : Fence) (n : Nat) (X : Cx), Wide F → X.N = φ.N → X.b0.pr = P → DrawOk P L Γ F n X φ.draw) {post : Ex → St → VC}
  (hQ : ∀ e β σ a w, (post e σ).holds → Rel X β σ a w → Q e.exit a w) (k : Nat) (items : List It) (σ : St) (β : Bt) (a : Act) (w : World) (h : (vc L Γ φ post k items σ).holds) (R : Rel X β σ a w) : K F n P X Q items .normal a w :=
 vc_core hL hΓ k hF hpr hN hD hrf hQ items σ β a w h R
end
end Go.Sy
namespace Go.Sy
variable {P : Program} {L : Nat → Option Lay} {Γ : Nat → Option Con} {F : Fence} {n : Nat}

theorem args0_look : ∀ {l : List TV} {i t : Nat} {v : AV}, look (args0 i l) t = some v → ∃ j x, t = i + j ∧ l[j]? = some x ∧ v = .t x
 | x :: l, i, t, v, h => by
  simp only [args0] at h
  rw [look_cons] at h
  split at h
  ·rename_i e
   injection h with h
   exact ⟨0, x, by omega, rfl, h.symm⟩
  ·obtain ⟨j, y, h1, h2, h3⟩ := args0_look h
   exact ⟨j + 1, y, by omega, by simpa using h2, h3⟩

section
variable {X : Cx} {β : Bt} {σ : St} {a : Act} {w : World}

def resM (tmps : Array Value) : ResultVar → Sem Value
 | .tmp t => pure (tmps.getD t undef)
 | .cell a t => do loadVar t (← asAddr (tmps.getD a undef))

theorem resOf_sound (hL : LOk P L) (R : Rel X β σ a w) : ∀ {rs : List ResultVar} {xs : List TV}, resOf L σ rs = some xs →
  ∃ vs, (rs.mapM (resM a.tmps)).run P w = .ok vs w ∧ All2 (VT w (Mt β (look σ.h)) β (dm (look σ.h))) xs vs
 | [], xs, h => by injection h with h; subst h; exact ⟨[], by simp, .nil⟩
 | .tmp t :: r, xs, h => by
  simp only [resOf] at h
  split at h
  ·rename_i x ys hx hys
   injection h with h; subst h
   obtain ⟨vs, h1, h2⟩ := resOf_sound hL R hys
   exact ⟨_ :: vs, by simp [resM, h1], .cons (R.sl _ _ hx).2 h2⟩
  ·cases h
 | .cell p t :: r, xs, h => by
  simp only [resOf] at h
  split at h
  ·rename_i q y ys hq hy hys
   split at h
   ·rename_i x hx
    injection h with h; subst h
    obtain ⟨vs, h1, h2⟩ := resOf_sound hL R hys
    obtain ⟨p', v, e1, e2, e3⟩ := loadFrom_sound hL R hy (R.sl _ _ hq).2 hx
    exact ⟨v :: vs, by simp [resM, asAddr, e1, e2, h1], .cons e3 h2⟩
   ·cases h
  ·cases h

theorem results_sound (hL : LOk P L) (R : Rel X β σ a w) {fn : Func} {xs : List TV} (h : resOf L σ fn.results.toList = some xs) :
  ∃ v, (results fn a.tmps).run P w = .ok v w ∧ VA w (Mt β (look σ.h)) β (dm (look σ.h)) (resAV xs) v := by
 obtain ⟨vs, h1, h2⟩ := resOf_sound hL R h
 have hrun : (results fn a.tmps).run P w = .ok (if h : vs.toArray.size = 1 then vs.toArray[0] else .tuple vs.toArray) w := by
  have hres : results fn a.tmps = (fn.results.mapM (resM a.tmps) >>= fun vs => pure (if h : vs.size = 1 then vs[0] else .tuple vs)) := by
   unfold results
   congr 1
  rw [hres, Sem.run_bind, Array.mapM_eq_mapM_toList, Sem.run_map, h1]
  rfl
 refine ⟨_, hrun, ?_⟩
 cases h2 with
 | nil => exact ⟨#[], rfl, .nil⟩
 | @cons x v xs vs h3 h4 =>
  cases h4 with
  | nil => exact h3
  | @cons x' v' xs vs h5 h6 => exact ⟨(v :: v' :: vs).toArray, by simp, .cons h3 (.cons h5 h6)⟩
end

theorem Rel.unmark {X : Cx} {β : Bt} {σ : St} {t : Array Value} {d : Deferred} {ds : List Deferred} {w : World} {k : Nat} (R : Rel X β σ { tmps := t, defers := d :: ds } w) (hd : d = { target := .collected k, args := #[] }) (hk : w.heap[k]? = some (Obj.deferred (some [])))
  (hmb : X.w0.heap.size ≤ X.mb) (hb : X.mb ≤ k) (hm : β.m k 0) (hn : d ∉ ds) : Rel X β σ { tmps := t, defers := ds } (w.putObj k (.deferred none)) := by
 have hlt : k < w.heap.size := (Array.getElem?_eq_some_iff.1 hk).1
 have hoth : ∀ j, j ≠ k → (w.putObj k (.deferred none)).heap[j]? = w.heap[j]? := fun j hj => World.putObj_heap_other hj
 have hcell : ∀ p : Addr, (w.putObj k (.deferred none)).cell? p = w.cell? p := fun p => by
  by_cases h : p.block = k
  ·unfold World.cell?
   rw [h, World.putObj_heap_same hlt, hk]
  ·exact cell_of_heap (hoth _ h)
 have hev : Evo (Mt β (look σ.h)) (Mt β (look σ.h)) w (w.putObj k (.deferred none)) := ⟨by simp, fun p _ _ => hcell p, fun _ _ _ h => h, fun j _ hj => hoth j fun e => hj 0 (by rw [e]; exact .inl hm), rfl, rfl, rfl⟩
 have hr : HR β (look σ.h) (w.putObj k (.deferred none)) := ⟨fun k' off h => by simpa using R.hr.m0 k' off h, fun n k' hn hk' => by simpa using R.hr.lt n k' hn hk', R.hr.fresh, R.hr.inj, R.hr.ye, fun n o ho =>
  (R.hr.blk n o ho).evo hev BEvo.refl rfl rfl rfl rfl (fun k' hk' => hoth k' fun e => R.hr.fresh n k 0 (by rw [ho]; simp) (by rw [← e]; exact hk') hm) fun hob => dis_of (fun k' off h => by simpa using R.hr.m0 k' off h) (fun n k' hn hk' => by simpa using R.hr.lt n k' hn hk') R.hr.fresh R.hr.inj ho hob, R.hr.gl.evo hev⟩
 refine ⟨R.tn, ?_, ?_, R.own, R.be, R.bm, hr, R.ev.trans hev, fun t v h => ⟨(R.sl t v h).1, VA.evo hev BEvo.refl (R.sl t v h).2⟩, fun t g q x h => ⟨(R.gd t g q x h).1, (R.gd t g q x h).2.imp (fun h => ⟨h.1, VT.evo hev BEvo.refl h.2⟩) id⟩⟩
 ·refine R.df.2.keep (fun _ _ h => h) fun k' _ h' hm => ?_
  rw [hoth k' fun e => hn (by rw [hd, ← e]; exact hm)]
  exact h'
 ·refine ⟨R.fr.os, R.fr.tape, R.fr.output, by simpa using R.fr.size, fun j hj hB => ?_⟩
  rw [hoth j (by omega), R.fr.block j hj hB]

theorem Rel.leaves {X : Cx} {β : Bt} {σ : St} {n : Nat} {F : Fence} {fn : Func} {Q : Ending → World → Prop} {a : Act} {w : World} (hmb : X.w0.heap.size ≤ X.mb) (R : Rel X β σ a w)
  (h : ∀ w', Rel X β σ { tmps := a.tmps, defers := [] } w' → ∃ v, (results fn a.tmps).run P w' = .ok v w' ∧ Q (.returned v) w') : LeavesInM F n P fn a.tmps Q a.defers .returning w := by
 obtain ⟨t, ds⟩ := a
 induction ds generalizing w with
 | nil => exact h w R
 | cons d ds ih =>
  obtain ⟨⟨k, h1, h2, h3, h4, h5⟩, h6⟩ := R.df
  refine ⟨by simp, .inl ⟨k, _, by rw [h1], run_takeDeferred h2, ih (R.unmark h1 h2 hmb h3 h4 h5) h⟩⟩

theorem fnOk_of_vc {f : FuncId} {fn : Func} {c : Code} {con : Con} (hL : LOk P L) (hΓ : ConOk P Γ) (hf : P.funcs[f]? = some fn) (hb : fn.body = some c)
  (henter : ∀ (args : Array Value) (w : World), (callFunc f args).run P w = .ok (.enter f args) w)
  (hcon : ∀ args hp fr cs r up, con args hp fr = some (cs, r, up) → (∀ c ∈ cs, c) →
   ∃ φ : Fn, fn.ntmps = φ.N ∧ (∀ (F : Fence) (n : Nat) (X : Cx), Wide F → X.N = φ.N → X.b0.pr = P → DrawOk P L Γ F n X φ.draw) ∧ up = [] ∧ args.length ≤ φ.N ∧ tvsOk [] args = true ∧ avOk [] r = true ∧ (vcFn L Γ φ fn.results.toList c args r).holds) : FnOk P f con := by
 refine ⟨henter, fun args hp fr cs r up hc hcs w β vals hpr hH hargs => ?_⟩
 obtain ⟨φ, hN, hD, rfl, hlen, hok, hrok, hvc⟩ := hcon args hp fr cs r up hc hcs
 rw [← callsIn_wide (n := 1)]
 let βc : Bt := ⟨fun _ => none, fun _ => none, Mt β hp, fun _ _ _ => False, fun _ _ _ _ _ => True, P⟩
 let X : Cx := { w0 := w, B0 := fun _ => False, N := φ.N, b0 := βc, D0 := fun _ => False, M := Mt β hp, mb := w.heap.size }
 have hlv : vals.length = args.length := hargs.length.symm
 refine callsIn_of_wp_marks hf hb trivial ?_
 have hMc : ∀ k off, Mt βc (look ([] : List (Nat × HO))) k off → Mt β hp k off := fun k off h => by
  rcases h with h | ⟨m, o, h1, _⟩
  ·exact h
  ·cases h1
 have hR0 : Rel X βc { s := args0 0 args, g := [], h := [] } { tmps := vals.toArray ++ Array.replicate (fn.ntmps - vals.toArray.size) undef, defers := [] } w := by
  have hall : All2 (VT w (Mt βc (look ([] : List (Nat × HO)))) βc (dm (look ([] : List (Nat × HO))))) args vals := VTs.any (Evo.less hMc) hargs hok
  refine ⟨?_, trivial, Fr.refl, fun m k hn => absurd rfl hn, ⟨fun m hm => hm.elim, fun m hm => hm.elim, fun m u hm => hm.elim, rfl⟩, fun _ _ h => h, ⟨?_, fun m k hn => absurd rfl hn, fun m k off hn => absurd rfl hn, fun m q k hn => absurd rfl hn, (fun m o hm => by cases hm), (fun m o hm => by cases hm), by have := hH.gl.evo (Evo.less hMc); rw [hpr] at this; exact this⟩, Evo.less hMc, fun t v h => ?_, fun t g b x h => by cases h⟩
  ·simp [hN, X]; omega
  ·rintro k off (h | ⟨m, o, h1, h2⟩)
   ·exact hH.m0 k off h
   ·exact hH.lt m k (by rw [h1]; simp) (h2.elim (fun h => .inl h.1) fun h => .inr ⟨off, h⟩)
  ·obtain ⟨j, x, h1, h2, rfl⟩ := args0_look h
   have hj : j < args.length := (List.getElem?_eq_some_iff.1 h2).1
   obtain ⟨u, hu, hv⟩ := hall.get h2
   refine ⟨by show t < φ.N; omega, ?_⟩
   have : (vals.toArray ++ Array.replicate (fn.ntmps - vals.toArray.size) undef).getD t undef = u := by
    rw [Array.getD_eq_getD_getElem?, Array.getElem?_append_left (by simp; omega)]
    have : t = j := by omega
    subst this
    simp [hu]
   rw [this]
   exact hv
 have hpost : ∀ β' σ a w', (postOf L fn.results.toList r σ).holds → Rel X β' σ a w' →
   LeavesInM Fence.wide 1 P fn a.tmps (fun e w' => ∃ v, e = .returned v ∧ FnPost hp (upd hp []) β r w w' v) a.defers .returning w' := by
  intro β' σ a w' hp0 R
  unfold postOf at hp0
  split at hp0
  ·rename_i xs hxs
   refine Rel.leaves (Nat.le_refl _) R fun w'' R' => ?_
   obtain ⟨v, hv1, hv2⟩ := results_sound hL R' hxs
   rcases hfz : frzA σ.h (resAV xs) with ⟨ps, y, es⟩
   rw [hfz] at hp0
   simp only at hp0
   have hp0 := VC.all_holds hp0
   obtain ⟨β', R', _, _, hy⟩ := frzA_sound R' hfz fun p hp => hp0 p (List.mem_append_left _ hp)
   have hv2 := hy v hv2
   have heq : coA r y = r := eqAV_sound fun p hp => hp0 p (List.mem_append_right _ hp)
   have hv2 := coA_sound (c := r) hv2
   rw [heq] at hv2
   have hup : upd hp [] = hp := by funext m; rfl
   have hm : ∀ k off, Mt β hp k off → β'.m k off := R'.bm
   refine ⟨v, hv1, v, rfl, ⟨β, ?_, fun _ _ h => h, ?_, ?_, ?_, ?_⟩, ?_⟩
   ·rw [hup]; exact BEvo.refl
   ·rw [hup]; exact hH.fr R'.fr
   ·rw [hup]
    exact VA.any (Evo.less fun k off h => .inl (hm k off h)) hv2 hrok
   ·intro m k hm hk
    exact .inl ⟨m, hm, hk⟩
   ·rw [hup]
    exact Evo.of_fr R'.fr (fun _ _ h => h.elim)
   ·exact ⟨R'.fr.os, R'.fr.tape, R'.fr.output, R'.fr.size, fun k hk _ => R'.fr.block k hk (fun h => h)⟩
  ·exact hp0.elim
 have := vc_sound (F := Fence.wide) (n := 1) (X := X) (Q := bodyPostM Fence.wide 1 P fn fun e w' => ∃ v, e = .returned v ∧ FnPost hp (upd hp []) β r w w' v) ⟨fun _ => trivial, rfl, rfl⟩ rfl hL hΓ (φ := φ) rfl (fun _ => ⟨rfl, Nat.le_refl _, fun _ h => h.elim⟩) hD
  (post := fun e σ => match e with | .ex _ => .ff | _ => postOf L fn.results.toList r σ) (fun e β' σ a w' h R => by cases e <;> first | exact hpost β' σ a w' h R | exact h.elim) 4000 [.code c] _ βc _ w hvc hR0
 exact this
end Go.Sy
