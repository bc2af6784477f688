/- A verified generator of conditions for this program, and its soundness: part G of the proof. -/
import Derived.Test.YtdkggjgmlccjcaaSyU
import Derived.TacticsIn
namespace Go.Sy
variable {P : Program} {L : Nat → Option Lay} {Γ : Nat → Option Con} {F : Fence} {n : Nat}

theorem All_iff : ∀ {ps : List Prop}, All ps ↔ ∀ p ∈ ps, p
  | [] => ⟨fun _ p hp => (by cases hp), fun _ => trivial⟩
  | [p] => ⟨fun h q hq => by rw [List.mem_singleton.1 hq]; exact h, fun h => h p (List.mem_singleton.2 rfl)⟩
  | p :: q :: r => ⟨fun h x hx => by
      rcases List.mem_cons.1 hx with e | hx
      · rw [e]; exact h.1
      · exact All_iff.1 h.2 x hx, fun h => ⟨h p (List.mem_cons_self ..), All_iff.2 fun x hx => h x (List.mem_cons_of_mem _ hx)⟩⟩

section
variable {X : Cx} {β : Bt} {σ : St} {a : Act} {w : World} {G : List (Nat × Bool)}

theorem wp_of_good (hF : Wide F) {o : Oper} {r : Res} {next : Act → World → Prop} {Q : Exit → Act → World → Prop} (hd : ∀ c, o.op ≠ .defer c) (h : OpGood P X σ a w o r)
    (hn : ∀ v w' β', Rel X β' { σ with h := upds r.h σ.h } a w' → VA w' (Mt β' (look (upds r.h σ.h))) β' (dm (look (upds r.h σ.h))) r.v v → (∀ p ∈ r.f, p) → next (a.put o.dst v) w') :
    o.wpIn F n P a w next Q := by
  obtain ⟨nx, w', β', v, hrun, hnx, hR, hva, hf⟩ := h
  refine ⟨fun _ _ => hF.fn _, ?_⟩
  rw [Oper.semAt_eq _ _ _ hd, hrun]
  rcases hnx with rfl | ⟨rfl, rfl⟩
  · exact hn _ _ _ hR hva hf
  · exact hn _ _ _ hR hva hf

/-! a loop over a function is handed something -/
theorem All2.cons_left {α : Type _} {β : Type _} {R : α → β → Prop} {x : α} {xs : List α} {m : List β} (h : All2 R (x :: xs) m) : ∃ y ys, m = y :: ys ∧ R x y ∧ All2 R xs ys := by
  cases h with
  | cons h1 h2 => exact ⟨_, _, rfl, h1, h2⟩
theorem unargs_sound {M : CM} {D : Nat → Prop} : ∀ {sg : List Ty} {xs : List TV} {x : (tpl sg).T} {vals : List Value}, unargs sg xs = some x → All2 (VT w M β D) xs vals → ArgsOk w M sg x vals := by
  intro sg
  induction sg with
  | nil =>
    intro xs x vals h h2
    cases xs with
    | nil => cases h2; rfl
    | cons => cases h
  | cons a r ih =>
    intro xs x vals h h2
    cases xs with
    | nil => cases h
    | cons y ys =>
      obtain ⟨u, us, rfl, h1, h3⟩ := h2.cons_left
      simp only [unargs] at h
      split at h
      · rename_i p q hp hq
        obtain rfl := Option.some.inj h
        exact ⟨_, _, rfl, arg1_sound hp h1, ih hq h3⟩
      · cases h
theorem ArgsOk.less {M M' : CM} (h : ∀ k off, M' k off → M k off) : ∀ {sg : List Ty} {x : (tpl sg).T} {vals : List Value}, ArgsOk w M sg x vals → ArgsOk w M' sg x vals := by
  intro sg
  induction sg with
  | nil => intro x vals hv; exact hv
  | cons a r ih =>
    intro x vals hv
    obtain ⟨v, vs, h1, h2, h3⟩ := hv
    exact ⟨v, vs, h1, h2.evo (Evo.less h), ih h3⟩

theorem Rel.yield (R : Rel X β σ a w) (hpr : X.b0.pr = P) {m : Nat} {sg : List Ty} {hist : List (tpl sg).T} {go : Lp (tpl sg).T} (hm : look σ.h m = some (.ob sg hist go)) {x : (tpl sg).T} {vals : List Value}
    (hargs : ArgsOk w (Mt β (look σ.h)) sg x vals) (hl : liveX go hist x) :
    ∃ k, β m = some k ∧ YieldAt Fence.wide 0 P k vals.toArray w fun e w' => e = .returned (.bool (go (hist ++ [x]))) ∧ ∃ β', Rel X β' { σ with h := (m, .ob sg (hist ++ [x]) go) :: σ.h } a w' := by
  have hmm : look σ.h m ≠ none := by rw [hm]; simp
  obtain ⟨h0, k, hk, hy, hJ⟩ := R.hr.blk m _ hm
  rw [R.be.pr.trans hpr] at hy
  refine ⟨k, hk, ?_⟩
  have hdis := dis_of R.hr.m0 R.hr.lt R.hr.fresh R.hr.inj hm rfl
  have hIlt : ∀ q off, (Mt β (look σ.h) q off ∧ ¬ β.ym m q off) → q < w.heap.size := fun q off h => by
    rcases h.1 with h | ⟨n', o', h1, h2⟩
    · exact R.hr.m0 q off h
    · exact R.hr.lt n' q (by rw [h1]; simp) (h2.elim (fun h => .inl h.1) fun h => .inr ⟨off, h⟩)
  have hcall := hy.call hist (β.ym m) _ w x vals hJ hIlt (fun q off off' h => (hdis q off h.1).2 off' h.2) hl (hargs.less fun q off h => h.elim (fun h => .inr ⟨m, _, hm, .inr h⟩) fun h => h.1)
  obtain ⟨fn, tmps, asg, bd, hrun, hround⟩ := hcall
  refine ⟨fn, tmps, asg, bd, hrun, hround.mono fun e w' ⟨he, Y', hJ', hchg, hY1, hY2, hY3⟩ => ⟨he, ?_⟩⟩
  let β' : Bt := ⟨β.b, β.o, β.m, fun n => if n = m then Y' else β.ym n, β.yj, β.pr⟩
  have hym : β'.ym m = Y' := by simp [β']
  have hyo : ∀ n, n ≠ m → β'.ym n = β.ym n := fun n hn => by simp [β', hn]
  have hln : look ((m, HO.ob sg (hist ++ [x]) go) :: σ.h) m = some (.ob sg (hist ++ [x]) go) := by rw [look_cons, if_pos rfl]
  have hlo : ∀ n, n ≠ m → look ((m, HO.ob sg (hist ++ [x]) go) :: σ.h) n = look σ.h n := fun n hn => by rw [look_cons, if_neg (Ne.symm hn)]
  have hin : ∀ n, look ((m, HO.ob sg (hist ++ [x]) go) :: σ.h) n ≠ none → look σ.h n ≠ none := fun n hn => by
    by_cases h : n = m
    · subst h; exact hmm
    · rw [hlo n h] at hn; exact hn
  have hbe : BEvo β β' (dm (look σ.h)) (dm (look ((m, HO.ob sg (hist ++ [x]) go) :: σ.h))) :=
    ⟨fun n hn => by
      unfold dm at hn ⊢
      by_cases h : n = m
      · subst h; rw [hln]; simp
      · rw [hlo n h]; exact hn, fun n _ h => ⟨h, rfl, rfl⟩, fun n u _ h => ⟨u, h, .inl rfl⟩, rfl⟩
  -- the blocks of a name: elder ones, or new ones
  have hbk : ∀ n q, bk β' n q → bk β n q ∨ (n = m ∧ w.heap.size ≤ q) := fun n q h => by
    by_cases hn : n = m
    · subst hn
      rcases h with h | ⟨off, h⟩
      · exact .inl (.inl h)
      · rw [hym] at h
        rcases hY1 q off h with ⟨off', h'⟩ | h'
        · exact .inl (.inr ⟨off', h'⟩)
        · exact .inr ⟨rfl, h'⟩
    · unfold bk at h ⊢
      rw [hyo n hn] at h
      exact .inl h
  have hMold : ∀ q off, β.ym m q off → Mt β (look σ.h) q off := fun q off h => .inr ⟨m, _, hm, .inr h⟩
  have hev : Evo (Mt β (look σ.h)) (Mt β' (look ((m, HO.ob sg (hist ++ [x]) go) :: σ.h))) w w' := by
    refine ⟨hchg.size, fun p hp hn => hchg.cell p hp fun h => hn (hMold _ _ h), fun q off hq hn hn' => hn ?_, fun q hq hn => hchg.blk q hq fun off h => hn off (hMold _ _ h), hchg.sys⟩
    rcases hn' with h | ⟨n, o, h1, h2⟩
    · exact .inl h
    · by_cases hn : n = m
      · subst hn
        rw [hln] at h1; injection h1 with h1; subst h1
        rcases h2 with ⟨_, h2⟩ | h2
        · exact h2.elim
        · rw [hym] at h2
          exact hMold _ _ (hY2 q off hq h2)
      · rw [hlo n hn] at h1
        rw [hyo n hn] at h2
        exact .inr ⟨n, o, h1, h2⟩
  have hfresh : ∀ n q off, look ((m, HO.ob sg (hist ++ [x]) go) :: σ.h) n ≠ none → bk β' n q → ¬ β'.m q off := fun n q off hn hq hM => by
    rcases hbk n q hq with h | ⟨_, h⟩
    · exact R.hr.fresh n q off (hin n hn) h hM
    · have := R.hr.m0 q off hM; omega
  have hinj : ∀ n n' q, look ((m, HO.ob sg (hist ++ [x]) go) :: σ.h) n ≠ none → look ((m, HO.ob sg (hist ++ [x]) go) :: σ.h) n' ≠ none → bk β' n q → bk β' n' q → n = n' := fun n n' q hn hn' h1 h2 => by
    rcases hbk n q h1 with g1 | ⟨e1, g1⟩ <;> rcases hbk n' q h2 with g2 | ⟨e2, g2⟩
    · exact R.hr.inj n n' q (hin n hn) (hin n' hn') g1 g2
    · have := R.hr.lt n q (hin n hn) g1; omega
    · have := R.hr.lt n' q (hin n' hn') g2; omega
    · rw [e1, e2]
  have hm0 : ∀ q off, β'.m q off → q < w'.heap.size := fun q off h => Nat.lt_of_lt_of_le (R.hr.m0 q off h) hchg.size
  have hlt' : ∀ n q, look ((m, HO.ob sg (hist ++ [x]) go) :: σ.h) n ≠ none → bk β' n q → q < w'.heap.size := fun n q hn hq => by
    by_cases h : n = m
    · subst h
      rcases hq with h | ⟨off, h⟩
      · exact Nat.lt_of_lt_of_le (R.hr.lt n q hmm (.inl h)) hchg.size
      · rw [hym] at h; exact hY3 q off h
    · rcases hbk n q hq with h' | ⟨h', _⟩
      · exact Nat.lt_of_lt_of_le (R.hr.lt n q (hin n hn) h') hchg.size
      · exact absurd h' h
  refine ⟨β', R.evo hev hbe (fun _ _ h => h) (fun q hq hd => ?_) ?_ (fun n q hn hq => ?_) ?_⟩
  · have hlt : q < w.heap.size := (Array.getElem?_eq_some_iff.1 hd).1
    rw [hchg.blk q hlt fun off h => R.hr.fresh m q 0 hmm (.inr ⟨off, h⟩) hq]
    exact hd
  · refine ⟨hchg.sys.1.trans R.fr.os, hchg.sys.2.1.trans R.fr.tape, hchg.sys.2.2.trans R.fr.output, Nat.le_trans R.fr.size hchg.size, fun q hq hB => ?_⟩
    rw [hchg.blk q (Nat.lt_of_lt_of_le hq R.fr.size) fun off h => ?_, R.fr.block q hq hB]
    rcases R.own m q hmm (.inr ⟨off, h⟩) with h | h
    · exact hB h
    · omega
  · rcases hbk n q hq with h | ⟨_, h⟩
    · exact R.own n q (hin n hn) h
    · exact .inr (Nat.le_trans R.fr.size h)
  · refine ⟨hm0, hlt', hfresh, hinj, fun n o hn ho => ?_, fun n o hn => ?_⟩
    · by_cases h : n = m
      · subst h; rw [hln] at hn; injection hn with hn; subst hn; cases ho
      · rw [hlo n h] at hn
        rw [hyo n h]
        exact R.hr.ye n o hn ho
    · by_cases h : n = m
      · subst h
        rw [hln] at hn; injection hn with hn; subst hn
        refine ⟨h0, k, hk, by show YOk β.pr _ _ _ _; rw [R.be.pr.trans hpr]; exact hy, ?_⟩
        rw [hym]
        refine hy.stay _ _ _ _ _ _ hJ' ⟨Nat.le_refl _, fun _ _ _ => rfl, fun _ _ _ => rfl, rfl, rfl, rfl⟩ (fun q off hq => ?_) (fun q off off' hq h => ?_)
        · rcases hq with ⟨hq, hn⟩
          rcases hq with hq | ⟨n', o', h1, h2⟩
          · refine .inl ⟨.inl hq, fun h => R.hr.fresh n q off hmm (.inr ⟨off, h⟩) hq⟩
          · by_cases h' : n' = n
            · subst h'
              rw [hln] at h1; injection h1 with h1; subst h1
              rcases h2 with ⟨_, h2⟩ | h2
              · exact h2.elim
              · rw [hym] at h2; exact absurd h2 hn
            · rw [hlo n' h'] at h1
              rw [hyo n' h'] at h2
              refine .inl ⟨.inr ⟨n', o', h1, h2⟩, fun h => h' ?_⟩
              exact R.hr.inj n' n q (by rw [h1]; simp) hmm (h2.elim (fun h => .inl h.1) fun h => .inr ⟨off, h⟩) (.inr ⟨off, h⟩)
        · have := (dis_of hm0 hlt' hfresh hinj hln rfl q off hq.1).2 off' (by rw [hym]; exact hq.2)
          rw [hym] at this
          exact this h
      · have hn' := hn
        rw [hlo n h] at hn
        refine (R.hr.blk n o hn).evo hev hbe rfl rfl (hyo n h) rfl (fun q hq => ?_) (fun hob => dis_of hm0 hlt' hfresh hinj hn' hob)
        exact hchg.blk q (R.hr.lt n q (by rw [hn]; simp) hq) fun off h' => h (R.hr.inj n m q (by rw [hn]; simp) hmm hq (.inr ⟨off, h'⟩))

theorem roundIn_of_wide {F : Fence} (hF : Wide F) {n l : Nat} {f : FuncId} {tmps : Array Value} {assign body : Code} {R : Ending → World → Prop} (h : RoundIn Fence.wide 0 P l f tmps assign body w R) : RoundIn F n P l f tmps assign body w R := by
  obtain ⟨_, h⟩ := h
  refine ⟨hF.fn f, fun c cs hr => ?_⟩
  obtain ⟨e, w', h1, h2⟩ := h c cs (room_wide _)
  refine ⟨e, w', h1, ?_⟩
  have hI : Machine.fenced P F = Machine.fenced P Fence.wide := by
    funext m
    unfold Machine.fenced Fence.room
    simp only [hF.dp, hF.al, Fence.wide]
    simp [hF.fn]
  rw [hI]
  exact h2

theorem good_yield (hF : Wide F) (hpr : X.b0.pr = P) (R : Rel X β σ a w) (hG : GOk a G) {o : Oper} {f : Operand} {args : Array Operand} {ts : Array TypeId} (ho : o.op = .call { callee := .value f, args := args, argTypes := ts })
    {r : Res} (h : aYield G σ f args.toList = some r) (hc : ∀ c ∈ r.c, c) {next : Act → World → Prop} {Q : Exit → Act → World → Prop}
    (hn : ∀ v w' β', Rel X β' { σ with h := upds r.h σ.h } a w' → VA w' (Mt β' (look (upds r.h σ.h))) β' (dm (look (upds r.h σ.h))) r.v v → (∀ p ∈ r.f, p) → next (a.put o.dst v) w') :
    o.wpIn F n P a w next Q := by
  unfold aYield at h
  split at h
  · rename_i m hf
    split at h
    · rename_i sg hist go xs hm hxs
      split at h
      · rename_i x hx
        obtain rfl := Option.some.inj h
        obtain ⟨k, hk, fn, tmps, asg, bd, hrun, hround⟩ := R.yield hpr hm (unargs_sound hx (stT_sound (mapT_sound R hG hxs))) (hc _ (by simp))
        have hfv := opT_sound R hG hf
        generalize hev : a.eval f = fv at hfv
        cases hfv with
        | @yl _ k' _ _ h3 =>
          obtain rfl : k' = k := Option.some.inj (h3.symm.trans hk)
          refine ⟨fun _ _ => hF.fn _, ?_⟩
          rw [semAt_call ho]
          have hrun' : (execOp a.eval o).run P w = .ok (.round k' fn tmps asg bd) w := by
            have ha : args.map a.eval = (args.toList.map a.eval).toArray := by rw [← Array.toList_map]
            simp only [execOp, ho, resolve, hev, Deferred.ofValue, Sem.run_bind, Sem.run_pure, Result.andThen_ok, invoke, ha]
            simp only [List.append_toArray]
            simpa using hrun
          rw [hrun']
          refine ⟨(fun h => by rw [hF.dp] at h; cases h), (roundIn_of_wide hF hround).mono ?_⟩
          rintro e w' ⟨rfl, β', R'⟩
          exact hn _ w' β' R' (VT.lit rfl) (by simp)
      · cases h
    · cases h
  · cases h

theorem aop0_sound (hF : Wide F) (hpr : X.b0.pr = P) (hL : LOk P L) (hΓ : ConOk P Γ) (R : Rel X β σ a w) (hG : GOk a G) {o : Oper} {r : Res} (h : aop0 L Γ G σ o = some r) (hc : ∀ c ∈ r.c, c) {next : Act → World → Prop} {Q : Exit → Act → World → Prop}
    (hn : ∀ v w' β', Rel X β' { σ with h := upds r.h σ.h } a w' → VA w' (Mt β' (look (upds r.h σ.h))) β' (dm (look (upds r.h σ.h))) r.v v → (∀ p ∈ r.f, p) → next (a.put o.dst v) w') :
    o.wpIn F n P a w next Q := by
  unfold aop0 at h
  split at h
  · rename_i x ho
    split at h
    · rename_i r' hr
      obtain rfl := Option.some.inj h
      exact wp_of_good hF (by simp [ho]) (good_nil R (.inl ho) hr) hn
    · split at h
      · rename_i v hv
        obtain rfl := Option.some.inj h
        exact wp_of_good hF (by simp [ho]) (good_move R hG (.inl ho) hv) hn
      · cases h
  · rename_i x ho
    split at h
    · rename_i r' hr
      obtain rfl := Option.some.inj h
      exact wp_of_good hF (by simp [ho]) (good_nil R (.inr ho) hr) hn
    · split at h
      · rename_i v hv
        obtain rfl := Option.some.inj h
        exact wp_of_good hF (by simp [ho]) (good_move R hG (.inr ho) hv) hn
      · cases h
  · rename_i ho; exact wp_of_good hF (by simp [ho]) (good_pick R hG ho h) hn
  · rename_i ho; exact wp_of_good hF (by simp [ho]) (good_alloc hL R ho h) hn
  · rename_i ho; exact wp_of_good hF (by simp [ho]) (good_box R hG ho h) hn
  · rename_i ho; exact wp_of_good hF (by simp [ho]) (good_build hL R hG ho h) hn
  · rename_i ho; exact wp_of_good hF (by simp [ho]) (good_rows hL R hG ho h) hn
  · rename_i ho; exact wp_of_good hF (by simp [ho]) (good_load hL R hG ho h) hn
  · rename_i ho; exact wp_of_good hF (by simp [ho]) (good_store hL R hG ho h) hn
  · rename_i ho
    split at h
    · rename_i r' hr
      obtain rfl := Option.some.inj h
      exact wp_of_good hF (by simp [ho]) (good_binW R hG ho hr hc) hn
    · split at h
      · rename_i r' hr
        obtain rfl := Option.some.inj h
        exact wp_of_good hF (by simp [ho]) (good_bin R hG ho hr hc) hn
      · split at h
        · rename_i r' hr
          obtain rfl := Option.some.inj h
          exact wp_of_good hF (by simp [ho]) (good_binB hL R hG ho hr) hn
        · exact wp_of_good hF (by simp [ho]) (good_binAgg hL R hG ho h) hn
  · rename_i ho; exact wp_of_good hF (by simp [ho]) (good_un R hG ho h) hn
  · rename_i ho; exact wp_of_good hF (by simp [ho]) (good_conv hL R hG ho h hc) hn
  · rename_i ho; exact wp_of_good hF (by simp [ho]) (good_func R hG ho h) hn
  · rename_i ho; exact wp_of_good hF (by simp [ho]) (good_field hL R hG ho h) hn
  · rename_i ho; exact wp_of_good hF (by simp [ho]) (good_index hL R hG ho h hc) hn
  · rename_i ho; exact wp_of_good hF (by simp [ho]) (good_slice hL R hG ho h hc) hn
  · rename_i ho; exact wp_of_good hF (by simp [ho]) (good_extract R hG ho h) hn
  · rename_i ho; exact wp_of_good hF (by simp [ho]) (good_make R ho h) hn
  · rename_i ho; exact wp_of_good hF (by simp [ho]) (good_look hL R hG ho h) hn
  · rename_i ho; exact wp_of_good hF (by simp [ho]) (good_upd hL R hG ho h) hn
  · rename_i ho
    split at h
    · rename_i r' hr
      obtain rfl := Option.some.inj h
      exact good_yield hF hpr R hG ho hr hc hn
    · have h0 := (good_call (F := F) hF (n := n) hpr hΓ R hG ho h hc (next := fun _ _ => True) (Q := Q) (fun _ _ _ _ _ => trivial)).1
      exact (good_call hF hpr hΓ R hG ho h hc (fun v w' β' hR hv => hn v w' β' hR hv (by rw [h0]; simp))).2
  · rename_i ho; exact wp_of_good hF (by simp [ho]) (good_builtin hL R hG ho h hc) hn
  · cases h

theorem aopV_sound (hF : Wide F) (hpr : X.b0.pr = P) (hL : LOk P L) (hΓ : ConOk P Γ) (R : Rel X β σ a w) (hG : GOk a G) {o : Oper} {r : Res} (hV : isV L G σ o = true) (h : aopV L Γ G σ o = some r) (hc : ∀ c ∈ r.c, c) {next : Act → World → Prop} {Q : Exit → Act → World → Prop}
    (hn : ∀ v w' β', Rel X β' { σ with h := upds r.h σ.h } a w' → VA w' (Mt β' (look (upds r.h σ.h))) β' (dm (look (upds r.h σ.h))) r.v v → (∀ p ∈ r.f, p) → next (a.put o.dst v) w') :
    o.wpIn F n P a w next Q := by
  unfold aopV at h
  split at h
  · rename_i x ho
    unfold isV at hV
    simp only [ho, Bool.and_eq_true] at hV
    exact wp_of_good hF (by simp [ho]) (good_vnil R (.inl ho) hV.1 h) hn
  · rename_i x ho
    unfold isV at hV
    simp only [ho, Bool.and_eq_true] at hV
    exact wp_of_good hF (by simp [ho]) (good_vnil R (.inr ho) hV.1 h) hn
  · rename_i ho; exact wp_of_good hF (by simp [ho]) (good_valloc hL R ho h) hn
  · rename_i ho; exact wp_of_good hF (by simp [ho]) (good_vrows hL R hG ho h) hn
  · rename_i ho; exact wp_of_good hF (by simp [ho]) (good_vload hL R hG ho h hc) hn
  · rename_i ho; exact wp_of_good hF (by simp [ho]) (good_vstore hL R hG ho h hc) hn
  · rename_i ho; exact wp_of_good hF (by simp [ho]) (good_vfield hL R hG ho h hc) hn
  · rename_i ho; exact wp_of_good hF (by simp [ho]) (good_vindex hL R hG ho h hc) hn
  · rename_i ho; exact wp_of_good hF (by simp [ho]) (good_vslice hL R hG ho h hc) hn
  · rename_i args ts ho
    split at h
    · rename_i s x hxs
      have hall := mapT_sound R hG hxs
      match hl : args.toList with
      | [p, q] =>
        rw [hl] at hall
        cases hall with
        | cons h1 h2 => cases h2 with
          | cons h2 _ => exact wp_of_good hF (by simp [ho]) (good_vappend hL R ho hl h1 h2 h hc) hn
      | [] => rw [hl] at hxs; cases hxs
      | [_] => have := hall.length; rw [hl] at this; simp at this
      | _ :: _ :: _ :: _ => have := hall.length; rw [hl] at this; simp at this
    · cases h
  · rename_i args ts ho
    split at h
    · rename_i n' k t hxs hts
      split at h
      · rename_i y hy
        split at h
        · rename_i s hel
          obtain rfl := Option.some.inj h
          exact wp_of_good hF (by simp [ho]) (good_vlen hL R hG ho hxs hts hy hel) hn
        · cases h
      · cases h
    · cases h
  · rename_i ho
    have h0 := (good_vcall (F := F) hF (n := n) hpr hΓ R hG ho h hc (next := fun _ _ => True) (Q := Q) (fun _ _ _ _ _ => trivial)).1
    exact (good_vcall hF hpr hΓ R hG ho h hc (fun v w' β' hR hv => hn v w' β' hR hv (by rw [h0]; simp))).2
  · cases h
theorem aop_sound (hF : Wide F) (hpr : X.b0.pr = P) (hL : LOk P L) (hΓ : ConOk P Γ) (R : Rel X β σ a w) (hG : GOk a G) {o : Oper} {r : Res} (h : aop L Γ G σ o = some r) (hc : ∀ c ∈ r.c, c) {next : Act → World → Prop} {Q : Exit → Act → World → Prop}
    (hn : ∀ v w' β', Rel X β' { σ with h := upds r.h σ.h } a w' → VA w' (Mt β' (look (upds r.h σ.h))) β' (dm (look (upds r.h σ.h))) r.v v → (∀ p ∈ r.f, p) → next (a.put o.dst v) w') :
    o.wpIn F n P a w next Q := by
  unfold aop at h
  split at h
  · rename_i hV; exact aopV_sound hF hpr hL hΓ R hG hV h hc hn
  · exact aop0_sound hF hpr hL hΓ R hG h hc hn

/-! guards -/
theorem boolOf_sound {M : CM} {D : Nat → Prop} {x : TV} {b : Bool} {v : Value} (h : boolOf x = some b) (hv : VT w M β D x v) : v = .bool b := by
  unfold boolOf at h
  split at h
  · obtain rfl := Option.some.inj h; exact VT.bool hv
  · cases h

theorem undef_bool (b : Bool) : undef ≠ Value.bool b := by simp [undef]

theorem guards_sound (R : Rel X β σ a w) : ∀ {G : List (Nat × Bool)} {gs : List Prop}, guards σ G = some gs →
    (All gs → GOk a G) ∧ (∀ t b r, G = (t, b) :: r → (a.tmps.getD t undef = .bool b → ∀ p ∈ gs, p))
  | [], gs, h => by
    obtain rfl := Option.some.inj h
    exact ⟨fun _ t b hh => by simp [has] at hh, fun t b r hh => by cases hh⟩
  | [(t, q)], gs, h => by
    unfold guards at h
    simp only at h
    split at h
    · cases h
    · split at h
      · rename_i x hx
        split at h
        · rename_i b hb
          obtain rfl := Option.some.inj h
          have hv := boolOf_sound hb (R.sl _ _ hx).2
          refine ⟨fun hall t' b' hh => ?_, fun t' b' r hh hv' => ?_⟩
          · simp only [has, Bool.or_false, Bool.and_eq_true, beq_iff_eq] at hh
            obtain ⟨rfl, rfl⟩ := hh
            rw [hv]
            have : b = q := hall
            rw [this]
          · cases hh
            rw [hv] at hv'
            intro p hp
            simp only [List.mem_singleton] at hp
            rw [hp]
            injection hv'
        · cases h
      · cases h
  | (t, q) :: (t', q') :: r, gs, h => by
    unfold guards at h
    simp only at h
    split at h
    · rename_i g v x hx
      split at h
      · rename_i hgv
        simp only [Bool.and_eq_true, beq_iff_eq] at hgv
        obtain ⟨rfl, rfl⟩ := hgv
        split at h
        · rename_i b l hb hl
          obtain rfl := Option.some.inj h
          obtain ⟨ih1, ih2⟩ := guards_sound R hl
          have hd := (R.gd _ _ _ _ hx).2
          refine ⟨fun hall t1 b1 hh => ?_, fun t1 b1 r1 hh hv' => ?_⟩
          · have hall' := All_iff.1 hall
            have hrest : GOk a ((g, v) :: r) := ih1 (All_iff.2 fun p hp => hall' p (by simp [hp]))
            simp only [has, Bool.or_eq_true, Bool.and_eq_true, beq_iff_eq] at hh
            rcases hh with ⟨rfl, rfl⟩ | hh
            · have hbq : b = q := hall' _ (List.mem_cons_self ..)
              have hg : a.tmps.getD g undef = .bool v := hrest _ _ (by simp [has])
              rcases hd with ⟨_, hd⟩ | ⟨hd, _⟩
              · rw [boolOf_sound hb hd, hbq]
              · exact absurd hg hd
            · exact hrest _ _ (by simpa [has] using hh)
          · cases hh
            rcases hd with ⟨hg, hd⟩ | ⟨_, hd⟩
            · have := boolOf_sound hb hd
              rw [this] at hv'
              intro p hp
              rcases List.mem_cons.1 hp with rfl | hp
              · injection hv'
              · exact ih2 _ _ _ rfl hg p hp
            · rw [hd] at hv'
              exact absurd hv' (undef_bool _)
        · cases h
      · cases h
    · cases h

theorem gbool_cons (σ : St) (t : Nat) (w : Bool) (q : Nat × Bool) (r : List (Nat × Bool)) : gbool σ ((t, w) :: q :: r) = match look σ.g t with
    | some (_, _, x) => match boolOf x, gbool σ (q :: r) with
      | some b, some c => some ((b == w) && c)
      | _, _ => none
    | none => none := rfl
theorem guards_cons (σ : St) (t : Nat) (w : Bool) (t' : Nat) (w' : Bool) (r : List (Nat × Bool)) : guards σ ((t, w) :: (t', w') :: r) = match look σ.g t with
    | some (g, v, x) => if g == t' && v == w' then
        match boolOf x, guards σ ((t', w') :: r) with
        | some b, some l => some ((b = w) :: l)
        | _, _ => none
      else none
    | none => none := rfl
theorem guards_bool (R : Rel X β σ a w) : ∀ {G : List (Nat × Bool)} {gs : List Prop} {c : Bool}, guards σ G = some gs → gbool σ G = some c → (c = true ↔ All gs)
  | [], gs, c, h, hc => by
    obtain rfl := Option.some.inj h
    obtain rfl := Option.some.inj hc
    exact ⟨fun _ => trivial, fun _ => rfl⟩
  | [(t, q)], gs, c, h, hc => by
    unfold guards at h
    unfold gbool at hc
    simp only at h hc
    split at h
    · cases h
    · rename_i hg
      rw [hg] at hc
      simp only at hc
      split at h
      · rename_i x hx
        rw [hx] at hc
        simp only at hc
        split at h
        · rename_i b hb
          rw [hb] at hc
          obtain rfl := Option.some.inj h
          obtain rfl := Option.some.inj hc
          simp [All]
        · cases h
      · cases h
  | (t, q) :: (t', q') :: r, gs, c, h, hc => by
    rw [guards_cons] at h
    rw [gbool_cons] at hc
    split at h
    · rename_i g v x hx
      rw [hx] at hc
      split at h
      · split at h
        · rename_i b l hb hl
          simp only [hb] at hc
          split at hc
          · rename_i b' c' hb' hc'
            injection hb' with hb'
            subst hb'
            obtain rfl := Option.some.inj h
            obtain rfl := Option.some.inj hc
            have ih := guards_bool R hl hc'
            rw [Bool.and_eq_true, ih]
            cases l with
            | nil => simp [All]
            | cons p l => simp [All]
          · cases hc
        · cases h
      · cases h
    · cases h
theorem Rel.congrH (R : Rel X β σ a w) {h' : List (Nat × HO)} (e : look h' = look σ.h) : Rel X β { σ with h := h' } a w := by
  refine ⟨R.tn, R.df, R.fr, ?_, ?_, R.bm, ?_, ?_, ?_, ?_⟩
  · simp only [e]; exact R.own
  · simp only [e]; exact R.be
  · simp only [e]; exact R.hr
  · simp only [e]; exact R.ev
  · simp only [e]; exact R.sl
  · simp only [e]; exact R.gd
theorem look_same {h : List (Nat × HO)} {n : Nat} {o : HO} (e : look h n = some o) : look ((n, o) :: h) = look h := by
  funext k
  rw [look_cons]
  split
  · rename_i hk; rw [← hk, e]
  · rfl
theorem gupd1_true {old : Option HO} {new o : HO} {ps : List Prop} (h : gupd1 true old new = some (ps, o)) (hp : ∀ p ∈ ps, p) : o = new := by
  unfold gupd1 at h
  split at h
  · injection h with h; injection h with h1 h2; rw [← h2]; rfl
  · rename_i e sz l e' sz' l'
    split at h
    · rename_i hc
      obtain ⟨rfl, rfl⟩ := hc
      injection h with h; injection h with h1 h2; rw [← h2]; rfl
    · cases h
  · split at h
    · rename_i e _
      subst e
      injection h with h; injection h with h1 h2
      rw [← h2]
      have := hp _ (by rw [← h1]; exact List.mem_singleton.2 rfl)
      simp only at this
      rw [this]; rfl
    · cases h
  · cases h
theorem gupd1_false {old : Option HO} {new o : HO} {ps : List Prop} (h : gupd1 false old new = some (ps, o)) : old = some o ∨ (old = none ∧ ∃ e sz, o = .gr e sz 0) := by
  unfold gupd1 at h
  split at h
  · injection h with h; injection h with h1 h2; exact .inr ⟨rfl, _, _, h2.symm⟩
  · split at h
    · injection h with h; injection h with h1 h2; rw [← h2]; exact .inl rfl
    · cases h
  · split at h
    · injection h with h; injection h with h1 h2; rw [← h2]; exact .inl rfl
    · cases h
  · cases h

theorem getD_put {a : Act} {d : Nat} {v : Value} {t : Nat} (hd : d < a.tmps.size) : (a.put (some d) v).tmps.getD t undef = if t = d then v else a.tmps.getD t undef := by
  simp only [Act.put, Array.getD_eq_getD_getElem?, Array.getElem?_setIfInBounds]
  by_cases h : d = t
  · subst h; simp [hd]
  · have h' : ¬ t = d := fun e => h e.symm
    simp [h, h']

theorem gfree_spec : ∀ {g : List (Nat × (Nat × Bool × TV))} {d : Nat}, gfree d g = true → look g d = none ∧ ∀ t q b x, look g t = some (q, b, x) → q ≠ d
  | [], _, _ => ⟨rfl, fun _ _ _ _ h => by cases h⟩
  | (t, (q, b, x)) :: r, d, h => by
    simp only [gfree, Bool.and_eq_true, bne_iff_ne, ne_eq] at h
    obtain ⟨h1, h2, h3⟩ := h
    obtain ⟨i1, i2⟩ := gfree_spec h3
    refine ⟨by rw [look_cons, if_neg h1]; exact i1, fun t' q' b' x' hl => ?_⟩
    rw [look_cons] at hl
    split at hl
    · injection hl with hl; injection hl with hl; rw [← hl]; exact h2
    · exact i2 _ _ _ _ hl

/-- a slot is written -/
theorem Rel.put (R : Rel X β σ a w) {d : Nat} {v : AV} {u : Value} (hd : d < X.N) (hg : gfree d σ.g = true) (hv : VA w (Mt β (look σ.h)) β (dm (look σ.h)) v u) :
    Rel X β { σ with s := (d, v) :: σ.s } (a.put (some d) u) w := by
  have hd' : d < a.tmps.size := by rw [R.tn]; exact hd
  obtain ⟨g1, g2⟩ := gfree_spec hg
  refine ⟨by simp [Act.put, R.tn], R.df, R.fr, R.own, R.be, R.bm, R.hr, R.ev, fun t x h => ?_, fun t g b x h => ?_⟩
  · simp only [look_cons] at h
    rw [getD_put hd']
    by_cases hdt : d = t
    · subst hdt
      simp at h
      subst h
      exact ⟨hd, by simpa using hv⟩
    · rw [if_neg hdt] at h
      rw [if_neg (fun e => hdt e.symm)]
      exact R.sl t x h
  · have hgd : g ≠ d := g2 _ _ _ _ h
    have htd : t ≠ d := fun e => by rw [e, g1] at h; cases h
    rw [getD_put hd', getD_put hd', if_neg hgd, if_neg htd]
    exact R.gd t g b x h

/-- a slot is written under a guard, or left undefined -/
theorem Rel.putG (R : Rel X β σ a w) {d t : Nat} {b : Bool} {v : TV} {u : Value} (hd : d < X.N) (hg : gfree d σ.g = true) (hs : look σ.s d = none) (hdt : d ≠ t)
    (hv : (a.tmps.getD t undef = .bool b ∧ VT w (Mt β (look σ.h)) β (dm (look σ.h)) v u) ∨ (a.tmps.getD t undef ≠ .bool b ∧ u = undef)) :
    Rel X β { σ with g := (d, (t, b, v)) :: σ.g } (a.put (some d) u) w := by
  have hd' : d < a.tmps.size := by rw [R.tn]; exact hd
  obtain ⟨g1, g2⟩ := gfree_spec hg
  refine ⟨by simp [Act.put, R.tn], R.df, R.fr, R.own, R.be, R.bm, R.hr, R.ev, fun t' x h => ?_, fun t' g b' x h => ?_⟩
  · have : t' ≠ d := fun e => by rw [e] at h; simp only at h; rw [hs] at h; cases h
    rw [getD_put hd', if_neg this]
    exact R.sl t' x h
  · simp only [look_cons] at h
    by_cases hdt' : d = t'
    · subst hdt'
      simp at h
      obtain ⟨rfl, rfl, rfl⟩ := h
      rw [getD_put hd', getD_put hd', if_pos rfl, if_neg (fun e => hdt e.symm)]
      exact ⟨hd, hv⟩
    · rw [if_neg hdt'] at h
      rw [getD_put hd', getD_put hd', if_neg (g2 _ _ _ _ h), if_neg (fun e => hdt' e.symm)]
      exact R.gd t' g b' x h

theorem wanted_iff {ops : Array Oper} {o : Oper} {j : Nat} {b : Bool} {t : Nat} {oj : Oper} (ho : o.guard = some (j, b)) (hj : ops[j]? = some oj) (ht : oj.dst = some t) (hts : t < a.tmps.size) :
    Region.wanted o (yielded ops a.tmps) = true ↔ a.tmps.getD t undef = .bool b := by
  simp only [Region.wanted, ho, yielded, hj, ht, Option.bind_some, beq_iff_eq]
  rw [Array.getD_eq_getD_getElem?, Array.getElem?_eq_getElem hts]
  simp only [Option.getD_some]
  constructor
  · intro h
    split at h
    · rename_i b' hb
      injection hb with hb
      injection h with h
      rw [hb, h]
    · cases h
  · intro h; rw [h]

theorem ands_cds {gs : List Prop} {r : Res} {v : VC} (h : (VC.ands (cds gs r) v).holds) : (All gs → (∀ c ∈ r.c, c) ∧ ((∀ p ∈ r.f, p) → v.holds)) ∧ (gs ≠ [] → (All gs → ∀ p ∈ r.f, p) → v.holds) := by
  unfold cds at h
  split at h
  · refine ⟨fun _ => ?_, fun h => absurd rfl h⟩
    have key : ∀ (cs : List Prop) (u : VC), (VC.ands (cs.map Cd.ob) u).holds → (∀ c ∈ cs, c) ∧ u.holds := by
      intro cs
      induction cs with
      | nil => intro u h; exact ⟨by simp, h⟩
      | cons c cs ih =>
        intro u h
        obtain ⟨h1, h2⟩ := h
        obtain ⟨h3, h4⟩ := ih u h2
        exact ⟨fun x hx => by rcases List.mem_cons.1 hx with rfl | hx; exact h1; exact h3 x hx, h4⟩
    have keyf : ∀ (cs : List Prop) (u : VC), (VC.ands (cs.map Cd.fact) u).holds → (∀ c ∈ cs, c) → u.holds := by
      intro cs
      induction cs with
      | nil => intro u h _; exact h
      | cons c cs ih => intro u h hc; exact ih u (h (hc c (by simp))) (fun x hx => hc x (by simp [hx]))
    have app : ∀ (cs ds : List Cd) (u : VC), VC.ands (cs ++ ds) u = VC.ands cs (VC.ands ds u) := by
      intro cs
      induction cs with
      | nil => intro ds u; rfl
      | cons c cs ih => intro ds u; cases c <;> simp [VC.ands, ih]
    rw [app] at h
    obtain ⟨h1, h2⟩ := key _ _ h
    exact ⟨h1, keyf _ _ h2⟩
  · have h1 : (∀ c ∈ r.c, All gs → c) ∧ (VC.ands (match r.f with | [] => [] | fs => [.fact (All gs → All fs)]) v).holds := by
      split at h
      · rename_i hr; rw [hr]; exact ⟨by simp, h⟩
      · obtain ⟨h1, h2⟩ := h
        exact ⟨fun c hc hg => All_iff.1 (h1 hg) c hc, h2⟩
    have h2 : (All gs → ∀ p ∈ r.f, p) → v.holds := by
      have := h1.2
      split at this
      · intro _; exact this
      · intro hf; exact this fun hg => All_iff.2 (hf hg)
    exact ⟨fun hg => ⟨fun c hc => h1.1 c hc hg, fun hf => h2 fun _ => hf⟩, fun _ => h2⟩

theorem chain_cons {ops : List Oper} {o : Oper} {t : Nat} {b : Bool} {r : List (Nat × Bool)} (h : chain ops 10 o.guard = (t, b) :: r) : ∃ j oj, o.guard = some (j, b) ∧ ops[j]? = some oj ∧ oj.dst = some t := by
  unfold chain at h
  split at h
  · rename_i h0; cases h0
  · cases h
  · rename_i k j b' _ hg
    split at h
    · rename_i oj hj
      split at h
      · rename_i t' ht
        injection h with h1 h2
        injection h1 with h3 h4
        subst h3 h4
        exact ⟨j, oj, hg, hj, ht⟩
      · cases h
    · cases h

/-- one operation of a region -/
theorem step_sound (hF : Wide F) (hpr : X.b0.pr = P) (hL : LOk P L) (hΓ : ConOk P Γ) (R : Rel X β σ a w) {ops : Array Oper} {o : Oper} {cs : List Cd} {σ' : St} {v : VC} (h : astep L Γ X.N ops.toList o σ = some (cs, σ')) (hv : (VC.ands cs v).holds)
    {next : Act → World → Prop} {Q : Exit → Act → World → Prop} (hn : ∀ a' w' β', Rel X β' σ' a' w' → v.holds → next a' w') :
    if Region.wanted o (yielded ops a.tmps) then o.wpIn F n P a w next Q else (∀ f, o.about P w a.eval = some f → F.fn f) ∧ next (a.put o.dst undef) w := by
  unfold astep at h
  split at h
  · cases h
  rename_i hchk
  split at h
  · cases h
  · rename_i gs hgs
    obtain ⟨hg1, hg2⟩ := guards_sound R hgs
    split at h
    · cases h
    · rename_i r hr
      split at h
      · -- no slot, no guard
        rename_i hdst hch
        have hgn : o.guard = none := by
          cases hgd : o.guard with
          | none => rfl
          | some g => rw [hgd, ← hgd, hch] at hchk; simp [hgd] at hchk
        injection h with h; injection h with h1 h2; subst h1 h2
        rw [hch] at hgs hr
        obtain rfl := Option.some.inj hgs
        have hh := (ands_cds hv).1 trivial
        have hw : Region.wanted o (yielded ops a.tmps) = true := by simp [Region.wanted, hgn]
        rw [if_pos hw]
        have hr : aop L Γ [] σ o = some r := by unfold aopG at hr; split at hr <;> first | (injection hr with hr; rw [← hr]; assumption) | cases hr
        refine aop_sound hF hpr hL hΓ R (by rw [hch] at hg1; exact hg1 trivial) hr hh.1 fun u w' β' hR _ hf => ?_
        rw [hdst]
        exact hn _ _ _ hR (hh.2 hf)
      · cases h
      · -- a slot, no guard
        rename_i d hdst hch
        split at h
        · rename_i hfree
          simp only [Bool.and_eq_true, decide_eq_true_eq] at hfree
          have hgn : o.guard = none := by
            cases hgd : o.guard with
            | none => rfl
            | some g => rw [hgd, ← hgd, hch] at hchk; simp [hgd] at hchk
          injection h with h; injection h with h1 h2; subst h1 h2
          rw [hch] at hgs hr
          obtain rfl := Option.some.inj hgs
          have hh := (ands_cds hv).1 trivial
          have hw : Region.wanted o (yielded ops a.tmps) = true := by simp [Region.wanted, hgn]
          rw [if_pos hw]
          have hr : aop L Γ [] σ o = some r := by unfold aopG at hr; split at hr <;> first | (injection hr with hr; rw [← hr]; assumption) | cases hr
          refine aop_sound hF hpr hL hΓ R (by rw [hch] at hg1; exact hg1 trivial) hr hh.1 fun u w' β' hR hva hf => ?_
          rw [hdst]
          exact hn _ _ _ (hR.put hfree.2 hfree.1 hva) (hh.2 hf)
        · cases h
      · -- a slot, under a guard
        rename_i d t b rest hdst hch
        split at h
        · rename_i hfree
          simp only [Bool.and_eq_true, decide_eq_true_eq, bne_iff_ne, ne_eq] at hfree
          obtain ⟨hfree, hdt, hdN⟩ := hfree
          split at h
          · rename_i x hx hs
            injection h with h; injection h with h1 h2; subst h1 h2
            have hr' := hr
            unfold aopG at hr'
            split at hr'
            case h_2 => cases hr'
            rename_i r0 hr0
            obtain ⟨j, oj, hgd, hj, ht⟩ := chain_cons hch
            have hjo : ops[j]? = some oj := by simpa using hj
            have htN : t < a.tmps.size := by
              by_cases htN : t < a.tmps.size
              · exact htN
              · exfalso
                rw [hch] at hgs
                unfold guards at hgs
                rw [R.tn] at htN
                cases rest with
                | nil =>
                  simp only at hgs
                  split at hgs
                  · cases hgs
                  · split at hgs
                    · rename_i y hy; exact htN (R.sl _ _ hy).1
                    · cases hgs
                | cons q rest =>
                  simp only at hgs
                  split at hgs
                  · rename_i y hy; exact htN (R.gd _ _ _ _ hy).1
                  · cases hgs
            have hwi := wanted_iff (a := a) hgd hjo ht htN
            have hgne : gs ≠ [] := by
              rw [hch] at hgs
              intro h0
              rw [h0] at hgs
              unfold guards at hgs
              cases rest with
              | nil =>
                simp only at hgs
                split at hgs
                · cases hgs
                · split at hgs
                  · split at hgs <;> simp at hgs
                  · cases hgs
              | cons q rest =>
                simp only at hgs
                split at hgs
                · split at hgs
                  · split at hgs <;> simp at hgs
                  · cases hgs
                · cases hgs
            by_cases hw : Region.wanted o (yielded ops a.tmps) = true
            · rw [if_pos hw]
              have hall : All gs := All_iff.2 (hg2 t b rest hch (hwi.1 hw))
              have hh := (ands_cds hv).1 hall
              have hsame : r.h = r0.h ∧ r.v = r0.v ∧ r.f = r0.f ∧ ∀ c ∈ r0.c, c := by
                rw [hch] at hr'
                unfold gres at hr'
                split at hr'
                · injection hr' with hr'; rw [hr']; exact ⟨rfl, rfl, rfl, hh.1⟩
                · injection hr' with hr'; rw [hr']; exact ⟨rfl, rfl, rfl, hh.1⟩
                · rename_i n o' hh1 _
                  split at hr'
                  · rename_i c hc
                    split at hr'
                    · rename_i ps o'' hgu
                      injection hr' with hr'
                      have hc1 := hh.1
                      rw [← hr'] at hc1
                      have hct : c = true := (guards_bool R (hch ▸ hgs) hc).2 hall
                      subst hct
                      have := gupd1_true hgu fun p hp => hc1 p (List.mem_append_right _ hp)
                      subst this
                      rw [← hr']
                      exact ⟨hh1.symm, rfl, rfl, fun c hc => hc1 c (List.mem_append_left _ hc)⟩
                    · cases hr'
                  · cases hr'
                · cases hr'
              refine aop_sound hF hpr hL hΓ R (hg1 hall) hr0 hsame.2.2.2 fun u w' β' hR hva hf => ?_
              rw [hdst]
              rw [← hsame.1] at hR hva
              rw [← hsame.2.1, hx] at hva
              exact hn _ _ _ (Rel.putG hR hdN hfree hs hdt (.inl ⟨hwi.1 hw, hva⟩)) (hh.2 (hsame.2.2.1 ▸ hf))
            · rw [if_neg hw]
              refine ⟨fun f _ => hF.fn f, ?_⟩
              have hnw : a.tmps.getD t undef ≠ .bool b := fun h => hw (hwi.2 h)
              have hna : ¬ All gs := fun hall => hnw (hg1 hall t b (by rw [hch]; simp [has]))
              rw [hdst]
              obtain ⟨β', R'⟩ : ∃ β', Rel X β' { σ with h := upds r.h σ.h } a w := by
                rw [hch] at hr'
                unfold gres at hr'
                split at hr'
                · rename_i hG; cases hG
                · rename_i hh1 _
                  injection hr' with hr'
                  rw [← hr', hh1]
                  exact ⟨β, R⟩
                · rename_i n o' hh1 _
                  split at hr'
                  · rename_i c hc
                    split at hr'
                    · rename_i ps o'' hgu
                      injection hr' with hr'
                      have hcf : c = false := by
                        cases c with
                        | false => rfl
                        | true => exact absurd ((guards_bool R (hch ▸ hgs) hc).1 rfl) hna
                      subst hcf
                      rw [← hr']
                      rcases gupd1_false hgu with ho | ⟨ho, e, sz, rfl⟩
                      · exact ⟨β, R.congrH (look_same ho)⟩
                      · obtain ⟨β', R', _⟩ := R.nilOwn ho e sz
                        exact ⟨β', R'⟩
                    · cases hr'
                  · cases hr'
                · cases hr'
              exact hn _ _ _ (R'.putG hdN hfree hs hdt (.inr ⟨hnw, rfl⟩)) ((ands_cds hv).2 hgne fun h => absurd h hna)
          · cases h
        · cases h

theorem ands_append : ∀ (cs ds : List Cd) (u : VC), VC.ands (cs ++ ds) u = VC.ands cs (VC.ands ds u)
  | [], _, _ => rfl
  | .ob _ :: cs, ds, u => by simp [VC.ands, ands_append cs]
  | .fact _ :: cs, ds, u => by simp [VC.ands, ands_append cs]

/-- a region in the text's order -/
theorem steps_sound (hF : Wide F) (hpr : X.b0.pr = P) (hL : LOk P L) (hΓ : ConOk P Γ) {ops : Array Oper} {Q : Exit → Act → World → Prop} {v : VC} {σe : St} (hn : ∀ a' w' β', Rel X β' σe a' w' → v.holds → Q .normal a' w') :
    ∀ {l : List Oper} {cs : List Cd} {β : Bt} {σ : St} {a : Act} {w : World}, Rel X β σ a w → asteps L Γ X.N ops.toList l σ = some (cs, σe) → (VC.ands cs v).holds → wpListIn F n P ops Q l a w
  | [], cs, β, σ, a, w, R, h, hv => by
    injection h with h; injection h with h1 h2; subst h1 h2
    exact hn _ _ _ R hv
  | o :: l, cs, β, σ, a, w, R, h, hv => by
    unfold asteps at h
    split at h
    · rename_i c1 σ1 h1
      split at h
      · rename_i c2 σ2 h2
        injection h with h; injection h with e1 e2; subst e1 e2
        rw [ands_append] at hv
        exact step_sound hF hpr hL hΓ R h1 hv fun a' w' β' R' hv' => steps_sound hF hpr hL hΓ hn R' h2 hv'
      · cases h
    · cases h
end
end Go.Sy
