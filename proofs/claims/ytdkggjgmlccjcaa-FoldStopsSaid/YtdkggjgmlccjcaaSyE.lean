/- A verified generator of conditions for this program, and its soundness: part E of the proof. -/
import Derived.Test.YtdkggjgmlccjcaaSyD
import Derived.IntWalk
namespace Go.Sy
variable {P : Program} {L : Nat → Option Lay}

section
variable {X : Cx} {β : Bt} {σ : St} {a : Act} {w : World} {G : List (Nat × Bool)}

def OpGood (P : Program) (X : Cx) (σ : St) (a : Act) (w : World) (o : Oper) (r : Res) : Prop :=
  ∃ nx w' β' v, (execOp a.eval o).run P w = .ok nx w' ∧ (nx = .value v ∨ (nx = .skip ∧ v = undef)) ∧ Rel X β' { σ with h := upds r.h σ.h } a w' ∧
    VA w' (Mt β' (look (upds r.h σ.h))) β' (dm (look (upds r.h σ.h))) r.v v ∧ ∀ p ∈ r.f, p

/-- an operation that leaves the world alone -/
theorem OpGood.pure {o : Oper} {r : Res} (R : Rel X β σ a w) {v : Value} (h : (execOp a.eval o).run P w = .ok (.value v) w) (hh : r.h = [])
    (hv : VA w (Mt β (look σ.h)) β (dm (look σ.h)) r.v v) (hf : ∀ p ∈ r.f, p) : OpGood P X σ a w o r := by
  refine ⟨.value v, w, β, v, h, .inl rfl, ?_, ?_, hf⟩
  · rw [hh]; exact R
  · rw [hh]; exact hv

theorem VT.lit {M : CM} {D : Nat → Prop} {v : Value} (h : v.oneCell' = true) : VT w M β D (.one (.d (.lit v))) v := VL.d (.lit h)
theorem VT.int {M : CM} {D : Nat → Prop} {v : Value} {k : IntKind} {n : Int} (h : VT w M β D (.one (.d (.lit (.int k n)))) v) : v = .int k n := by
  cases h with | d h => cases h; rfl
theorem VT.bool {M : CM} {D : Nat → Prop} {v : Value} {b : Bool} (h : VT w M β D (.one (.d (.lit (.bool b)))) v) : v = .bool b := by
  cases h with | d h => cases h; rfl

/-- a nil slice with the room that it has not -/
theorem Rel.nilOwn (R : Rel X β σ a w) {n : Nat} (hn : look σ.h n = none) (e sz : Nat) :
    ∃ β' : Bt, Rel X β' { σ with h := (n, .gr e sz 0) :: σ.h } a w ∧ ∀ τ : Ty, VL w (Mt β' (look ((n, HO.gr e sz 0) :: σ.h))) β' (dm (look ((n, HO.gr e sz 0) :: σ.h))) (.own n (.sl τ [])) (.slice none 0 0) := by
  have hno : ∀ o0, look σ.h n = some o0 → False := fun o0 h => by rw [hn] at h; cases h
  obtain ⟨β', h1, h2, h3, h4, h5⟩ := R.set n (.gr e sz 0) (fun o0 h => (hno o0 h).elim) none (some (.slice none 0 0)) (w' := w) rfl rfl rfl (Nat.le_refl _) (fun _ _ _ => rfl) (fun o0 _ h => (hno o0 h).elim) (fun k hk => by cases hk)
    (fun o0 h => (hno o0 h).elim) (fun β' g1 g2 hev hbe => .inl ⟨g2, g1, rfl⟩)
  exact ⟨β', h1, fun τ => .own .nil ⟨by simp [dm, look_cons], _, h3, Nat.le_refl _, fun _ => rfl⟩⟩

theorem good_move (R : Rel X β σ a w) (hG : GOk a G) {o : Oper} {x : Operand} (ho : o.op = .move x ∨ o.op = .assign x) {v : AV} (h : opd G σ x = some v) : OpGood P X σ a w o { v := v } := by
  refine OpGood.pure R (v := a.eval x) ?_ rfl (opd_sound R hG h) (by simp)
  rcases ho with ho | ho <;> simp [execOp, ho]

theorem rmFree_spec {dst : Option Tmp} {n : Nat} (h : rmFree σ dst = some n) : look σ.h n = none ∧ ∃ d, dst = some d ∧ n = rm d := by
  unfold rmFree at h
  split at h
  · rename_i d
    split at h
    · rename_i hn
      obtain rfl := Option.some.inj h
      exact ⟨hn, d, rfl, rfl⟩
    · cases h
  · cases h

theorem good_nil (R : Rel X β σ a w) {o : Oper} {x : Operand} (ho : o.op = .move x ∨ o.op = .assign x) {r : Res} (h : aNil L σ o.type x o.dst = some r) : OpGood P X σ a w o r := by
  unfold aNil at h
  split at h
  · have hrun : (execOp a.eval o).run P w = .ok (.value (.slice none 0 0)) w := by rcases ho with ho | ho <;> simp [execOp, ho, Act.eval]
    split at h
    · rename_i y hy
      split at h
      · rename_i τ e b hety
        split at h
        · rename_i n hn
          obtain rfl := Option.some.inj h
          obtain ⟨β', R', hv⟩ := R.nilOwn (rmFree_spec hn).1 e τ.size
          exact ⟨.value (.slice none 0 0), w, β', _, hrun, .inl rfl, R', hv τ, by simp⟩
        · obtain rfl := Option.some.inj h
          exact OpGood.pure R hrun rfl (VL.d .nil) (by simp)
      · cases h
    · cases h
  · cases h

theorem boolOf_pick {x y z : Bool} {a b : Operand} (h1 : ∀ u, a = .const (.bool u) → u = y) (h2 : ∀ u, b = .const (.bool u) → u = z) :
    pickB a b x y z = if x then y else z := by
  unfold pickB
  split
  · have := h1 true rfl; subst this; cases x <;> simp
  · have := h2 false rfl; subst this; cases x <;> simp
  · cases x <;> simp

theorem opT_const_bool {u y : Bool} (h : opT G σ (.const (.bool u)) = some (.one (.d (.lit (.bool y))))) : u = y := by
  simpa [opT, opd, constV] using h

theorem good_pick (R : Rel X β σ a w) (hG : GOk a G) {o : Oper} {tc : Tmp} {p q : Operand} (ho : o.op = .pick (.tmp tc) p q) {r : Res} (h : aPick G σ tc p q = some r) : OpGood P X σ a w o r := by
  unfold aPick at h
  split at h
  · rename_i x hx
    split at h
    · rename_i y z hy hz
      obtain rfl := Option.some.inj h
      have hxv := VT.bool (opT_sound R hG hx)
      have hxv' : a.tmps.getD tc undef = .bool x := hxv
      have hval : (if x then a.eval p else a.eval q) = .bool (if x then y else z) := by
        cases x with
        | true =>
          have hG' : GOk a ((tc, true) :: G) := fun t b hh => by
            simp only [has, Bool.or_eq_true, Bool.and_eq_true, beq_iff_eq] at hh
            rcases hh with ⟨rfl, rfl⟩ | hh
            · exact hxv'
            · exact hG t b hh
          simpa using VT.bool (opT_sound R hG' hy)
        | false =>
          have hG' : GOk a ((tc, false) :: G) := fun t b hh => by
            simp only [has, Bool.or_eq_true, Bool.and_eq_true, beq_iff_eq] at hh
            rcases hh with ⟨rfl, rfl⟩ | hh
            · exact hxv'
            · exact hG t b hh
          simpa using VT.bool (opT_sound R hG' hz)
      refine OpGood.pure R (v := .bool (if x then y else z)) ?_ rfl ?_ (by simp)
      · simp only [execOp, ho, Sem.run_bind, asBool, hxv, Sem.run_pure, Result.andThen_ok]
        rw [hval]
      · have e := boolOf_pick (x := x) (y := y) (z := z) (a := p) (b := q) (fun u hu => by subst hu; exact opT_const_bool hy) (fun u hu => by subst hu; exact opT_const_bool hz)
        show VT w _ β _ (.one (lb _)) _
        rw [e]
        exact VT.lit rfl
    · cases h
  · cases h

theorem good_alloc (hL : LOk P L) (R : Rel X β σ a w) {o : Oper} {t : TypeId} (ho : o.op = .alloc t) {r : Res} (h : aAlloc L σ t o.dst = some r) : OpGood P X σ a w o r := by
  unfold aAlloc at h
  split at h
  · rename_i y d hy hd
    split at h
    · rename_i hn
      split at h
      · rename_i τ e b n hety hrm
        obtain rfl := Option.some.inj h
        obtain ⟨hrm, d', hd', rfl⟩ := rmFree_spec hrm
        injection hd' with hd'; subst hd'
        obtain ⟨_, _, hz, _⟩ := (hL t y hy).ety τ e b hety
        obtain ⟨β1, R1, hv⟩ := R.nilOwn hrm e τ.size
        have hn1 : look ({ σ with h := (rm d, HO.gr e τ.size 0) :: σ.h } : St).h d = none := by
          show look ((rm d, HO.gr e τ.size 0) :: σ.h) d = none
          rw [look_cons, if_neg (by unfold rm; omega)]
          exact hn
        obtain ⟨β2, R2, h1, h2⟩ := R1.alloc hn1 (b := [.own (rm d) (.sl τ [])]) (arr := #[.slice none 0 0]) t (.cons (hv τ) .nil)
        refine ⟨.value (.pointer (some ⟨w.heap.size, 0, none⟩)), _, β2, _, ?_, .inl rfl, R2, ?_, by simp⟩
        · simp [execOp, ho, Instr.alloc, hz, newVar, newRow, Value.cells]
        · exact VL.ptr ⟨w.heap.size, by simp [dm, upds, look_cons], h2, h1, rfl⟩
      · obtain rfl := Option.some.inj h
        obtain ⟨z, hz, _, hzz⟩ := (hL t y hy).zero
        have hb : All2 (VL w (Mt β (look σ.h)) β (dm (look σ.h))) (wrapD y.zero) z.cells.toList := by
          have := hzz w (Mt β (look σ.h))
          clear hz hzz hy
          generalize z.cells.toList = zs at this
          generalize y.zero = ys at this
          induction this with
          | nil => exact .nil
          | cons h1 _ ih => exact .cons (.d h1) ih
        obtain ⟨β', R', hβ, ho'⟩ := R.alloc hn t hb
        refine ⟨.value (.pointer (some ⟨w.heap.size, 0, none⟩)), _, β', _, ?_, .inl rfl, R', ?_, by simp⟩
        · simp [execOp, ho, Instr.alloc, hz, newVar, newRow]
        · exact VL.ptr ⟨w.heap.size, by simp [dm, upds, look_cons], ho', hβ, rfl⟩
    · cases h
  · cases h

theorem good_box (R : Rel X β σ a w) (hG : GOk a G) {o : Oper} {t : TypeId} {x : Operand} (ho : o.op = .box t x) {r : Res} (h : aBox G σ x o.dst = some r) : OpGood P X σ a w o r := by
  unfold aBox at h
  split at h
  · rename_i v d hv hd
    split at h
    · rename_i hn
      obtain rfl := Option.some.inj h
      obtain ⟨β', R', hβ, ho'⟩ := R.alloc hn t (VT.cells (opT_sound R hG hv))
      refine ⟨.value (.pointer (some ⟨w.heap.size, 0, none⟩)), _, β', _, ?_, .inl rfl, R', ?_, by simp⟩
      · simp [execOp, ho, Instr.box, newVar, newRow]
      · exact VL.ptr ⟨w.heap.size, by simp [dm, upds, look_cons], ho', hβ, rfl⟩
    · cases h
  · cases h

theorem All2.ones {M : CM} {D : Nat → Prop} {xs : List LV} {vs : List Value} (h : All2 (VL w M β D) xs vs) : ∀ v ∈ vs, v.oneCell' = true := by
  induction h with
  | nil => simp
  | cons h1 _ ih =>
    intro v hv
    rcases List.mem_cons.1 hv with rfl | hv
    · exact h1.one
    · exact ih v hv

theorem setAt_all2 {R : LV → Value → Prop} {b b' xs : List LV} {off : Nat} {vs arr : List Value} (hb : All2 R b arr) (hx : All2 R xs vs) (h : setAt b off xs = some b') :
    off + vs.length ≤ arr.length ∧ All2 R b' (arr.take off ++ (vs ++ arr.drop (off + vs.length))) := by
  unfold setAt at h
  split at h
  · rename_i hle
    obtain rfl := Option.some.inj h
    have h1 := hb.length
    have h2 := hx.length
    refine ⟨by omega, (hb.take off).append (hx.append ?_)⟩
    rw [← h2]
    exact hb.drop _
  · cases h

theorem good_store (hL : LOk P L) (R : Rel X β σ a w) (hG : GOk a G) {o : Oper} {t : TypeId} {p x : Operand} (ho : o.op = .store t p x) {r : Res} (h : aStore L G σ t p x = some r) : OpGood P X σ a w o r := by
  unfold aStore at h
  split at h
  · rename_i y n off v hy hp hx
    split at h
    · rename_i hsz
      split at h
      · rename_i b hb
        split at h
        · rename_i b' hb'
          obtain rfl := Option.some.inj h
          have hpv := opT_sound R hG hp
          cases hpv with
          | ptr hq =>
            obtain ⟨k, hD, ho0, hk, hev⟩ := hq
            have hcells := VT.cells (nilT_sound (L := L) (t := t) (opT_sound R hG hx))
            obtain ⟨k', arr, e, _, h1, h2, h3⟩ := R.hr.blk n _ hb
            obtain rfl : k = k' := Option.some.inj (hk.symm.trans h1)
            obtain ⟨hle, hnew⟩ := setAt_all2 h3 hcells hb'
            obtain ⟨w', g1, g2, g3, g4, g5, g6, g7⟩ := run_storeCells (P := P) (a.eval x).cells.toList w k off 0 arr e h2 (by simpa using hle) hcells.ones
            obtain ⟨β', R'⟩ := R.write hb hk g2 g3 g4 g5 g6 g7 (by simpa using hnew)
            refine ⟨.skip, w', β', undef, ?_, .inr ⟨rfl, rfl⟩, R', ⟨#[], rfl, .nil⟩, by simp⟩
            have hsz' : (a.eval x).cells.size = y.size := by
              have := hcells.length; rw [hsz] at this; simpa using this.symm
            simp only [execOp, ho, Sem.run_bind, Instr.storeAt, Instr.sureAddr, hev, Sem.run_pure, Result.andThen_ok, storeVar, run_sizeOf (hL t y hy).size, hsz']
            simp [g1]
        · cases h
      · cases h
    · cases h
  · cases h

theorem getAt_all2 {R : LV → Value → Prop} {b xs : List LV} {off n : Nat} {arr : List Value} (hb : All2 R b arr) (h : getAt b off n = some xs) :
    off + n ≤ arr.length ∧ xs.length = n ∧ All2 R xs ((arr.drop off).take n) := by
  unfold getAt at h
  split at h
  · rename_i hle
    obtain rfl := Option.some.inj h
    have h1 := hb.length
    exact ⟨by omega, by simp; omega, (hb.drop off).take n⟩
  · cases h

theorem asTV_sound {M : CM} {D : Nat → Prop} {y : Lay} {xs : List LV} {vs : List Value} {x : TV} (hx : All2 (VL w M β D) xs vs) (h : asTV y.agg xs = some x) :
    VT w M β D x (if y.agg then .agg vs.toArray else vs.headD undef) := by
  unfold asTV at h
  split at h
  · rename_i ha
    obtain rfl := Option.some.inj h
    rw [if_pos ha]
    exact ⟨vs.toArray, rfl, by simpa using hx⟩
  · rename_i ha
    rw [if_neg ha]
    split at h
    · obtain rfl := Option.some.inj h
      obtain ⟨v, rfl, hv⟩ := hx.one_left
      exact hv
    · cases h

/-- reading a variable of a type of known layout out of cells that are known -/
theorem run_loadVar {t : TypeId} {y : Lay} (hy : LayOk P t y) {p : Addr} {vs : List Value} (hl : vs.length = y.size) (hc : ∀ j v, vs[j]? = some v → w.cell? (p.add j) = some v) :
    (loadVar t p).run P w = .ok (if y.agg then .agg vs.toArray else vs.headD undef) w := by
  simp only [loadVar, Sem.run_bind, hy.agg, Result.andThen_ok]
  by_cases ha : y.agg = true
  · simp only [ha, if_true, Sem.run_bind, run_sizeOf hy.size, Result.andThen_ok, Sem.run_pure]
    rw [← hl, run_loadCells_list w p vs hc]
    rfl
  · have ha' : y.agg = false := by simpa using ha
    have h1 := hy.one ha'
    rw [h1] at hl
    match vs, hl with
    | [v], _ =>
      have := hc 0 v rfl
      rw [Addr.add_zero'] at this
      simp [ha', run_load, this]

theorem dcells_len (c : Nat → DV) : ∀ (n i : Nat), (dcells c i n).length = n
  | 0, _ => rfl
  | n + 1, i => by simp [dcells, dcells_len c n]
theorem dcells_get (c : Nat → DV) : ∀ (n i j : Nat), j < n → (dcells c i n)[j]? = some (.d (c (i + j)))
  | 0, _, _, h => absurd h (Nat.not_lt_zero _)
  | n + 1, i, 0, _ => by simp [dcells]
  | n + 1, i, j + 1, h => by simp [dcells, dcells_get c n (i + 1) j (by omega), Nat.add_assoc, Nat.add_comm 1 j]

theorem loadFrom_sound (hL : LOk P L) (R : Rel X β σ a w) {t : TypeId} {y : Lay} (hy : L t = some y) {q x : TV} {pv : Value} (hq : VT w (Mt β (look σ.h)) β (dm (look σ.h)) q pv) (h : loadFrom σ y q = some x) :
    ∃ p v, pv = .pointer (some p) ∧ (loadVar t p).run P w = .ok v w ∧ VT w (Mt β (look σ.h)) β (dm (look σ.h)) x v := by
  unfold loadFrom at h
  split at h
  · rename_i n off
    split at h
    · rename_i b hb
      split at h
      · rename_i xs hxs
        cases hq with
        | ptr hq =>
          obtain ⟨k, hD, _, hk, rfl⟩ := hq
          obtain ⟨k', arr, e, _, h1, h2, h3⟩ := R.hr.blk n _ hb
          obtain rfl : k = k' := Option.some.inj (hk.symm.trans h1)
          obtain ⟨hle, hlen, hall⟩ := getAt_all2 h3 hxs
          refine ⟨_, _, rfl, run_loadVar (hL t y hy) (vs := (arr.toList.drop off).take y.size) (by simp at hle ⊢; omega) (fun j v hj => ?_), asTV_sound hall h⟩
          have hjl : j < y.size := by
            have := (List.getElem?_eq_some_iff.1 hj).1
            rw [List.length_take] at this; omega
          rw [List.getElem?_take, if_pos hjl, List.getElem?_drop] at hj
          rw [Addr.add_lit]
          simpa [World.cell?, h2] using hj
      · cases h
    · cases h
  · rename_i k c
    split at h
    · rename_i hle
      cases hq with
      | @dptr _ _ p vs hb hM hc hv =>
        have hlist : ∀ j, j < y.size → ((List.range y.size).map vs)[j]? = some (vs j) := fun j hj => by simp [hj]
        refine ⟨p, _, rfl, run_loadVar (hL t y hy) (vs := (List.range y.size).map vs) (by simp) (fun j v hj => ?_), asTV_sound ?_ h⟩
        · have hjl : j < y.size := by
            have := (List.getElem?_eq_some_iff.1 hj).1
            simpa using this
          rw [hlist j hjl] at hj
          obtain rfl := Option.some.inj hj
          exact hc j (by omega)
        · refine All2.of_get (by simp [dcells_len]) fun i u v hu hv' => ?_
          have hil : i < y.size := by
            have := (List.getElem?_eq_some_iff.1 hu).1
            rwa [dcells_len] at this
          rw [dcells_get c _ _ _ hil] at hu
          rw [hlist i hil] at hv'
          obtain rfl := Option.some.inj hu
          obtain rfl := Option.some.inj hv'
          rw [Nat.zero_add]
          exact .d (hv i (by omega))
    · cases h
  · cases h

theorem good_load (hL : LOk P L) (R : Rel X β σ a w) (hG : GOk a G) {o : Oper} {t : TypeId} {p : Operand} (ho : o.op = .load t p) {r : Res} (h : aLoad L G σ t p = some r) : OpGood P X σ a w o r := by
  unfold aLoad at h
  split at h
  · rename_i y q hy hq
    split at h
    · rename_i x hx
      obtain rfl := Option.some.inj h
      obtain ⟨p', v, he, hrun, hv⟩ := loadFrom_sound hL R hy (opT_sound R hG hq) hx
      refine OpGood.pure R (v := v) ?_ rfl hv (by simp)
      simp [execOp, ho, Instr.loadAt, Instr.sureAddr, he, hrun]
    · cases h
  · cases h

theorem wrap_i64 {n : Int} (h : InI64 n) : IntKind.i64.wrap n = n := IntWalk.i64_in n h

theorem good_arith (R : Rel X β σ a w) {o : Oper} {op : BinOp} {t t' : TypeId} {p q : Operand} {k : IntKind} {x y : Int} (ho : o.op = .binOp op t p q t') (hp : a.eval p = .int k x) (hq : a.eval q = .int k y)
    {r : Res} (h : arith op k x y = some r) (hc : ∀ c ∈ r.c, c) : OpGood P X σ a w o r := by
  have key : ∀ v : Value, v.oneCell' = true → (binOp op t (.int k x) (.int k y)).run P w = .ok v w → r.v = .t (.one (.d (.lit v))) → r.h = [] → r.f = [] → OpGood P X σ a w o r := by
    intro v hv hrun hrv hh hf
    refine OpGood.pure R (v := v) ?_ hh ?_ (by rw [hf]; simp)
    · simp only [execOp, ho, Sem.run_bind, hp, hq, eqGuard_at_int, Sem.run_pure, Result.andThen_ok, hrun]
    · rw [hrv]; exact VT.lit hv
  unfold arith at h
  split at h <;> first
    | (obtain rfl := Option.some.inj h
       refine key (.bool _) rfl ?_ rfl rfl rfl
       simp [binOp, Op.intCmp]; done)
    | (obtain rfl := Option.some.inj h
       have h1 := wrap_i64 (hc _ (List.mem_singleton.2 rfl))
       refine key (.int .i64 _) rfl ?_ rfl rfl rfl
       simp [binOp, Op.intArith, h1]; done)
    | skip
  · obtain rfl := Option.some.inj h
    have h0 : y ≠ 0 := hc _ (by simp)
    have h1 := wrap_i64 (hc (InI64 (x.tdiv y)) (by simp))
    refine key (.int .i64 _) rfl ?_ rfl rfl rfl
    simp [binOp, Op.intDiv, h1, h0]
  · obtain rfl := Option.some.inj h
    have h0 : y ≠ 0 := hc _ (by simp)
    refine key (.int .i64 _) rfl ?_ rfl rfl rfl
    simp [binOp, Op.intDiv, h0]
  · cases h

theorem good_bin (R : Rel X β σ a w) (hG : GOk a G) {o : Oper} {op : BinOp} {t t' : TypeId} {p q : Operand} (ho : o.op = .binOp op t p q t') {r : Res} (h : aBin G σ op p q = some r) (hc : ∀ c ∈ r.c, c) : OpGood P X σ a w o r := by
  unfold aBin at h
  split at h
  · rename_i k x k' y hp hq
    split at h
    · rename_i hk
      subst hk
      exact good_arith R ho (VT.int (opT_sound R hG hp)) (VT.int (opT_sound R hG hq)) h hc
    · cases h
  · cases h

theorem good_binW (R : Rel X β σ a w) (hG : GOk a G) {o : Oper} {op : BinOp} {t t' : TypeId} {p q : Operand} (ho : o.op = .binOp op t p q t') {r : Res} (h : aBinW L G σ op t p q = some r) (hc : ∀ c ∈ r.c, c) : OpGood P X σ a w o r := by
  unfold aBinW at h
  split at h
  · rename_i la k x k' y hla hp hq
    have hp := VT.int (opT_sound R hG hp)
    have hq := VT.int (opT_sound R hG hq)
    have key : ∀ v : Value, v.oneCell' = true → (binOp op t (.int k x) (.int k' y)).run P w = .ok v w → r.v = .t (.one (.d (.lit v))) → r.h = [] → r.f = [] → OpGood P X σ a w o r := by
      intro v hv hrun hrv hh hf
      refine OpGood.pure R (v := v) ?_ hh ?_ (by rw [hf]; simp)
      · simp only [execOp, ho, Sem.run_bind, hp, hq, eqGuard_at_int, Sem.run_pure, Result.andThen_ok, hrun]
      · rw [hrv]; exact VT.lit hv
    unfold arithW at h
    split at h
    · obtain rfl := Option.some.inj h
      have h0 : 0 ≤ y := hc _ (by simp)
      refine key (.int k _) rfl ?_ rfl rfl rfl
      simp [binOp, Op.shift, shlW, Int.not_lt.2 h0]
    · obtain rfl := Option.some.inj h
      have h0 : 0 ≤ y := hc _ (by simp)
      refine key (.int k _) rfl ?_ rfl rfl rfl
      simp [binOp, Op.shift, shrW, Int.not_lt.2 h0]
    · split at h
      · rename_i hk
        subst hk
        split at h
        · obtain rfl := Option.some.inj h
          exact key (.int k _) rfl (by simp [binOp, Op.intBits, andW]) rfl rfl rfl
        · obtain rfl := Option.some.inj h
          exact key (.int k _) rfl (by simp [binOp, Op.intBits, orW]) rfl rfl rfl
        · obtain rfl := Option.some.inj h
          exact key (.int k _) rfl (by simp [binOp, Op.intBits, xorW]) rfl rfl rfl
        · split at h
          · cases h
          · obtain rfl := Option.some.inj h
            exact key (.int k _) rfl (by simp [binOp, Op.intArith]) rfl rfl rfl
        · split at h
          · cases h
          · obtain rfl := Option.some.inj h
            exact key (.int k _) rfl (by simp [binOp, Op.intArith]) rfl rfl rfl
        · split at h
          · cases h
          · obtain rfl := Option.some.inj h
            exact key (.int k _) rfl (by simp [binOp, Op.intArith]) rfl rfl rfl
        · split at h
          · cases h
          · obtain rfl := Option.some.inj h
            have h0 : y ≠ 0 := hc _ (by simp)
            exact key (.int k _) rfl (by simp [binOp, Op.intDiv, h0]) rfl rfl rfl
        · split at h
          · cases h
          · obtain rfl := Option.some.inj h
            have h0 : y ≠ 0 := hc _ (by simp)
            exact key (.int k _) rfl (by simp [binOp, Op.intDiv, h0]) rfl rfl rfl
        · cases h
      · cases h
  · cases h

theorem run_eqGuardAgg {op : BinOp} {t : TypeId} {p q : Operand} {xs ys : Array Value} (h : P.eqGuardType P.depth t = false) : (eqGuard op t p q (.agg xs) (.agg ys)).run P w = .ok () w := by
  unfold eqGuard
  cases op <;> simp [h]

theorem good_binAgg (hL : LOk P L) (R : Rel X β σ a w) (hG : GOk a G) {o : Oper} {op : BinOp} {t t' : TypeId} {p q : Operand} (ho : o.op = .binOp op t p q t') {r : Res} (h : aBinAgg L G σ op t p q = some r) : OpGood P X σ a w o r := by
  unfold aBinAgg at h
  split at h
  · rename_i la xs ys hla hp hq
    split at h
    · rename_i ks hag1 hks
      obtain ⟨hek, hgt⟩ := (hL t la hla).eqs ks hks
      obtain ⟨ax, hax, hxs⟩ := opT_sound R hG hp
      obtain ⟨ay, hay, hys⟩ := opT_sound R hG hq
      have hag : ∀ e, P.underlying t = some e → aggD e = true := by
        intro e he
        have h2 := (hL t la hla).agg w
        rw [isAgg_run he w] at h2
        injection h2 with h2
        rw [h2, hag1]
      have hrun : ∀ r, leafsEq ks xs ys = some r → (Op.equal t (.agg ax) (.agg ay)).run P w = .ok r w := by
        intro r hr
        exact eq_run 20 Op.maxDepth t ks xs ys (.agg ax) (.agg ay) r (by decide) hek hr hxs hys (fun e he => ⟨fun _ => ⟨⟨_, rfl⟩, _, rfl⟩, fun h => by rw [hag e he] at h; cases h⟩)
      split at h
      · rename_i r' hr
        obtain rfl := Option.some.inj h
        refine OpGood.pure R (v := .bool r') ?_ rfl (VT.lit rfl) (by simp)
        simp only [execOp, ho, Sem.run_bind, hax, hay, run_eqGuardAgg hgt, Result.andThen_ok]
        simp [binOp, hrun r' hr]
      · rename_i r' hr
        obtain rfl := Option.some.inj h
        refine OpGood.pure R (v := .bool (!r')) ?_ rfl (VT.lit rfl) (by simp)
        simp only [execOp, ho, Sem.run_bind, hax, hay, run_eqGuardAgg hgt, Result.andThen_ok]
        simp [binOp, hrun r' hr]
      · cases h
    · cases h
  · cases h

theorem good_binB (hL : LOk P L) (R : Rel X β σ a w) (hG : GOk a G) {o : Oper} {op : BinOp} {t t' : TypeId} {p q : Operand} (ho : o.op = .binOp op t p q t') {r : Res} (h : aBinB L G σ op t p q = some r) : OpGood P X σ a w o r := by
  unfold aBinB at h
  split at h
  · rename_i la x y hla hp hq
    split at h
    · rename_i hag1 hks
      obtain ⟨hek, hgt⟩ := (hL t la hla).eqs _ hks
      have hax := VT.bool (opT_sound R hG hp)
      have hay := VT.bool (opT_sound R hG hq)
      have hag : ∀ e, P.underlying t = some e → aggD e = false := by
        intro e he
        have h2 := (hL t la hla).agg w
        rw [isAgg_run he w] at h2
        injection h2 with h2
        rw [h2, hag1]
      have hrun : (Op.equal t (.bool x) (.bool y)).run P w = .ok (x == y) w := by
        exact eq_run (β := β) (M := Mt β (look σ.h)) (D := dm (look σ.h)) 20 Op.maxDepth t [.b] [lb x] [lb y] (.bool x) (.bool y) (x == y) (by decide) hek rfl (.cons (.d (.lit rfl)) .nil) (.cons (.d (.lit rfl)) .nil)
          (fun e he => ⟨fun h => absurd h (by rw [hag e he]; simp), fun _ => ⟨rfl, rfl⟩⟩)
      split at h
      · obtain rfl := Option.some.inj h
        refine OpGood.pure R (v := .bool (x == y)) ?_ rfl (VT.lit rfl) (by simp)
        simp only [execOp, ho, Sem.run_bind, hax, hay]
        simp [binOp, eqGuard, hrun]
      · obtain rfl := Option.some.inj h
        refine OpGood.pure R (v := .bool (x != y)) ?_ rfl (VT.lit rfl) (by simp)
        simp only [execOp, ho, Sem.run_bind, hax, hay]
        simp [binOp, eqGuard, hrun]
        cases x <;> cases y <;> rfl
      · cases h
    · cases h
  · cases h

theorem negW_eq {n : Int} (h : InI64 (-n)) : negW n = -n := wrap_i64 h
theorem good_un (R : Rel X β σ a w) (hG : GOk a G) {o : Oper} {op : UnOp} {t : TypeId} {p : Operand} (ho : o.op = .unOp op t p) {r : Res} (h : aUn G σ op p = some r) : OpGood P X σ a w o r := by
  unfold aUn at h
  split at h
  · rename_i x hp
    obtain rfl := Option.some.inj h
    have hv := VT.int (opT_sound R hG hp)
    refine OpGood.pure R (v := .int .i64 (negW x)) ?_ rfl (VT.lit rfl) (by simp)
    simp [execOp, ho, Op.unary, hv, Op.intArith, negW]
  · rename_i x hp
    obtain rfl := Option.some.inj h
    have hv := VT.bool (opT_sound R hG hp)
    refine OpGood.pure R (v := .bool (!x)) ?_ rfl (VT.lit rfl) (by simp)
    simp [execOp, ho, Op.unary, hv]
  · cases h

theorem LayOk.some {t : TypeId} {y : Lay} (h : LayOk P t y) : ∃ d, P.underlying t = some d := by
  cases hu : P.underlying t with
  | some d => exact ⟨d, rfl⟩
  | none =>
    have := h.agg default
    simp [isAgg, underlying, hu] at this

theorem good_conv (hL : LOk P L) (R : Rel X β σ a w) (hG : GOk a G) {o : Oper} {s t : TypeId} {p : Operand} (ho : o.op = .convert s t p) {r : Res} (h : aConv L G σ s t p = some r) (hc : ∀ c ∈ r.c, c) : OpGood P X σ a w o r := by
  unfold aConv at h
  split at h
  · rename_i ys y k x hys hy hp
    have hv := VT.int (opT_sound R hG hp)
    obtain ⟨d, hd⟩ := (hL s ys hys).some
    have key : ∀ k', y.kind = some k' → (execOp a.eval o).run P w = .ok (.value (.int k' (k'.wrap x))) w := by
      intro k' hk
      simp [execOp, ho, hv, convert, run_underlying hd, run_underlying ((hL t y hy).kind k' hk), Conv.intToInt]
    split at h
    · rename_i hk
      split at h
      · obtain rfl := Option.some.inj h
        exact OpGood.pure R (key _ hk) rfl (VT.lit rfl) (by simp)
      · obtain rfl := Option.some.inj h
        have h1 := wrap_i64 (hc _ (List.mem_singleton.2 rfl))
        refine OpGood.pure R (v := .int .i64 x) ?_ rfl (VT.lit rfl) (by simp)
        rw [key _ hk, h1]
    · rename_i k' _ hk
      obtain rfl := Option.some.inj h
      exact OpGood.pure R (key _ hk) rfl (VT.lit rfl) (by simp)
    · cases h
  · cases h

theorem asPtrs_sound {M : CM} {D : Nat → Prop} : ∀ {xs : List TV} {ps : List (Nat × Nat)} {vs : List Value}, asPtrs xs = some ps → All2 (VT w M β D) xs vs → All2 (PV β D) ps vs
  | [], ps, vs, h, hv => by cases hv; obtain rfl := Option.some.inj h; exact .nil
  | x :: xs, ps, vs, h, hv => by
    cases hv with
    | cons h1 h2 =>
      unfold asPtrs at h
      split at h
      · rename_i heq; cases heq
      · rename_i n o r heq
        injection heq with e1 e2
        subst e1 e2
        split at h
        · rename_i l hl
          obtain rfl := Option.some.inj h
          cases h1 with
          | ptr hq => exact .cons hq (asPtrs_sound hl h2)
        · cases h
      · cases h

theorem good_func (R : Rel X β σ a w) (hG : GOk a G) {o : Oper} {f : FuncId} {fi ca : Array Operand} (ho : o.op = .makeFunc (.func f) fi ca) {r : Res} (h : aFunc G σ f fi.toList ca.toList = some r) : OpGood P X σ a w o r := by
  unfold aFunc at h
  split at h
  · rename_i xs ys hxs hys
    split at h
    · rename_i ps qs hps hqs
      obtain rfl := Option.some.inj h
      refine OpGood.pure R (v := .func (.func f) (fi.map a.eval) (ca.map a.eval)) ?_ rfl ?_ (by simp)
      · simp [execOp, ho, Instr.makeFunc]
      · have h1 := asPtrs_sound hps (mapT_sound R hG hxs)
        have h2 := asPtrs_sound hqs (mapT_sound R hG hys)
        have := VL.clo (f := f) (w := w) (M := Mt β (look σ.h)) h1 h2
        rw [show (fi.map a.eval) = (fi.toList.map a.eval).toArray from by rw [← Array.toList_map], show (ca.map a.eval) = (ca.toList.map a.eval).toArray from by rw [← Array.toList_map]]
        exact this
    · cases h
  · cases h

theorem All2.get_right {α : Type _} {β : Type _} {R : α → β → Prop} {l : List α} {m : List β} (h : All2 R l m) {i : Nat} {b : β} (hb : m[i]? = some b) : ∃ a, l[i]? = some a ∧ R a b := by
  induction h generalizing i with
  | nil => simp at hb
  | cons h _ ih =>
    cases i with
    | zero => simp at hb; subst hb; exact ⟨_, by simp, h⟩
    | succ i => simp at hb; obtain ⟨a, ha, hr⟩ := ih hb; exact ⟨a, by simpa using ha, hr⟩

theorem run_fieldAt {t : TypeId} {y : Lay} (hy : LayOk P t y) {i fo sz : Nat} (hf : y.fs[i]? = some (fo, sz)) (p : Addr) : (Instr.fieldAt t (.pointer (some p)) i).run P w = .ok (.pointer (some (p.add fo))) w := by
  obtain ⟨fields, hu, hall⟩ := hy.fs (by intro h; rw [h] at hf; simp at hf)
  obtain ⟨f, hff, h1, h2, h3⟩ := hall.get hf
  have hff' : fields[i]? = some f := by simpa using hff
  simp only [Instr.fieldAt, Sem.run_bind, run_underlying hu, Result.andThen_ok, hff', Instr.sureAddr, Sem.run_pure, fieldPlace, run_sizeOf h2, Sem.run_ite]
  rw [if_neg h3, h1]
  rfl

theorem good_field (hL : LOk P L) (R : Rel X β σ a w) (hG : GOk a G) {o : Oper} {t : TypeId} {p : Operand} {i : Nat} (ho : o.op = .fieldAddr t p i) {r : Res} (h : aField L G σ t p i = some r) : OpGood P X σ a w o r := by
  unfold aField at h
  split at h
  · rename_i y n off hy hp
    split at h
    · rename_i fo sz hf
      obtain rfl := Option.some.inj h
      have hpv := opT_sound R hG hp
      cases hpv with
      | ptr hq =>
        obtain ⟨k, hD, ho0, hk, hev⟩ := hq
        refine OpGood.pure R (v := .pointer (some ⟨k, off + fo, none⟩)) ?_ rfl (VL.ptr ⟨k, hD, ho0, hk, rfl⟩) (by simp)
        simp only [execOp, ho, Sem.run_bind, hev, run_fieldAt (hL t y hy) hf, Result.andThen_ok, Sem.run_pure, Addr.add_lit]
    · cases h
  · rename_i y k c hy hp
    split at h
    · rename_i fo sz hf
      split at h
      · rename_i hle
        obtain rfl := Option.some.inj h
        have hpv := opT_sound R hG hp
        generalize hev : a.eval p = pv at hpv
        cases hpv with
        | @dptr _ _ q vs hb hM hc hv =>
          refine OpGood.pure R (v := .pointer (some (q.add fo))) ?_ rfl (VL.dptr (fun j => vs (fo + j)) (by rw [add_block]; exact hb) (fun j hj => ?_) (fun j hj => ?_) (fun j hj => hv _ (by omega))) (by simp)
          · simp only [execOp, ho, Sem.run_bind, hev, run_fieldAt (hL t y hy) hf, Result.andThen_ok, Sem.run_pure]
          · rw [add_block, add_off, Nat.add_assoc]; exact hM _ (by omega)
          · rw [add_add]; exact hc _ (by omega)
      · cases h
    · cases h
  · cases h

theorem good_index (hL : LOk P L) (R : Rel X β σ a w) (hG : GOk a G) {o : Oper} {t : TypeId} {p q : Operand} (ho : o.op = .indexAddr t p q) {r : Res} (h : aIndex L G σ t p q = some r) (hc : ∀ c ∈ r.c, c) : OpGood P X σ a w o r := by
  unfold aIndex at h
  split at h
  · rename_i y τ l k n hy hp hq
    split at h
    · rename_i sz' hel
      split at h
      · rename_i hsz
        subst hsz
        obtain rfl := Option.some.inj h
        obtain ⟨e, hu, he, hne⟩ := (hL t y hy).el τ.size hel
        have h0 : 0 ≤ n := hc _ (by simp)
        have h1 : n < (l.length : Int) := hc (n < l.length) (by simp)
        have hqv := VT.int (opT_sound R hG hq)
        have hpv := opS_sound R hG hp
        generalize hev : a.eval p = pv at hpv
        cases hpv with
        | d hpv =>
          cases hpv with
          | nil => simp at h1; omega
          | @sl _ _ b cap vs hs0 hb hcap hmax hM hcc hv =>
            have hi : n.toNat < l.length := by omega
            refine OpGood.pure R (v := .pointer (some (b.add (n.toNat * τ.size)))) ?_ rfl (VL.dptr (fun j => vs n.toNat j) (by rw [add_block]; exact hb _ hi) (fun j hj => ?_) (fun j hj => ?_) (fun j hj => hv _ _ hi hj)) (by simp)
            · simp only [execOp, ho, Sem.run_bind, hev, hqv, Instr.indexAt, asIntOf, Sem.run_pure, Result.andThen_ok, run_underlying hu]
              rw [if_pos ⟨h0, h1⟩]
              simp [run_sizeOf he]
            · rw [add_block, add_off, Nat.add_assoc]; exact hM _ _ hi hj
            · rw [add_add]; exact hcc _ _ hi hj
      · cases h
    · cases h
  · cases h

theorem bnd_sound (R : Rel X β σ a w) (hG : GOk a G) {d : Int} {x : Option Operand} {n : Int} (h : bnd G σ d x = some n) : (x = none ∧ n = d) ∨ ∃ o k, x = some o ∧ a.eval o = .int k n := by
  unfold bnd at h
  split at h
  · obtain rfl := Option.some.inj h; exact .inl ⟨rfl, rfl⟩
  · rename_i o
    split at h
    · rename_i k m hm
      obtain rfl := Option.some.inj h
      exact .inr ⟨o, k, rfl, VT.int (opT_sound R hG hm)⟩
    · cases h

theorem run_sliceBound {v : Value} {k : IntKind} {i : Int} {y : Nat} {c : BoundsCode} (hv : v = .int k i) (h0 : 0 ≤ i) (h1 : i ≤ y) : (Instr.sliceBound v y c).run P w = .ok i.toNat w := by
  subst hv
  simp [Instr.sliceBound, asIntOf, h0, h1]

theorem run_sliceBounds {len cap : Nat} {lo hi : Option Value} {p q : Int} (hhi : (hi = none ∧ q = len) ∨ ∃ k, hi = some (.int k q)) (hlo : (lo = none ∧ p = 0) ∨ ∃ k, lo = some (.int k p)) (h0 : 0 ≤ p) (h1 : p ≤ q) (h2 : q ≤ cap) :
    (Instr.sliceBounds true len cap lo hi none).run P w = .ok (p.toNat, q.toNat, cap) w := by
  have g1 : ∀ k c, (Instr.sliceBound (.int k q) cap c).run P w = .ok q.toNat w := fun k c => run_sliceBound rfl (by omega) h2
  have g2 : ∀ k c, (Instr.sliceBound (.int k p) q.toNat c).run P w = .ok p.toNat w := fun k c => run_sliceBound rfl h0 (by omega)
  have g3 : ∀ k c, q = len → (Instr.sliceBound (.int k p) len c).run P w = .ok p.toNat w := fun k c hm => run_sliceBound rfl h0 (by omega)
  unfold Instr.sliceBounds
  rcases hhi with ⟨rfl, rfl⟩ | ⟨k, rfl⟩ <;> rcases hlo with ⟨rfl, rfl⟩ | ⟨k', rfl⟩
  · simp
  · simp [g3 _ _ rfl]
  · simp [g1]
  · simp [Sem.run_bind, g1, g2]

/-- a part of a slice -/
theorem VD.cut {M : CM} {τ : Ty} {l : List τ.T} {v : Value} (h : VD w M (.sl τ l) v) {i j : Nat} (h1 : i ≤ j) (h2 : j ≤ l.length) :
    ∃ ad cap, v = .slice ad l.length cap ∧ l.length ≤ cap ∧ VD w M (.sl τ ((l.take j).drop i)) (.slice (if cap = i then ad else ad.map (·.add (i * τ.size))) (j - i) (cap - i)) := by
  have hlen : ((l.take j).drop i).length = j - i := by simp; omega
  cases h with
  | nil =>
    simp at h2; subst h2
    have : i = 0 := by omega
    subst this
    exact ⟨none, 0, rfl, Nat.le_refl _, by simpa using VD.nil⟩
  | @sl _ _ ad cap vs h0 hb hcap hmax hM hc hv =>
    refine ⟨some ad, cap, rfl, hcap, ?_⟩
    by_cases hci : cap = i
    · rw [if_pos hci]
      have hz : (l.take j).drop i = [] := List.eq_nil_of_length_eq_zero (by omega)
      have hji : j - i = 0 := by omega
      rw [hz, hji]
      exact VD.sl (l := []) (fun _ _ => undef) h0 (fun i hi => absurd hi (Nat.not_lt_zero _)) (Nat.zero_le _) (by omega) (fun i _ hi => absurd hi (Nat.not_lt_zero _)) (fun i _ hi => absurd hi (Nat.not_lt_zero _)) (fun i _ hi => absurd hi (Nat.not_lt_zero _))
    · rw [if_neg hci, ← hlen]
      have e1 : ∀ q s : Nat, i * τ.size + (q * τ.size + s) = (i + q) * τ.size + s := fun q s => by rw [Nat.add_mul]; omega
      refine VD.sl (fun q s => vs (i + q) s) h0 (fun q hq => ?_) (by omega) (by omega) (fun q s hq hs => ?_) (fun q s hq hs => ?_) (fun q s hq hs => ?_)
      · rw [add_block]; exact hb (i + q) (by omega)
      · rw [add_block, add_off, Nat.add_assoc, e1]; exact hM _ _ (by omega) hs
      · rw [add_add, e1]; exact hc _ _ (by omega) hs
      · have := hv (i + q) s (by omega) hs
        have e2 : ((l.take j).drop i).getD q τ.d0 = l.getD (i + q) τ.d0 := by
          rw [List.getD_eq_getElem?_getD, List.getD_eq_getElem?_getD, List.getElem?_drop, List.getElem?_take, if_pos (by omega)]
        rw [e2]
        exact this

theorem good_slice (hL : LOk P L) (R : Rel X β σ a w) (hG : GOk a G) {o : Oper} {t : TypeId} {x : Operand} {lo hi mx : Option Operand} (ho : o.op = .slice t x lo hi mx) {r : Res} (h : aSlice L G σ t x lo hi mx = some r) (hc : ∀ c ∈ r.c, c) : OpGood P X σ a w o r := by
  unfold aSlice at h
  split at h
  · rename_i _ y τ l hy hx
    split at h
    · rename_i sz p q hel hp hq
      split at h
      · rename_i hsz
        subst hsz
        obtain rfl := Option.some.inj h
        obtain ⟨e, hu, he, hne⟩ := (hL t y hy).el τ.size hel
        have h0 : 0 ≤ p := hc _ (by simp)
        have h1 : p ≤ q := hc _ (by simp)
        have h2 : q ≤ (l.length : Int) := hc (q ≤ (l.length : Int)) (by simp)
        obtain ⟨ad, cap, hev, hcap, hv⟩ := VD.cut (by have := opS_sound R hG hx; cases this with | d h => exact h) (i := p.toNat) (j := q.toNat) (by omega) (by omega)
        refine OpGood.pure R (v := .slice (if cap = p.toNat then ad else ad.map (·.add (p.toNat * τ.size))) (q.toNat - p.toNat) (cap - p.toNat)) ?_ rfl (VL.d hv) (by simp)
        have hb : (Instr.sliceBounds true l.length cap (lo.map a.eval) (hi.map a.eval) none).run P w = .ok (p.toNat, q.toNat, cap) w := by
          refine run_sliceBounds ?_ ?_ h0 h1 (by omega)
          · rcases bnd_sound R hG hq with ⟨rfl, rfl⟩ | ⟨oh, k, rfl, hoh⟩
            · exact .inl ⟨rfl, rfl⟩
            · exact .inr ⟨k, by simp [hoh]⟩
          · rcases bnd_sound R hG hp with ⟨rfl, rfl⟩ | ⟨oh, k, rfl, hoh⟩
            · exact .inl ⟨rfl, rfl⟩
            · exact .inr ⟨k, by simp [hoh]⟩
        simp only [execOp, ho, Sem.run_bind, Instr.sliceAt, Instr.slice, run_underlying hu, Result.andThen_ok, hev, Option.map_none, hb, run_sizeOf he, Sem.run_pure]
      · cases h
    · cases h
  · cases h

theorem good_extract (R : Rel X β σ a w) (hG : GOk a G) {o : Oper} {p : Operand} {i : Nat} (ho : o.op = .extract p i) {r : Res} (h : aExtract G σ p i = some r) : OpGood P X σ a w o r := by
  unfold aExtract at h
  split at h
  · rename_i xs hp
    split at h
    · rename_i v hv
      obtain rfl := Option.some.inj h
      obtain ⟨arr, he, hall⟩ := opd_sound R hG hp
      obtain ⟨u, hu, hvt⟩ := hall.get hv
      refine OpGood.pure R (v := u) ?_ rfl hvt (by simp)
      have hu' : arr[i]? = some u := by simpa using hu
      simp [execOp, ho, Instr.extract, he, hu']
    · cases h
  · cases h
end
end Go.Sy
