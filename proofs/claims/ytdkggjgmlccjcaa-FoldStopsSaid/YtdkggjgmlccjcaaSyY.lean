/- A verified generator of conditions for this program, and its soundness: part Y of the proof. -/
import Derived.Test.YtdkggjgmlccjcaaSyK
namespace Go.Sy
variable {P : Program} {L : Nat → Option Lay}

/-! maps whose keys are plain -/
theorem bytes_beq' (a b : ByteArray) : (a == b) = true ↔ a = b := by
  obtain ⟨x⟩ := a
  obtain ⟨y⟩ := b
  constructor
  · intro h
    have e : x = y := by simpa using (show (x == y) = true from h)
    rw [e]
  · intro h
    cases h
    show (x == x) = true
    simp

theorem Ty.beq_eq : ∀ {τ : Ty}, τ.cmp = true → ∀ {x y : τ.T}, τ.beq x y = true → x = y
  | .ti _, _, x, y, h => (beq_iff_eq (α := Int)).1 h
  | .tb, _, x, y, h => (beq_iff_eq (α := Bool)).1 h
  | .ts, _, x, y, h => (bytes_beq' _ _).1 h
  | .tp a b, hc, (x, x'), (y, y'), h => by
    simp only [Ty.cmp, Bool.and_eq_true] at hc
    simp only [Ty.beq, Bool.and_eq_true] at h
    rw [beq_eq hc.1 h.1, beq_eq hc.2 h.2]
  | .tu, hc, _, _, _ => by cases hc
  | .tl _, hc, _, _, _ => by cases hc
theorem Ty.beq_self : ∀ {τ : Ty}, τ.cmp = true → ∀ (x : τ.T), τ.beq x x = true
  | .ti _, _, x => (beq_iff_eq (α := Int)).2 rfl
  | .tb, _, x => (beq_iff_eq (α := Bool)).2 rfl
  | .ts, _, x => (bytes_beq' _ _).2 rfl
  | .tp a b, hc, (x, x') => by
    simp only [Ty.cmp, Bool.and_eq_true] at hc
    simp only [Ty.beq, Bool.and_eq_true]
    exact ⟨beq_self hc.1 x, beq_self hc.2 x'⟩
  | .tu, hc, _ => by cases hc
  | .tl _, hc, _ => by cases hc
theorem Ty.cmp_enc : ∀ {τ : Ty}, τ.cmp = true → ∀ (x : τ.T) (j : Nat), j < τ.size → ∃ v, τ.enc x j = .lit v ∧ ∀ n, Instr.sameBits n v v = true
  | .ti k, _, x, j, _ => ⟨.int k x, rfl, fun n => by cases n <;> simp only [Instr.sameBits, Bool.and_eq_true] <;> exact ⟨by simp, (beq_iff_eq (α := Int)).2 rfl⟩⟩
  | .tb, _, x, j, _ => ⟨.bool x, rfl, fun n => by cases n <;> exact (beq_iff_eq (α := Bool)).2 rfl⟩
  | .ts, _, x, j, _ => ⟨.string x, rfl, fun n => by cases n <;> exact (bytes_beq' _ _).2 rfl⟩
  | .tp a b, hc, (x, x'), j, hj => by
    simp only [Ty.cmp, Bool.and_eq_true] at hc
    simp only [Ty.size] at hj
    by_cases h : j < a.size
    · obtain ⟨v, h1, h2⟩ := cmp_enc hc.1 x j h
      exact ⟨v, by simp only [Ty.enc]; rw [show Nat.blt j a.size = true from by simpa [Nat.blt_eq] using h]; exact h1, h2⟩
    · obtain ⟨v, h1, h2⟩ := cmp_enc hc.2 x' (j - a.size) (by omega)
      exact ⟨v, by simp only [Ty.enc]; rw [show Nat.blt j a.size = false from by rw [← Bool.not_eq_true, Nat.blt_eq]; exact h]; exact h1, h2⟩
  | .tu, hc, _, _, _ => by cases hc
  | .tl _, hc, _, _, _ => by cases hc
theorem Ty.lks_len : ∀ {τ : Ty}, τ.cmp = true → τ.lks.length = τ.size
  | .ti _, _ => rfl
  | .tb, _ => rfl
  | .ts, _ => rfl
  | .tp a b, hc => by
    simp only [Ty.cmp, Bool.and_eq_true] at hc
    simp only [Ty.lks, Ty.size, List.length_append, lks_len hc.1, lks_len hc.2]
  | .tu, hc => by cases hc
  | .tl _, hc => by cases hc

theorem leafsEq_join : ∀ {ks ls : List LK} {xs ys xs' ys' : List LV} {a b : Bool}, leafsEq ks xs ys = some a → leafsEq ls xs' ys' = some b → leafsEq (ks ++ ls) (xs ++ xs') (ys ++ ys') = some (a && b)
  | [], ls, xs, ys, xs', ys', a, b, h, h' => by
    obtain ⟨h1, h2⟩ := leafsEq_len h
    obtain rfl := List.eq_nil_of_length_eq_zero h1
    obtain rfl := List.eq_nil_of_length_eq_zero h2
    simp [leafsEq] at h
    subst h
    simpa using h'
  | k :: ks, ls, [], ys, xs', ys', a, b, h, h' => by cases ys <;> simp [leafsEq] at h
  | k :: ks, ls, x :: xs, [], xs', ys', a, b, h, h' => by simp [leafsEq] at h
  | k :: ks, ls, x :: xs, y :: ys, xs', ys', a, b, h, h' => by
    rw [leafsEq_cons] at h
    split at h
    · rename_i p q hp hq
      obtain rfl := Option.some.inj h
      rw [List.cons_append, List.cons_append, List.cons_append, leafsEq_cons, hp, leafsEq_join hq h', Bool.and_assoc]
    · cases h
theorem dcells_congr {c d : Nat → DV} : ∀ {n i : Nat}, (∀ j, i ≤ j → j < i + n → c j = d j) → dcells c i n = dcells d i n
  | 0, _, _ => rfl
  | n + 1, i, h => by
    simp only [dcells]
    rw [h i (Nat.le_refl _) (by omega), dcells_congr (n := n) (i := i + 1) fun j h1 h2 => h j (by omega) (by omega)]
theorem dcells_add {c : Nat → DV} : ∀ {m n i : Nat}, dcells c i (m + n) = dcells c i m ++ dcells c (i + m) n
  | 0, n, i => by simp [dcells]
  | m + 1, n, i => by
    rw [show m + 1 + n = (m + n) + 1 by omega]
    simp only [dcells, List.cons_append]
    rw [dcells_add (m := m) (n := n) (i := i + 1), show i + 1 + m = i + (m + 1) by omega]
theorem dcells_shift {c : Nat → DV} (k : Nat) : ∀ {n i : Nat}, dcells c (i + k) n = dcells (fun j => c (j + k)) i n
  | 0, _ => rfl
  | n + 1, i => by
    simp only [dcells]
    rw [show i + k + 1 = (i + 1) + k by omega, dcells_shift k]
theorem dcells_tp {a b : Ty} {x : a.T} {y : b.T} : dcells ((Ty.tp a b).enc (x, y)) 0 (Ty.tp a b).size = dcells (a.enc x) 0 a.size ++ dcells (b.enc y) 0 b.size := by
  simp only [Ty.size]
  rw [dcells_add, dcells_shift]
  congr 1
  · refine dcells_congr fun j _ h => ?_
    simp only [Ty.enc]
    rw [show Nat.blt j a.size = true from by simp only [Nat.blt_eq]; omega]
    rfl
  · refine dcells_congr fun j _ h => ?_
    simp only [Ty.enc]
    rw [show Nat.blt (j + a.size) a.size = false from by rw [← Bool.not_eq_true, Nat.blt_eq]; omega]
    simp
theorem beq_leafs : ∀ {τ : Ty}, τ.cmp = true → ∀ (x y : τ.T), leafsEq τ.lks (dcells (τ.enc x) 0 τ.size) (dcells (τ.enc y) 0 τ.size) = some (τ.beq x y)
  | .ti k, _, x, y => by
    show (match leafEq .i (.d (.lit (.int k x))) (.d (.lit (.int k y))), leafsEq [] [] [] with | some x, some y => some x | _, _ => none) = _
    simp [leafEq, leafsEq, Ty.beq]
  | .tb, _, x, y => rfl
  | .ts, _, x, y => rfl
  | .tp a b, hc, (x, x'), (y, y') => by
    simp only [Ty.cmp, Bool.and_eq_true] at hc
    rw [dcells_tp, dcells_tp]
    exact leafsEq_join (beq_leafs hc.1 x y) (beq_leafs hc.2 x' y')
  | .tu, hc, _, _ => by cases hc
  | .tl _, hc, _, _ => by cases hc

section
variable {w : World} {M : CM} {β : Bt} {D : Nat → Prop}
theorem PVal.all {τ : Ty} {v : τ.T} {u : Value} (h : PVal w M τ v u) : All2 (VL w M β D) (dcells (τ.enc v) 0 τ.size) u.cells.toList := by
  refine All2.of_get (by rw [dcells_len]; exact h.2.2.1.symm) fun i x y hx hy => ?_
  have hi : i < τ.size := by
    have := (List.getElem?_eq_some_iff.1 hx).1
    rwa [dcells_len] at this
  rw [dcells_get _ _ _ _ hi, Nat.zero_add] at hx
  injection hx with hx; subst hx
  exact .d (h.2.2.2 i y hy)
theorem PVal.lits {τ : Ty} (hc : τ.cmp = true) {v : τ.T} {u : Value} (h : PVal w M τ v u) {j : Nat} {x : Value} (hx : u.cells.toList[j]? = some x) : τ.enc v j = .lit x ∧ x.oneCell' = true ∧ ∀ n, Instr.sameBits n x x = true := by
  have hj : j < τ.size := by rw [← h.2.2.1]; exact (List.getElem?_eq_some_iff.1 hx).1
  obtain ⟨v', h1, h2⟩ := Ty.cmp_enc hc v j hj
  have h3 := h.2.2.2 j x hx
  rw [h1] at h3
  cases h3 with
  | lit h4 => exact ⟨h1, h4, h2⟩
theorem PVal.same {τ : Ty} (hc : τ.cmp = true) {v : τ.T} {u u' : Value} (h : PVal w M τ v u) (h' : PVal w M τ v u') : u = u' := by
  have hcells : u.cells.toList = u'.cells.toList := by
    apply List.ext_getElem?
    intro j
    by_cases hj : j < τ.size
    · obtain ⟨x, hx⟩ : ∃ x, u.cells.toList[j]? = some x := ⟨_, List.getElem?_eq_getElem (by rw [h.2.2.1]; exact hj)⟩
      obtain ⟨x', hx'⟩ : ∃ x, u'.cells.toList[j]? = some x := ⟨_, List.getElem?_eq_getElem (by rw [h'.2.2.1]; exact hj)⟩
      have h1 := (h.lits hc hx).1
      have h2 := (h'.lits hc hx').1
      rw [h1] at h2
      injection h2 with h2
      rw [hx, hx', h2]
    · rw [List.getElem?_eq_none (by rw [h.2.2.1]; omega), List.getElem?_eq_none (by rw [h'.2.2.1]; omega)]
  cases hag : τ.ag with
  | true =>
    obtain ⟨a, rfl⟩ := h.1 hag
    obtain ⟨b, rfl⟩ := h'.1 hag
    simp only [Value.cells] at hcells
    congr 1
    exact Array.toList_inj.1 hcells
  | false =>
    rw [one_cells (h.2.1 hag), one_cells (h'.2.1 hag)] at hcells
    simpa using hcells
theorem PVal.bits {τ : Ty} (hc : τ.cmp = true) {v : τ.T} {u : Value} (h : PVal w M τ v u) : Instr.sameBits 10000 u u = true := by
  cases hag : τ.ag with
  | true =>
    obtain ⟨a, rfl⟩ := h.1 hag
    simp only [Instr.sameBits, Bool.and_eq_true, List.all_eq_true]
    refine ⟨by simp, fun p hp => ?_⟩
    obtain ⟨i, hi⟩ := List.mem_iff_getElem?.1 hp
    rw [List.getElem?_zip_eq_some] at hi
    have e : p.1 = p.2 := Option.some.inj (hi.1.symm.trans hi.2)
    rw [← e]
    exact (h.lits hc (by simpa [Value.cells] using hi.1)).2.2 _
  | false =>
    have h5 := one_cells (h.2.1 hag)
    exact (h.lits hc (j := 0) (x := u) (by rw [h5]; rfl)).2.2 _

/-- the same key is the same value -/
theorem equal_run {κ : Ty} {kt : TypeId} (hk : KeyOk P κ kt) {x y : κ.T} {u v : Value} (hx : PVal w M κ x u) (hy : PVal w M κ y v) : (Op.equal kt u v).run P w = .ok (κ.beq x y) w := by
  refine eq_run (β := ⟨fun _ => none, fun _ => none, fun _ _ => False, fun _ _ _ => False, fun _ _ _ _ _ => False, P⟩) (D := fun _ => False) (M := M) 20 Op.maxDepth kt κ.lks _ _ u v _ (by decide) hk.ks (beq_leafs hk.cmp x y) hx.all hy.all fun e he => ?_
  have := hk.ag e he
  exact ⟨fun h => ⟨hx.1 (this ▸ h), hy.1 (this ▸ h)⟩, fun h => ⟨hx.2.1 (this ▸ h), hy.2.1 (this ▸ h)⟩⟩

theorem check_run (em : Bool) : ∀ (n d : Nat) (t : TypeId) (ks : List LK) (u : Value), n ≤ d → eqk P n t = some ks → u.cells.toList.length = ks.length → (∀ c ∈ u.cells.toList, c.oneCell' = true) →
    (∀ e, P.underlying t = some e → aggD e = true → ∃ a, u = .agg a) → (Instr.checkKey em d t u).run P w = .ok () w := by
  intro n
  induction n with
  | zero => intro d t ks u _ hk; simp [eqk] at hk
  | succ n ih =>
    intro d t ks u hd hk hlen hone hag
    obtain ⟨d, rfl⟩ : ∃ d', d = d' + 1 := ⟨d - 1, by omega⟩
    rw [eqk] at hk
    rw [Instr.checkKey]
    split at hk
    · rename_i q he
      simp only [Sem.run_bind, run_underlying he, Result.andThen_ok]
      cases u <;> rfl
    · rename_i he
      simp only [Sem.run_bind, run_underlying he, Result.andThen_ok]
      cases u <;> rfl
    · rename_i he
      simp only [Sem.run_bind, run_underlying he, Result.andThen_ok]
      cases u <;> rfl
    · rename_i fs he
      split at hk
      · obtain ⟨a, rfl⟩ := hag _ he rfl
        simp only [Sem.run_bind, run_underlying he, Result.andThen_ok]
        rw [← Array.forIn_toList]
        simp only [Value.cells] at hlen hone
        have key : ∀ (l : List Field) (off : Nat) (ks : List LK), eqks P (eqk P n) l off = some ks → off + ks.length ≤ a.toList.length →
            (forIn l PUnit.unit (fun f r => (if f.name ≠ "_" then do Instr.checkKey em d f.type (← part f.type a f.offset); pure (ForInStep.yield PUnit.unit) else pure (ForInStep.yield PUnit.unit) : Sem (ForInStep PUnit)))).run P w = .ok PUnit.unit w := by
          intro l
          induction l with
          | nil => intro off ks _ _; rfl
          | cons f l ihl =>
            intro off ks hk hle
            simp only [eqks] at hk
            split at hk
            · rename_i hnm
              split at hk
              · rename_i kf hkf
                split at hk
                · rename_i hsz
                  split at hk
                  · rename_i kr hkr
                    obtain rfl := Option.some.inj hk
                    rw [List.length_append] at hle
                    have ih2 := ihl (off + kf.length) kr hkr (by omega)
                    obtain ⟨e, hfe⟩ : ∃ e, P.underlying f.type = some e := by
                      cases n with
                      | zero => simp [eqk] at hkf
                      | succ n =>
                        cases hu : P.underlying f.type with
                        | some e => exact ⟨e, rfl⟩
                        | none => rw [eqk, hu] at hkf; simp at hkf
                    obtain ⟨u, hu1, hu2, hu3, hu4⟩ : ∃ u, (part f.type a f.offset).run P w = .ok u w ∧ u.cells.toList.length = kf.length ∧ (∀ c ∈ u.cells.toList, c.oneCell' = true) ∧ (aggD e = true → ∃ a, u = .agg a) := by
                      by_cases hae : aggD e = true
                      · refine ⟨_, part_agg hfe hae hsz, ?_, ?_, fun _ => ⟨_, rfl⟩⟩
                        · simp only [Array.length_toList] at hle
                          simp [Value.cells, hnm.2]; omega
                        · intro c hc
                          simp only [Value.cells, hnm.2, List.extract_eq_take_drop, Array.toList_extract] at hc
                          exact hone c (List.mem_of_mem_drop (List.mem_of_mem_take hc))
                      · have hae' : aggD e = false := by simpa using hae
                        have hk1 : kf.length = 1 := by
                          cases n with
                          | zero => simp [eqk] at hkf
                          | succ n =>
                            rw [eqk, hfe] at hkf
                            cases e <;> simp [aggD] at hae' hkf <;> (try (subst hkf; rfl))
                        have hlt : off < a.toList.length := by omega
                        have hg : a[off]? = some a[off] := by simp [Array.getElem?_eq_getElem (by simpa using hlt)]
                        have ho := hone a[off] (by simp)
                        refine ⟨a[off], part_one hfe hae' (by rw [hnm.2]; exact hg), ?_, ?_, fun h => by rw [h] at hae'; cases hae'⟩
                        · rw [one_cells ho, hk1]; rfl
                        · rw [one_cells ho]; intro c hc; simp at hc; rw [hc]; exact ho
                    have hrun := ih d f.type kf u (by omega) hkf hu2 hu3 (fun e' he' h => by
                      obtain rfl : e = e' := Option.some.inj (hfe.symm.trans he')
                      exact hu4 h)
                    simp only [List.forIn_cons, Sem.run_bind, hnm.1, ne_eq, not_false_eq_true, if_true, Result.andThen_ok, hu1, hrun, Sem.run_pure]
                    exact ih2
                  · cases hk
                · cases hk
              · cases hk
            · cases hk
        rw [key fs.toList 0 ks hk (by rw [← hlen]; simp)]
        rfl
      · cases hk
    · cases hk
theorem PVal.check {κ : Ty} {kt : TypeId} (hk : KeyOk P κ kt) {x : κ.T} {u : Value} (hx : PVal w M κ x u) (em : Bool) : (Instr.checkKey em 10000 kt u).run P w = .ok () w := by
  refine check_run em 20 10000 kt κ.lks u (by decide) hk.ks (by rw [hx.2.2.1, Ty.lks_len hk.cmp]) (fun c hc => ?_) fun e he h => hx.1 (hk.ag e he ▸ h)
  obtain ⟨j, hj⟩ := List.mem_iff_getElem?.1 hc
  exact (hx.lits hk.cmp hj).2.1

/-- the first entry that has the key -/
def mat {α β : Type _} (e : α → α → Bool) (k : α) : List (α × β) → Nat → Option (Nat × β)
  | [], _ => none
  | p :: r, i => if e k p.1 then some (i, p.2) else mat e k r (i + 1)
theorem mget_mat {α β : Type _} {e : α → α → Bool} {k : α} : ∀ {l : List (α × β)} {i : Nat}, mget e k l = (mat e k l i).map (·.2)
  | [], _ => rfl
  | p :: r, i => by
    simp only [mget, mat]
    split
    · rfl
    · exact mget_mat
abbrev EnR (w : World) (M : CM) (κ ν : Ty) (p : κ.T × ν.T) (en : MapEntry) : Prop := PVal w M κ p.1 en.key ∧ PVal w M ν p.2 en.val
/-- what is found in the machine's entries -/
def Fnd (w : World) (M : CM) (ν : Ty) (es : List MapEntry) (k : Value) (i : Nat) : Option (Nat × ν.T) → Option (Nat × Value) → Prop
  | none, r => r = none
  | some (j, v), r => ∃ en, i ≤ j ∧ es[j - i]? = some en ∧ r = some (j, en.val) ∧ PVal w M ν v en.val ∧ en.key = k
theorem Fnd.tail {ν : Ty} {es : List MapEntry} {en0 : MapEntry} {k : Value} {i : Nat} {o : Option (Nat × ν.T)} {r : Option (Nat × Value)} (h : Fnd w M ν es k (i + 1) o r) : Fnd w M ν (en0 :: es) k i o r := by
  cases o with
  | none => exact h
  | some q =>
    obtain ⟨j, v⟩ := q
    obtain ⟨en, h1, h2, h3, h4⟩ := h
    refine ⟨en, by omega, ?_, h3, h4⟩
    rw [show j - i = (j - (i + 1)) + 1 by omega, List.getElem?_cons_succ]
    exact h2
theorem ask_run {κ ν : Ty} {kt : TypeId} (hk : KeyOk P κ kt) {k : κ.T} {u : Value} (hu : PVal w M κ k u) : ∀ {l : List (κ.T × ν.T)} {es : List MapEntry} (i : Nat), All2 (EnR w M κ ν) l es →
    ∃ r, (Instr.findAsking kt u es i).run P w = .ok r w ∧ Fnd w M ν es u i (mat κ.beq k l i) r
  | _, _, i, .nil => ⟨none, rfl, rfl⟩
  | p :: l, en :: es, i, .cons h1 h2 => by
    have he := equal_run hk hu h1.1
    simp only [Instr.findAsking, Sem.run_bind, he, Result.andThen_ok, mat, Sem.run_ite]
    cases hb : κ.beq k p.1 with
    | true =>
      refine ⟨_, rfl, en, Nat.le_refl _, by simp, rfl, h1.2, ?_⟩
      have := Ty.beq_eq hk.cmp hb
      exact (h1.1.same hk.cmp (this ▸ hu))
    | false =>
      obtain ⟨r, g1, g2⟩ := ask_run hk hu (i + 1) h2
      exact ⟨r, by simpa using g1, by simpa using g2.tail⟩
theorem now_run {κ ν : Ty} {kt : TypeId} {d : TypeDesc} (hd : P.underlying kt = some d) (hk : KeyOk P κ kt) {k : κ.T} {u : Value} (hu : PVal w M κ k u) : ∀ {l : List (κ.T × ν.T)} {es : List MapEntry} (i : Nat) {r : Option (Nat × Value)}, All2 (EnR w M κ ν) l es →
    Instr.findNow d u es i = some r → Fnd w M ν es u i (mat κ.beq k l i) r
  | _, _, i, r, .nil, h => by injection h with h; exact h.symm
  | p :: l, en :: es, i, r, .cons h1 h2, h => by
    have hs' : ∀ b ky, PVal w M κ p.1 ky → Instr.sameNow d u ky = some b → b = κ.beq k p.1 := fun b ky hky hb => by
      have he := equal_run hk hu hky
      have hq : (Op.equal kt u ky).run P w = .ok b w := by
        unfold Instr.sameNow at hb
        split at hb
        · split at hb
          · rename_i hkk
            subst hkk
            injection hb with hb; subst hb
            exact run_equalIn_int w _ kt _ _ _ _ hd
          · cases hb
        · injection hb with hb; subst hb
          rename_i a b
          have := run_equalIn_string w 9999 kt a b hd
          rw [← beq_toListBytes] at this
          exact this
        · injection hb with hb; subst hb
          exact run_equalIn_bool w _ kt _ _ hd
        · cases hb
      rw [he] at hq
      injection hq with hq; exact hq.symm
    have hs : ∀ b, Instr.sameNow d u en.key = some b → b = κ.beq k p.1 := fun b hb => hs' b en.key h1.1 hb
    simp only [Instr.findNow] at h
    simp only [mat]
    cases hb : Instr.sameNow d u en.key with
    | none => rw [hb] at h; cases h
    | some b =>
      rw [hb] at h
      rw [← hs b hb]
      cases b with
      | true =>
        injection h with h; subst h
        refine ⟨en, Nat.le_refl _, by simp, rfl, h1.2, ?_⟩
        have := Ty.beq_eq hk.cmp (hs true hb).symm
        exact (h1.1.same hk.cmp (this ▸ hu))
      | false => exact (now_run hd hk hu (i + 1) h2 h).tail
theorem find_run {κ ν : Ty} {kt : TypeId} (hk : KeyOk P κ kt) {k : κ.T} {u : Value} (hu : PVal w M κ k u) {l : List (κ.T × ν.T)} {es : List MapEntry} (h : All2 (EnR w M κ ν) l es) :
    ∃ r, (Instr.findKey kt u es).run P w = .ok r w ∧ Fnd w M ν es u 0 (mat κ.beq k l 0) r := by
  obtain ⟨d, hd⟩ : ∃ d, P.underlying kt = some d := by
    cases hu : P.underlying kt with
    | some e => exact ⟨e, rfl⟩
    | none => have := hk.ks; simp [eqk, hu] at this
  unfold Instr.findKey
  simp only [Sem.run_bind, run_underlying hd, Result.andThen_ok]
  cases hn : Instr.findNow d u es 0 with
  | some r => exact ⟨r, rfl, now_run hd hk hu 0 h hn⟩
  | none => exact ask_run hk hu 0 h

/-- an entry is put -/
theorem put_some {κ ν : Ty} (hc : κ.cmp = true) {k : κ.T} {u : Value} {x : ν.T} {v : Value} (hu : PVal w M κ k u) (hv : PVal w M ν x v) : ∀ {l : List (κ.T × ν.T)} {es : List MapEntry} {i j : Nat} {y : ν.T}, All2 (EnR w M κ ν) l es →
    mat κ.beq k l i = some (j, y) → i ≤ j ∧ All2 (EnR w M κ ν) (mput κ.beq k x l) (es.modify (j - i) fun e => { e with key := u, val := v })
  | _, _, i, j, y, .nil, h => by cases h
  | p :: l, en :: es, i, j, y, .cons h1 h2, h => by
    simp only [mat] at h
    simp only [mput]
    split at h
    · rename_i hb
      injection h with h; injection h with h h'; subst h
      rw [if_pos hb, Nat.sub_self]
      exact ⟨Nat.le_refl _, .cons ⟨hu, hv⟩ h2⟩
    · rename_i hb
      obtain ⟨g1, g2⟩ := put_some hc hu hv h2 h
      rw [if_neg hb, show j - i = (j - (i + 1)) + 1 by omega]
      exact ⟨by omega, .cons h1 g2⟩
theorem put_none {κ ν : Ty} {k : κ.T} {u : Value} {x : ν.T} {v : Value} {b : Nat} (hu : PVal w M κ k u) (hv : PVal w M ν x v) : ∀ {l : List (κ.T × ν.T)} {es : List MapEntry} {i : Nat}, All2 (EnR w M κ ν) l es →
    mat κ.beq k l i = none → All2 (EnR w M κ ν) (mput κ.beq k x l) (es ++ [{ key := u, val := v, born := b }])
  | _, _, i, .nil, h => .cons ⟨hu, hv⟩ .nil
  | p :: l, en :: es, i, .cons h1 h2, h => by
    simp only [mat] at h
    simp only [mput]
    split at h
    · cases h
    · rename_i hb
      rw [if_neg hb]
      exact .cons h1 (put_none hu hv h2 h)
end

section
variable {X : Cx} {β : Bt} {σ : St} {a : Act} {w : World} {G : List (Nat × Bool)}
theorem arg1_sound {M : CM} {D : Nat → Prop} {τ : Ty} {x : TV} {v : τ.T} {u : Value} (h : arg1 τ x = some v) (hx : VT w M β D x u) : PVal w M τ v u := by
  unfold arg1 at h
  split at h
  · split at h
    · cases h
    · rename_i ha
      obtain ⟨h1, h2⟩ := plainC_sound h (VT.cells hx)
      exact ⟨fun h => absurd h ha, fun _ => VL.one hx, h1, h2⟩
  · split at h
    · rename_i ha
      obtain ⟨h1, h2⟩ := plainC_sound h (VT.cells hx)
      obtain ⟨arr, rfl, _⟩ := hx
      exact ⟨fun _ => ⟨arr, rfl⟩, (fun h => by rw [ha] at h; cases h), h1, h2⟩
    · cases h
theorem tvOf_sound {w : World} {M : CM} {β : Bt} {D : Nat → Prop} {τ : Ty} {v : τ.T} {u : Value} (h : PVal w M τ v u) : VT w M β D (tvOf τ v) u := by
  obtain ⟨h1, h2, h3, h4⟩ := h
  unfold tvOf
  cases hag : τ.ag with
  | true =>
    obtain ⟨arr, rfl⟩ := h1 hag
    refine ⟨arr, rfl, ?_⟩
    refine All2.of_get (by rw [dcells_len]; exact h3.symm) fun i x y hx hy => ?_
    have hi : i < τ.size := by
      have := (List.getElem?_eq_some_iff.1 hx).1
      rwa [dcells_len] at this
    rw [dcells_get _ _ _ _ hi, Nat.zero_add] at hx
    injection hx with hx; subst hx
    exact .d (h4 i y hy)
  | false =>
    have h5 := one_cells (h2 hag)
    exact .d (h4 0 u (by rw [h5]; rfl))
theorem getMap_run {k : Nat} {es : Array MapEntry} {clock : Nat} (h : w.heap[k]? = some (.map es clock)) : (getObj k).run P w = .ok (.map es clock) w := by simp [getObj, Sem.run, h]
theorem mapAt_sound (R : Rel X β σ a w) {κ ν : Ty} {n : Nat} {l : List (κ.T × ν.T)} (h : mapAt (look σ.h) κ ν n = some l) : look σ.h n = some (.mp κ ν l) ∧
    ∃ k es clock, β.o n = none ∧ β n = some k ∧ w.heap[k]? = some (.map es clock) ∧ All2 (EnR w (Mt β (look σ.h)) κ ν) l es.toList := by
  unfold mapAt at h
  split at h
  · rename_i κ' ν' l' hn
    split at h
    · rename_i e1 e2 _ _
      subst e1 e2
      injection h with h; subst h
      exact ⟨hn, R.hr.blk n _ hn⟩
    · cases h
  · cases h

theorem good_make (R : Rel X β σ a w) {o : Oper} {t : TypeId} (ho : o.op = .makeMap t none) {r : Res} (h : aMake L σ t o.dst = some r) : OpGood P X σ a w o r := by
  unfold aMake at h
  split at h
  · rename_i y d hy hd
    split at h
    · rename_i κ ν hm hn
      obtain rfl := Option.some.inj h
      have hno : ∀ o0, look σ.h (md d) = some o0 → False := fun o0 h => by rw [hn] at h; cases h
      obtain ⟨β', R', h2, h3, hev, hbe⟩ := R.set (md d) (.mp κ ν []) (fun o0 h => (hno o0 h).elim) (some w.heap.size) none (w' := w.alloc (.map #[] 0)) rfl rfl rfl (by simp)
        (fun k hk _ => heap_alloc_old w _ k hk) (fun o0 _ h => (hno o0 h).elim) (fun k hk => by injection hk with hk; subst hk; exact ⟨by simp, .inr (Nat.le_refl _)⟩)
        (fun o0 h => (hno o0 h).elim) (fun β' g1 g2 hev hbe => ⟨w.heap.size, #[], 0, g2, g1, heap_alloc_new w _, .nil⟩)
      refine ⟨.value (.map (some w.heap.size)), _, β', _, ?_, .inl rfl, R', .mp (by simp [dm, upds, look_cons]) h3 h2, by simp⟩
      simp [execOp, ho, Instr.makeMap, Result.andThen]
    · cases h
  · cases h

theorem good_look (hL : LOk P L) (R : Rel X β σ a w) (hG : GOk a G) {o : Oper} {t : TypeId} {m k : Operand} {ok : Bool} (ho : o.op = .lookup t m k ok) {r : Res} (h : aLook L G σ t m k ok = some r) : OpGood P X σ a w o r := by
  unfold aLook at h
  split at h
  · rename_i y n kx hy hm hk
    split at h
    · rename_i κ ν hmp
      split at h
      · rename_i l x hl hx
        obtain ⟨kt, et, z, hu, hkey, hz, hz0⟩ := (hL t y hy).mpt κ ν hmp
        obtain ⟨hn, b, es, clock, h0, h1, h2, h3⟩ := mapAt_sound R hl
        have hxv := arg1_sound hx (opS_sound R hG hk)
        have hmv := opT_sound R hG hm
        generalize hem : a.eval m = vm at hmv
        generalize hek : a.eval k = vk at hxv
        cases hmv with
        | mp g1 g2 g3 =>
        obtain rfl := Option.some.inj (h1.symm.trans g3)
        obtain ⟨q, hq1, hq2⟩ := find_run hkey hxv h3
        have hchk := hxv.check hkey (em := es.isEmpty)
        have hval : ∃ v, PVal w (Mt β (look σ.h)) ν ((mget κ.beq x l).getD ν.d0) v ∧ (Instr.lookup t (.map (some b)) vk ok).run P w = .ok (if ok then .tuple #[v, .bool (mget κ.beq x l).isSome] else v) w := by
          rw [mget_mat (i := 0)]
          cases hmat : mat κ.beq x l 0 with
          | none =>
            rw [hmat] at hq2
            have hq2 : q = none := hq2
            subst hq2
            refine ⟨z, hz0 _ _, ?_⟩
            simp [Instr.lookup, run_underlying hu, getMap_run h2, hchk, hq1, hz, Result.andThen]
          | some p =>
            obtain ⟨j, y'⟩ := p
            rw [hmat] at hq2
            obtain ⟨en, _, g4, g5, g6, _⟩ := hq2
            subst g5
            refine ⟨en.val, g6, ?_⟩
            simp [Instr.lookup, run_underlying hu, getMap_run h2, hchk, hq1, Result.andThen]
        obtain ⟨v, hv, hrun⟩ := hval
        have hexec : (execOp a.eval o).run P w = .ok (.value (if ok then .tuple #[v, .bool (mget κ.beq x l).isSome] else v)) w := by
          simp [execOp, ho, hem, hek, hrun]
        split at h
        · rename_i hok
          obtain rfl := Option.some.inj h
          rw [if_pos hok] at hexec
          exact OpGood.pure R hexec rfl ⟨_, rfl, .cons (tvOf_sound hv) (.cons (VT.lit rfl) .nil)⟩ (by simp)
        · rename_i hok
          obtain rfl := Option.some.inj h
          rw [if_neg hok] at hexec
          exact OpGood.pure R hexec rfl (tvOf_sound hv) (by simp)
      · cases h
    · cases h
  · cases h

theorem good_upd (hL : LOk P L) (R : Rel X β σ a w) (hG : GOk a G) {o : Oper} {t : TypeId} {m k x : Operand} (ho : o.op = .mapUpdate t m k x) {r : Res} (h : aUpd L G σ t m k x = some r) : OpGood P X σ a w o r := by
  unfold aUpd at h
  split at h
  · rename_i y n kx xx hy hm hk hxx
    split at h
    · rename_i κ ν hmp
      split at h
      · rename_i l kk xv hl hkk hxv
        obtain rfl := Option.some.inj h
        obtain ⟨kt, et, z, hu, hkey, hz, hz0⟩ := (hL t y hy).mpt κ ν hmp
        obtain ⟨hn, b, es, clock, h0, h1, h2, h3⟩ := mapAt_sound R hl
        have hkv := arg1_sound hkk (opS_sound R hG hk)
        have hvv := arg1_sound hxv (opS_sound R hG hxx)
        have hmv := opT_sound R hG hm
        generalize hem : a.eval m = vm at hmv
        generalize hek : a.eval k = vk at hkv
        generalize hex : a.eval x = vx at hvv
        cases hmv with
        | mp g1 g2 g3 =>
        obtain rfl := Option.some.inj (h1.symm.trans g3)
        obtain ⟨q, hq1, hq2⟩ := find_run hkey hkv h3
        have hchk := hkv.check hkey (em := false)
        have hlt : b < w.heap.size := (Array.getElem?_eq_some_iff.1 h2).1
        have hval : ∃ es' clock', All2 (EnR w (Mt β (look σ.h)) κ ν) (mput κ.beq kk xv l) es'.toList ∧ (Instr.mapUpdate t (.map (some b)) vk vx).run P w = .ok () { w with heap := w.heap.setIfInBounds b (.map es' clock') } := by
          cases hmat : mat κ.beq kk l 0 with
          | none =>
            rw [hmat] at hq2
            have hq2 : q = none := hq2
            subst hq2
            refine ⟨es.push { key := vk, val := vx, born := clock }, clock + 1, by rw [Array.toList_push]; exact put_none hkv hvv h3 hmat, ?_⟩
            simp [Instr.mapUpdate, run_underlying hu, getMap_run h2, hchk, hq1, setObj, Sem.run, h2, Result.andThen]
          | some p =>
            obtain ⟨j, y'⟩ := p
            have hput := (put_some hkey.cmp hkv hvv h3 hmat).2
            rw [hmat] at hq2
            obtain ⟨en, _, g4, g5, g6, g7⟩ := hq2
            subst g5
            have hj : es[j]? = some en := by simpa using g4
            have hst : (Instr.keyThatStays (((es[j]?).map (·.key)).getD vk) vk).run P w = .ok vk w := by
              rw [hj]
              simp [Instr.keyThatStays, g7, hkv.bits hkey.cmp]
            refine ⟨es.modify j fun e => { e with key := vk, val := vx }, clock, by simpa [Array.toList_modify] using hput, ?_⟩
            simp [Instr.mapUpdate, run_underlying hu, getMap_run h2, hchk, hq1, hst, setObj, Sem.run, h2, Result.andThen]
        obtain ⟨es', clock', hall, hrun⟩ := hval
        obtain ⟨β', R', _⟩ := R.set n (.mp κ ν (mput κ.beq kk xv l)) (fun o0 h => by rw [hn] at h; injection h with h; subst h; rfl) (some b) none (w' := { w with heap := w.heap.setIfInBounds b (.map es' clock') }) rfl rfl rfl (by simp)
          (fun j _ hj => by
            have hne : b ≠ j := fun e => hj _ hn (e ▸ h1)
            simp [hne])
          (fun o0 p h _ hmut => by rw [hn] at h; injection h with h; subst h; exact absurd trivial hmut)
          (fun j hj => by injection hj with hj; subst hj; exact ⟨by simpa using hlt, .inl ⟨_, hn, h1, fun _ _ => trivial⟩⟩)
          (fun o0 h => ⟨fun _ => ⟨rfl, h1.symm⟩, fun u hu => by rw [h0] at hu; cases hu⟩)
          (fun β' g1 g2 hev hbe => ⟨b, es', clock', g2, g1, by simp [hlt], hall.mono fun _ _ _ h => ⟨h.1.evo hev, h.2.evo hev⟩⟩)
        refine ⟨.skip, _, β', undef, ?_, .inr ⟨rfl, rfl⟩, R', ⟨#[], rfl, .nil⟩, by simp⟩
        simp [execOp, ho, hem, hek, hex, hrun]
      · cases h
    · cases h
  · cases h
end
end Go.Sy
