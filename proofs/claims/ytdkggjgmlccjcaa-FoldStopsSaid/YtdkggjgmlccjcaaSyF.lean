/- A verified generator of conditions for this program, and its soundness: part F of the proof. -/
import Derived.Test.YtdkggjgmlccjcaaSyE
namespace Go.Sy
variable {P : Program} {L : Nat → Option Lay} {Γ : Nat → Option Con}

section
variable {X : Cx} {β : Bt} {σ : St} {a : Act} {w : World} {G : List (Nat × Bool)}

theorem mapP_sound (R : Rel X β σ a w) (hG : GOk a G) : ∀ {os : List (Nat × Operand)} {xs : List (Nat × TV)}, mapP (opT G σ) os = some xs →
    All2 (fun (p : Nat × TV) (q : Nat × Value) => p.1 = q.1 ∧ VT w (Mt β (look σ.h)) β (dm (look σ.h)) p.2 q.2) xs (os.map fun (i, x) => (i, a.eval x))
  | [], xs, h => by obtain rfl := Option.some.inj h; exact .nil
  | (i, o) :: r, xs, h => by
    simp only [mapP] at h
    split at h
    · rename_i x hx
      split at h
      · rename_i ys hys
        obtain rfl := Option.some.inj h
        exact .cons ⟨rfl, opT_sound R hG hx⟩ (mapP_sound R hG hys)
      · cases h
    · cases h

theorem All2.two_left {α : Type _} {β : Type _} {R : α → β → Prop} {x y : α} {m : List β} (h : All2 R [x, y] m) : ∃ u v, m = [u, v] ∧ R x u ∧ R y v := by
  cases h with | cons h1 h2 => cases h2 with | cons h2 h3 => cases h3; exact ⟨_, _, rfl, h1, h2⟩

theorem foldl_set : ∀ (vs : List Value) (cs : Array Value) (off i : Nat), off + i + vs.length ≤ cs.size →
    ((vs.zipIdx i).foldl (fun cs (c, j) => cs.setIfInBounds (off + j) c) cs).toList = cs.toList.take (off + i) ++ (vs ++ cs.toList.drop (off + i + vs.length))
  | [], cs, off, i, _ => by simp
  | v :: vs, cs, off, i, h => by
    simp only [List.length_cons] at h
    simp only [List.zipIdx_cons, List.foldl_cons]
    rw [foldl_set vs _ off (i + 1) (by simp; omega)]
    have hset : (cs.setIfInBounds (off + i) v).toList = cs.toList.set (off + i) v := by simp
    rw [hset]
    have e1 : off + (i + 1) = (off + i) + 1 := by omega
    have e2 : off + (i + 1) + vs.length = off + i + (vs.length + 1) := by omega
    rw [List.length_cons, e2]
    have hlt : off + i < cs.toList.length := by simp; omega
    have t1 : (cs.toList.set (off + i) v).take (off + (i + 1)) = cs.toList.take (off + i) ++ [v] := by
      rw [e1, List.take_succ_eq_append_getElem (by simp; omega), List.take_set_of_le (Nat.le_refl _)]
      simp
    have t2 : (cs.toList.set (off + i) v).drop (off + i + (vs.length + 1)) = cs.toList.drop (off + i + (vs.length + 1)) := by
      rw [List.drop_set, if_pos (by omega)]
    rw [t1, t2]
    simp

theorem fill_sound {M : CM} {D : Nat → Prop} {fs : List (Nat × Nat)} {place : Nat → Option (Nat × Nat)} (hpl : ∀ (i : Nat) q, fs[i]? = some q → place i = some q) :
    ∀ {parts : List (Nat × TV)} {qs : List (Nat × Value)} {cells cs : List LV} {arr : Array Value}, fill fs cells parts = some cs →
      All2 (fun (p : Nat × TV) (q : Nat × Value) => p.1 = q.1 ∧ VT w M β D p.2 q.2) parts qs → All2 (VL w M β D) cells arr.toList →
      ∃ arr', Instr.fill place arr qs = some arr' ∧ All2 (VL w M β D) cs arr'.toList
  | [], qs, cells, cs, arr, h, hq, hc => by cases hq; obtain rfl := Option.some.inj h; exact ⟨arr, rfl, hc⟩
  | (i, v) :: parts, qs, cells, cs, arr, h, hq, hc => by
    cases hq with
    | @cons _ q _ qs h1 h2 =>
      obtain ⟨j, u⟩ := q
      obtain ⟨rfl, hv⟩ := h1
      simp only [fill] at h
      split at h
      · rename_i off size hf
        split at h
        · rename_i hsz
          split at h
          · rename_i cs' hcs
            have hcells := VT.cells hv
            have hl := hcells.length
            obtain ⟨hle, hnew⟩ := setAt_all2 hc hcells hcs
            have e := foldl_set u.cells.toList arr off 0 (by simpa using hle)
            have hu : u.cells.size = size := by rw [← hsz, hl]; simp
            have hgo : ¬ (u.cells.size ≠ size || off + u.cells.size > arr.size) = true := by
              simp only [ne_eq, decide_not, Bool.or_eq_true, Bool.not_eq_true', decide_eq_false_iff_not, decide_eq_true_eq, not_or]
              exact ⟨fun h => h hu, by simp at hle; omega⟩
            have hx := fill_sound hpl (arr := (u.cells.zipIdx.foldl (fun cs (c, j) => cs.setIfInBounds (off + j) c) arr)) h h2 ?_
            · obtain ⟨arr', g1, g2⟩ := hx
              refine ⟨arr', ?_, g2⟩
              simp only [Instr.fill, hpl i _ hf]
              rw [if_neg hgo]
              exact g1
            · rw [← Array.foldl_toList, Array.toList_zipIdx, e]
              simpa using hnew
          · cases h
        · cases h
      · cases h

theorem run_places {fields : List Field} {fs : List (Nat × Nat)} (h : All2 (fun q (f : Field) => f.offset = q.1 ∧ sizeIs P f.type q.2 ∧ q.2 ≠ 0) fs fields) :
    (fields.mapM fun f => (do pure (f.offset, ← sizeOf f.type) : Sem (Nat × Nat))).run P w = .ok fs w := by
  induction h with
  | nil => simp
  | @cons q f fs fields h1 _ ih =>
    obtain ⟨e1, e2, _⟩ := h1
    simp only [List.mapM_cons, Sem.run_bind, run_sizeOf e2, Result.andThen_ok, Sem.run_pure, ih, e1]

theorem good_build (hL : LOk P L) (R : Rel X β σ a w) (hG : GOk a G) {o : Oper} {t : TypeId} {parts : Array (Nat × Operand)} (ho : o.op = .build t parts) {r : Res} (h : aBuild L G σ t parts.toList = some r) : OpGood P X σ a w o r := by
  unfold aBuild at h
  split at h
  · rename_i y hy
    split at h
    · rename_i ps hps
      split at h
      · rename_i cs hcs
        split at h
        · cases h
        · rename_i hne
          obtain rfl := Option.some.inj h
          obtain ⟨fields, hu, hall⟩ := (hL t y hy).fs (by simpa using hne)
          obtain ⟨z, hz, _, hzz⟩ := (hL t y hy).zero
          have hb : All2 (VL w (Mt β (look σ.h)) β (dm (look σ.h))) (wrapD y.zero) z.cells.toList := by
            have := hzz w (Mt β (look σ.h))
            clear hz hzz hy hcs
            generalize z.cells.toList = zs at this
            generalize y.zero = ys at this
            induction this with
            | nil => exact .nil
            | cons h1 _ ih => exact .cons (.d h1) ih
          obtain ⟨arr', g1, g2⟩ := fill_sound (place := (y.fs.toArray[·]?)) (fun i q hq => by simpa using hq) hcs (mapP_sound R hG hps) hb
          refine OpGood.pure R (v := .agg arr') ?_ rfl ⟨arr', rfl, g2⟩ (by simp)
          have hpl : (fields.mapM fun f => (do pure (f.offset, ← sizeOf f.type) : Sem (Nat × Nat))).run P w = .ok y.fs.toArray w := by
            have := run_places (w := w) hall
            rw [Array.mapM_eq_mapM_toList, Sem.run_map, this]
            rfl
          have hparts : (parts.map fun (i, x) => (i, a.eval x)).toList = (parts.toList.map fun (i, x) => (i, a.eval x)) := by simp
          simp only [execOp, ho, Sem.run_bind, Instr.build, hz, Result.andThen_ok, run_underlying hu, hpl, hparts, g1, Sem.run_pure]
      · cases h
    · cases h
  · cases h

theorem asL_sound {M : CM} {τ : Ty} {x : DV} {l : List τ.T} {v : Value} (h : asL τ x = some l) (hv : VD w M x v) : VD w M (.sl τ l) v := by
  unfold asL at h
  split at h
  · rename_i σ' l'
    split at h
    · rename_i hh _
      subst hh
      obtain rfl := Option.some.inj h
      exact hv
    · split at h
      · obtain rfl := Option.some.inj h
        cases hv with
        | nil => exact .nil
        | sl _ h0 => exact absurd h0 (Nat.lt_irrefl _)
      · cases h
  · cases h

/-- the elements' cells -/
theorem VD.row {M : CM} {τ : Ty} {l : List τ.T} {v : Value} (h : VD w M (.sl τ l) v) :
    ∃ (ad : Option Addr) (cap : Nat) (cs : List Value), v = .slice ad l.length cap ∧ cs.length = l.length * τ.size ∧ (ad = none → l = [] ∧ cap = 0) ∧ (∀ u ∈ cs, u.oneCell' = true) ∧
      (∀ a, ad = some a → ∀ j u, cs[j]? = some u → w.cell? (a.add j) = some u ∧ a.block < w.heap.size ∧ ¬ M a.block (a.off + j)) ∧
      ∀ i j u, i < l.length → j < τ.size → cs[i * τ.size + j]? = some u → VD w M (τ.enc (l.getD i τ.d0) j) u := by
  cases h with
  | nil => exact ⟨none, 0, [], rfl, by simp, fun _ => ⟨rfl, rfl⟩, by simp, (fun a h => by cases h), fun i j u hi => absurd hi (Nat.not_lt_zero _)⟩
  | @sl _ _ a cap vs h0 hb hcap hmax hM hc hv =>
    have hdm : ∀ q, q < l.length * τ.size → q / τ.size < l.length ∧ q % τ.size < τ.size ∧ q / τ.size * τ.size + q % τ.size = q := fun q hq => by
      have h1 := Nat.div_add_mod q τ.size
      rw [Nat.mul_comm] at h1
      exact ⟨(Nat.div_lt_iff_lt_mul h0).2 hq, Nat.mod_lt _ h0, h1⟩
    have hg : ∀ (q : Nat) u, ((List.range (l.length * τ.size)).map fun q => vs (q / τ.size) (q % τ.size))[q]? = some u → q < l.length * τ.size ∧ u = vs (q / τ.size) (q % τ.size) := fun q u hu => by
      obtain ⟨h1, h2⟩ := List.getElem?_eq_some_iff.1 hu
      simp at h1 h2
      exact ⟨h1, h2.symm⟩
    refine ⟨some a, cap, (List.range (l.length * τ.size)).map fun q => vs (q / τ.size) (q % τ.size), rfl, by simp, (fun h => by cases h), fun u hu => ?_, fun a' ha j u hu => ?_, fun i j u hi hj hu => ?_⟩
    · obtain ⟨q, hq, rfl⟩ := List.mem_map.1 hu
      obtain ⟨g1, g2, _⟩ := hdm q (List.mem_range.1 hq)
      exact (hv _ _ g1 g2).one
    · injection ha with ha; subst ha
      obtain ⟨hj, rfl⟩ := hg j u hu
      obtain ⟨g1, g2, g3⟩ := hdm j hj
      have h1 := hc _ _ g1 g2
      have h2 := hM _ _ g1 g2
      rw [g3] at h1 h2
      exact ⟨h1, hb _ g1, h2⟩
    · obtain ⟨hq, rfl⟩ := hg _ u hu
      have e1 : (i * τ.size + j) / τ.size = i := by
        rw [Nat.mul_comm, Nat.mul_add_div h0, Nat.div_eq_of_lt hj, Nat.add_zero]
      have e2 : (i * τ.size + j) % τ.size = j := by
        rw [Nat.mul_comm, Nat.mul_add_mod, Nat.mod_eq_of_lt hj]
      rw [e1, e2]
      exact hv i j hi hj

/-- a slice out of its elements' cells -/
theorem VD.of_row {M : CM} {τ : Ty} (h0 : 0 < τ.size) {l : List τ.T} {k cap : Nat} {cs : List Value} (hk : k < w.heap.size) (hcap : l.length ≤ cap) (hmax : cap ≤ maxLen) (hlen : cs.length = l.length * τ.size)
    (hM : ∀ j, j < l.length * τ.size → ¬ M k j) (hc : ∀ (j : Nat) u, cs[j]? = some u → w.cell? ⟨k, j, none⟩ = some u)
    (hv : ∀ i j u, i < l.length → j < τ.size → cs[i * τ.size + j]? = some u → VD w M (τ.enc (l.getD i τ.d0) j) u) : VD w M (.sl τ l) (.slice (some ⟨k, 0, none⟩) l.length cap) := by
  have hb : ∀ i j, i < l.length → j < τ.size → i * τ.size + j < l.length * τ.size := fun i j hi hj => by
    have : (i + 1) * τ.size ≤ l.length * τ.size := Nat.mul_le_mul_right _ hi
    rw [Nat.add_mul, Nat.one_mul] at this
    omega
  have hget : ∀ i j, i < l.length → j < τ.size → cs[i * τ.size + j]? = some (cs.getD (i * τ.size + j) undef) := fun i j hi hj => by
    have := hb i j hi hj
    rw [List.getD_eq_getElem?_getD, List.getElem?_eq_getElem (by omega)]
    rfl
  refine .sl (fun i j => cs.getD (i * τ.size + j) undef) h0 (fun _ _ => hk) hcap hmax (fun i j hi hj => ?_) (fun i j hi hj => ?_) (fun i j hi hj => hv i j _ hi hj (hget i j hi hj))
  · rw [Nat.zero_add]; exact hM _ (hb i j hi hj)
  · rw [Addr.add_lit, Nat.zero_add]; exact hc _ _ (hget i j hi hj)

theorem getD_append_left' {α : Type _} {l m : List α} {i : Nat} {d : α} (h : i < l.length) : (l ++ m).getD i d = l.getD i d := by
  rw [List.getD_eq_getElem?_getD, List.getD_eq_getElem?_getD, List.getElem?_append_left h]
theorem getD_append_right' {α : Type _} {l m : List α} {i : Nat} {d : α} (h : l.length ≤ i) : (l ++ m).getD i d = m.getD (i - l.length) d := by
  rw [List.getD_eq_getElem?_getD, List.getD_eq_getElem?_getD, List.getElem?_append_right h]

/-- rows, one behind the other -/
theorem row_append {M : CM} {τ : Ty} {l l' : List τ.T} {cs cs' : List Value} (hl : cs.length = l.length * τ.size) (h1 : ∀ i j u, i < l.length → j < τ.size → cs[i * τ.size + j]? = some u → VD w M (τ.enc (l.getD i τ.d0) j) u)
    (h2 : ∀ i j u, i < l'.length → j < τ.size → cs'[i * τ.size + j]? = some u → VD w M (τ.enc (l'.getD i τ.d0) j) u) :
    ∀ i j u, i < (l ++ l').length → j < τ.size → (cs ++ cs')[i * τ.size + j]? = some u → VD w M (τ.enc ((l ++ l').getD i τ.d0) j) u := by
  intro i j u hi hj hu
  by_cases h : i < l.length
  · have : (i + 1) * τ.size ≤ l.length * τ.size := Nat.mul_le_mul_right _ h
    rw [Nat.add_mul, Nat.one_mul] at this
    rw [List.getElem?_append_left (by omega)] at hu
    rw [getD_append_left' h]
    exact h1 i j u h hj hu
  · have hge : l.length * τ.size ≤ i * τ.size := Nat.mul_le_mul_right _ (by omega)
    rw [List.getElem?_append_right (by omega)] at hu
    rw [getD_append_right' (by omega)]
    rw [List.length_append] at hi
    refine h2 (i - l.length) j u (by omega) hj ?_
    rw [← hu, hl, Nat.sub_mul]
    congr 1
    omega

/-- a row that is new, in a block of its own, with room behind it -/
theorem Rel.newRow (R : Rel X β σ a w) {n : Nat} {τ : Ty} (hτ : 0 < τ.size) {l : List τ.T} {cs : List Value} {cap : Nat} {arr : Array Value} {e : Nat} {w' : World}
    (hw : w'.os = w.os ∧ w'.tape = w.tape ∧ w'.output = w.output ∧ w'.heap = w.heap.push (.cells arr e (0, 0)))
    (hob : ∀ o0, look σ.h n = some o0 → o0.isOb = false) (hn : ∀ o0, look σ.h n = some o0 → ∃ u, β.o n = some u ∧ hlen u < l.length)
    (hcap : l.length ≤ cap) (hmax : cap ≤ maxLen) (hlen : cs.length = l.length * τ.size) (harr : arr.size = cap * τ.size) (hcs : arr.toList.take (l.length * τ.size) = cs)
    (hv : ∀ i j u, i < l.length → j < τ.size → cs[i * τ.size + j]? = some u → VD w (Mt β (look σ.h)) (τ.enc (l.getD i τ.d0) j) u) :
    ∃ β' : Bt, Rel X β' { σ with h := (n, .gr e τ.size l.length) :: σ.h } a w' ∧
      VL w' (Mt β' (look ((n, HO.gr e τ.size l.length) :: σ.h))) β' (dm (look ((n, HO.gr e τ.size l.length) :: σ.h))) (.own n (.sl τ l)) (.slice (some ⟨w.heap.size, 0, none⟩) l.length cap) := by
  obtain ⟨w1, w2, w3, w4⟩ := hw
  have hnew : w'.heap[w.heap.size]? = some (.cells arr e (0, 0)) := by rw [w4]; simp
  have hsz : w'.heap.size = w.heap.size + 1 := by rw [w4]; simp
  have hold : ∀ k, k < w.heap.size → w'.heap[k]? = w.heap[k]? := fun k hk => by rw [w4, Array.getElem?_push, if_neg (by omega)]
  obtain ⟨β', h1, h2, h3, h4, h5⟩ := R.set n (.gr e τ.size l.length) hob (some w.heap.size) (some (.slice (some ⟨w.heap.size, 0, none⟩) l.length cap)) (w' := w') w1 w2 w3 (by omega)
    (fun k hk _ => hold k hk) (fun o0 p ho hb _ => cell_of_heap (hold _ (R.hr.lt n _ (by rw [ho]; simp) (.inl hb)))) (fun k hk => by injection hk with hk; subst hk; exact ⟨by omega, .inr (Nat.le_refl _)⟩)
    (fun o0 ho => by
      obtain ⟨u, hu, hlt⟩ := hn o0 ho
      exact ⟨(fun h => by rw [hu] at h; cases h), fun u' hu' => ⟨_, rfl, .inr (by rw [hu] at hu'; injection hu' with hu'; subst hu'; exact hlt)⟩⟩)
    (fun β' g1 g2 hev hbe => .inr ⟨_, cap, arr, g2, g1, hnew, hcap, hmax, harr⟩)
  refine ⟨β', h1, .own (VD.of_row hτ (by omega) hcap hmax hlen (fun j hj hM => ?_) (fun j u hu => ?_) (fun i j u hi hj hu => (hv i j u hi hj hu).evo h4)) ⟨by simp [dm, look_cons], _, h3, Nat.le_refl _, fun _ => rfl⟩⟩
  · have g3 := h1.hr.only (n := n) (o := .gr e τ.size l.length) (by show look _ n = _; rw [look_cons, if_pos rfl]) rfl h2 hM
    simp only [HO.mut] at g3
    omega
  · have : cs[j]? = (arr.toList.take (l.length * τ.size))[j]? := by rw [hcs]
    rw [hu, List.getElem?_take] at this
    split at this
    · simp only [World.cell?, hnew]
      simpa using this.symm
    · cases this

/-- what append does -/
theorem run_append_nn (t ty e : TypeId) (i : TypeInfo) (ht : P.underlying t = some (.slice e)) (hi : P.info? e = some i) (ad : Option Addr) (n cap : Nat) (h : n ≤ cap) :
    (Builtin.append_ #[t, t] ty #[.slice ad n cap, .slice none 0 0]).run P w = .ok (.slice ad n cap) w := by
  cases ad <;> simp [Builtin.append_, run_underlying ht, sizeOf, typeInfo, hi, Builtin.lenOf, Builtin.firstCells, h, storeCells]

/-- an entry said again -/
theorem Rel.again (R : Rel X β σ a w) {n : Nat} {o : HO} (hn : look σ.h n = some o) (hob : o.isOb = false) : ∃ β' : Bt, Rel X β' { σ with h := (n, o) :: σ.h } a w ∧ β'.o n = β.o n ∧
    Evo (Mt β (look σ.h)) (Mt β' (look ((n, o) :: σ.h))) w w ∧ BEvo β β' (dm (look σ.h)) (dm (look ((n, o) :: σ.h))) := by
  obtain ⟨β', h1, h2, h3, h4, h5⟩ := R.set n o (fun o0 h => by rw [hn] at h; injection h with h; subst h; exact hob) (β n) (β.o n) (w' := w) rfl rfl rfl (Nat.le_refl _) (fun _ _ _ => rfl) (fun _ _ _ _ _ => rfl)
    (fun k hk => ⟨R.hr.lt n k (by rw [hn]; simp) (.inl hk), .inl ⟨o, hn, hk, fun _ h => h⟩⟩) (fun o0 _ => ⟨fun h => ⟨h, rfl⟩, fun u hu => ⟨u, hu, .inl rfl⟩⟩)
    (fun β' g1 g2 hev hbe => by
      have h := R.hr.blk n o hn
      cases o with
      | cells c => obtain ⟨k, arr, t, h0, h1, h2, h3⟩ := h; exact ⟨k, arr, t, g2.trans h0, g1.trans h1, h2, h3.mono fun _ _ _ h => VL.evo hev hbe h⟩
      | gr t sz len =>
        rcases h with ⟨h0, h1, h2⟩ | ⟨k, cap, arr, h0, h1, h2⟩
        · exact .inl ⟨g2.trans h0, g1.trans h1, h2⟩
        · exact .inr ⟨k, cap, arr, g2.trans h0, g1.trans h1, h2⟩
      | mp κ ν l => obtain ⟨k, es, clock, h0, h1, h2, h3⟩ := h; exact ⟨k, es, clock, g2.trans h0, g1.trans h1, h2, h3.mono fun _ _ _ h => ⟨h.1.evo hev, h.2.evo hev⟩⟩
      | vec τ t l =>
        rcases h with ⟨h0, h1, h2⟩ | ⟨k, cap, arr, h0, h1, h2, h3, h4, h5, h6⟩
        · exact .inl ⟨g2.trans h0, g1.trans h1, h2⟩
        · exact .inr ⟨k, cap, arr, g2.trans h0, g1.trans h1, h2, h3, h4, h5, fun i j u hi hj hu => (h6 i j u hi hj hu).evo hev⟩
      | ob => cases hob)
  exact ⟨β', h1, h3, h4, h5⟩

theorem Rel.append (R : Rel X β σ a w) {t ty e b n : Nat} {τ : Ty} {l l' : List τ.T} {v vx : Value} {i : TypeInfo} {z : Value} (hu : P.underlying t = some (.slice e)) (hτ : 0 < τ.size) (hi : P.info? e = some i) (hsz : i.size = τ.size) (hby : i.bytes = b)
    (hz : i.zero = some z) (hzs : z.cells.size = τ.size) (hv : VD w (Mt β (look σ.h)) (.sl τ l) v) (hx : VD w (Mt β (look σ.h)) (.sl τ l') vx)
    (hst : (look σ.h n = none ∧ v = .slice none 0 0 ∧ l = []) ∨ (look σ.h n = some (.gr e τ.size l.length) ∧ β.o n = some v)) (hbytes : (l.length + l'.length) * b ≤ 140737488355328) (hb0 : 0 < b) :
    ∃ v' w' β', (Builtin.append_ #[t, t] ty #[v, vx]).run P w = .ok v' w' ∧ Rel X β' { σ with h := (n, .gr e τ.size (l ++ l').length) :: σ.h } a w' ∧
      VL w' (Mt β' (look ((n, HO.gr e τ.size (l ++ l').length) :: σ.h))) β' (dm (look ((n, HO.gr e τ.size (l ++ l').length) :: σ.h))) (.own n (.sl τ (l ++ l'))) v' := by
  have hbig : l.length + l'.length ≤ 140737488355328 := Nat.le_trans (Nat.le_mul_of_pos_right _ hb0) hbytes
  obtain ⟨ad, cap, cs, hev, hcl, hnil, hone, hcell, hval⟩ := hv.row
  obtain ⟨ad', cap', cs', hev', hcl', hnil', hone', hcell', hval'⟩ := hx.row
  -- nothing comes: all stays
  have stay : l' = [] → (Builtin.append_ #[t, t] ty #[v, vx]).run P w = .ok v w → ∃ v' w' β', (Builtin.append_ #[t, t] ty #[v, vx]).run P w = .ok v' w' ∧ Rel X β' { σ with h := (n, .gr e τ.size (l ++ l').length) :: σ.h } a w' ∧
      VL w' (Mt β' (look ((n, HO.gr e τ.size (l ++ l').length) :: σ.h))) β' (dm (look ((n, HO.gr e τ.size (l ++ l').length) :: σ.h))) (.own n (.sl τ (l ++ l'))) v' := by
    intro hl' hrun
    subst hl'
    rw [List.append_nil]
    rcases hst with ⟨h1, rfl, rfl⟩ | ⟨h1, h2⟩
    · obtain ⟨β', R', hv'⟩ := R.nilOwn h1 e τ.size
      exact ⟨_, w, β', hrun, R', hv' τ⟩
    · obtain ⟨β', R', g1, g2, g3⟩ := R.again h1 rfl
      exact ⟨v, w, β', hrun, R', .own (hv.evo g2) ⟨by simp [dm, look_cons], v, g1.trans h2, Nat.le_refl _, fun _ => rfl⟩⟩
  have hnew : (cs ++ cs').length = (l ++ l').length * τ.size := by rw [List.length_append, hcl, hcl', List.length_append, Nat.add_mul]
  have hvals := row_append hcl hval hval'
  have hcap0 : l.length ≤ cap := by
    cases hv with
    | nil => exact Nat.zero_le _
    | sl _ _ _ h => injection hev with _ _ h3; rw [← h3]; exact h
  have hcapmax : cap ≤ maxLen := by
    cases hv with
    | nil => injection hev with _ h2 h3; rw [← h3]; exact Nat.zero_le _
    | sl _ _ _ _ h => injection hev with _ _ h3; rw [← h3]; exact h
  have hml : l.length + l'.length ≤ maxLen := by unfold maxLen; omega
  -- a new block
  have grow : ∀ old, old < l.length + l'.length → (∀ o0, look σ.h n = some o0 → ∃ u, β.o n = some u ∧ hlen u < (l ++ l').length) →
      (Builtin.append_ #[t, t] ty #[v, vx]).run P w = .ok (.slice (some ⟨w.heap.size, 0, none⟩) (l.length + l'.length) (grownCap w (l.length + l'.length) old e))
        (w.drew.alloc (.cells (cs.toArray ++ cs'.toArray ++ Builtin.zeroCells z.cells (grownCap w (l.length + l'.length) old e - (l.length + l'.length))) e)) →
      ∃ v' w' β', (Builtin.append_ #[t, t] ty #[v, vx]).run P w = .ok v' w' ∧ Rel X β' { σ with h := (n, .gr e τ.size (l ++ l').length) :: σ.h } a w' ∧
      VL w' (Mt β' (look ((n, HO.gr e τ.size (l ++ l').length) :: σ.h))) β' (dm (look ((n, HO.gr e τ.size (l ++ l').length) :: σ.h))) (.own n (.sl τ (l ++ l'))) v' := by
    intro old hold hex hrun
    have hob0 : ∀ o0, look σ.h n = some o0 → o0.isOb = false := fun o0 ho => by
      rcases hst with ⟨h1, _⟩ | ⟨h1, _⟩
      · rw [h1] at ho; cases ho
      · rw [h1] at ho; injection ho with ho; subst ho; rfl
    have hge := grownCap_ge w (l.length + l'.length) old e
    have hcm := grownCap_le_maxLen w (l.length + l'.length) old e hml
    rw [← List.length_append] at hrun hge hcm
    obtain ⟨β', R', hv'⟩ := R.newRow (n := n) (e := e) hτ (l := l ++ l') (cs := cs ++ cs') (cap := grownCap w (l ++ l').length old e)
      (arr := cs.toArray ++ cs'.toArray ++ Builtin.zeroCells z.cells (grownCap w (l ++ l').length old e - (l ++ l').length))
      (w' := w.drew.alloc (.cells (cs.toArray ++ cs'.toArray ++ Builtin.zeroCells z.cells (grownCap w (l ++ l').length old e - (l ++ l').length)) e)) ⟨rfl, rfl, rfl, rfl⟩ hob0 hex hge hcm hnew
      (by
        simp only [Array.size_append, List.size_toArray, size_zeroCells, hzs, hcl, hcl', ← Nat.add_mul]
        rw [← List.length_append]
        congr 1
        omega)
      (by
        simp only [Array.toList_append, List.append_assoc]
        rw [← List.append_assoc, ← hnew]
        exact List.take_left) hvals
    exact ⟨_, _, β', hrun, R', hv'⟩
  cases ad' with
  | none =>
    obtain ⟨rfl, rfl⟩ := hnil' rfl
    refine stay rfl ?_
    rw [hev, hev']
    exact run_append_nn t ty e i hu hi ad l.length cap hcap0
  | some a' =>
    have hc' : ∀ j u, cs'[j]? = some u → w.cell? (a'.add j) = some u := fun j u h => (hcell' a' rfl j u h).1
    cases ad with
    | none =>
      obtain ⟨rfl, rfl⟩ := hnil rfl
      have hcs : cs = [] := List.eq_nil_of_length_eq_zero (by simpa using hcl)
      subst hcs
      have hev0 : v = .slice none 0 0 := hev
      by_cases hm : l' = []
      · refine stay hm ?_
        subst hm
        rw [hev0, hev']
        have : cs' = [] := List.eq_nil_of_length_eq_zero (by simpa using hcl')
        simp [Builtin.append_, run_underlying hu, sizeOf, typeInfo, hi, Builtin.lenOf, Builtin.firstCells, loadCells, loadCellsFrom]
      · have hm0 : 0 < l'.length := List.length_pos_iff.2 hm
        have hr := run_append_nil (P := P) w t ty e i z hu hi hz a' l'.length cap' cs' (by rw [hcl', hsz]) hc' hm0 (by omega) (by rw [hby]; simp at hbytes; omega)
        refine grow 0 (by simp; omega) (fun o0 ho => ?_) ?_
        · rcases hst with ⟨h1, _⟩ | ⟨h1, h2⟩
          · rw [h1] at ho; cases ho
          · exact ⟨v, h2, by rw [hev0]; simp [hlen]; omega⟩
        · rw [hev0, hev', hr]
          simp
    | some ad =>
      rcases hst with ⟨_, h2, _⟩ | ⟨h1, h2⟩
      · rw [hev] at h2; cases h2
      · rcases R.hr.blk n _ h1 with ⟨g0, _⟩ | ⟨k, cap2, arr, g0, g1, g2, g3, g4, g5⟩
        · rw [g0] at h2; injection h2 with h2; rw [hev] at h2; cases h2
        · have e1 : (.slice (some ⟨k, 0, none⟩) l.length cap2 : Value) = .slice (some ad) l.length cap := Option.some.inj (g0.symm.trans (h2.trans (by rw [hev])))
          injection e1 with e1 e2 e3
          injection e1 with e1
          subst e1 e3
          have hc0 : ∀ j u, cs[j]? = some u → w.cell? ((⟨k, 0, none⟩ : Addr).add j) = some u := fun j u h => (hcell _ rfl j u h).1
          by_cases hroom : l.length + l'.length ≤ cap2
          · have hfit : l.length * τ.size + cs'.length ≤ arr.size := by rw [hcl', g5, ← Nat.add_mul]; exact Nat.mul_le_mul_right _ hroom
            have hr := run_append_room (P := P) w t ty e i hu hi k l.length cap2 arr g2 a' l'.length cap' cs' (by rw [hcl', hsz]) hc' hone' hroom (by rw [hsz]; exact hfit)
            rw [hsz] at hr
            have htake : arr.toList.take (l.length * τ.size) = cs := by
              refine List.ext_getElem? fun j => ?_
              rw [List.getElem?_take]
              split
              · rename_i hj
                have hj' : j < cs.length := by omega
                have := hc0 j _ (List.getElem?_eq_getElem hj')
                rw [Addr.add_lit, Nat.zero_add] at this
                simp only [World.cell?, g2] at this
                rw [List.getElem?_eq_getElem hj']
                simpa using this
              · rw [List.getElem?_eq_none (by omega)]
            rw [htake] at hr
            obtain ⟨w', hw'⟩ : ∃ w', w.setRow k (cs ++ cs' ++ arr.toList.drop (l.length * τ.size + cs'.length)).toArray = w' := ⟨_, rfl⟩
            have hat : w'.heap[k]? = some (.cells (cs ++ cs' ++ arr.toList.drop (l.length * τ.size + cs'.length)).toArray e (0, 0)) := by rw [← hw']; exact setRow_heap w k arr _ e _ g2
            have hoth : ∀ j, j ≠ k → w'.heap[j]? = w.heap[j]? := fun j hj => by rw [← hw']; exact setRow_other w k j _ hj
            have hwsz : w'.heap.size = w.heap.size := by rw [← hw']; simp [World.setRow]
            have hosz : w'.os = w.os ∧ w'.tape = w.tape ∧ w'.output = w.output := by rw [← hw']; exact ⟨rfl, rfl, rfl⟩
            have hlt := R.hr.lt n k (by rw [h1]; simp) (.inl g1)
            rw [hw'] at hr
            have hasz : (cs ++ cs' ++ arr.toList.drop (l.length * τ.size + cs'.length)).toArray.size = cap2 * τ.size := by
              simp only [List.size_toArray, List.length_append, List.length_drop, Array.length_toList]
              omega
            obtain ⟨β', R', q1, q2, q3, q4⟩ := R.set n (.gr e τ.size (l ++ l').length) (fun o0 h => by rw [h1] at h; injection h with h; subst h; rfl) (some k) (some (.slice (some ⟨k, 0, none⟩) (l ++ l').length cap2)) (w' := w') hosz.1 hosz.2.1 hosz.2.2 (by omega)
              (fun j _ hj => hoth j fun e => hj _ h1 (by rw [e]; exact g1))
              (fun o0 p ho hb hm => by
                rw [h1] at ho; injection ho with ho; subst ho
                have hpk : p.block = k := Option.some.inj (hb.symm.trans g1)
                simp only [HO.mut, Nat.not_le] at hm
                simp only [World.cell?, hpk, hat, g2]
                have : (cs ++ cs' ++ arr.toList.drop (l.length * τ.size + cs'.length)).toArray[p.off]? = arr[p.off]? := by
                  simp only [List.getElem?_toArray, List.append_assoc]
                  rw [List.getElem?_append_left (by omega), ← htake, List.getElem?_take, if_pos hm]
                  simp
                rw [this])
              (fun j hj => by
                injection hj with hj; subst hj
                refine ⟨by omega, .inl ⟨_, h1, g1, fun off hm => ?_⟩⟩
                simp only [HO.mut, List.length_append, Nat.add_mul] at hm ⊢
                omega)
              (fun o0 _ => ⟨(fun h => by rw [g0] at h; cases h), fun u hu => by
                rw [g0] at hu; injection hu with hu; subst hu
                refine ⟨_, rfl, ?_⟩
                by_cases hm : l' = []
                · subst hm; left; rw [List.append_nil]
                · right
                  have := List.length_pos_iff.2 hm
                  simp only [hlen, List.length_append]; omega⟩)
              (fun β' p1 p2 hev hbe => .inr ⟨k, cap2, _, p2, p1, hat, by rw [List.length_append]; exact hroom, g4, hasz⟩)
            refine ⟨_, w', β', by rw [hev, hev']; exact hr, R', ?_⟩
            have hfin : VD w' (Mt β' (look ((n, HO.gr e τ.size (l ++ l').length) :: σ.h))) (.sl τ (l ++ l')) (.slice (some ⟨k, 0, none⟩) (l ++ l').length cap2) := by
              refine VD.of_row hτ (by omega) (by rw [List.length_append]; exact hroom) g4 hnew (fun j hj hM => ?_) (fun j u hu => ?_) (fun i j u hi hj hu => (hvals i j u hi hj hu).evo q3)
              · have p3 := R'.hr.only (n := n) (o := .gr e τ.size (l ++ l').length) (by show look _ n = _; rw [look_cons, if_pos rfl]) rfl q1 hM
                simp only [HO.mut] at p3
                omega
              · have hj : j < (cs ++ cs').length := (List.getElem?_eq_some_iff.1 hu).1
                simp only [World.cell?, hat]
                simp only [Option.isSome_none, Bool.false_eq_true, if_false, List.getElem?_toArray]
                rw [List.getElem?_append_left hj]
                exact hu
            have e : (.slice (some ⟨k, 0, none⟩) (l.length + l'.length) cap2 : Value) = .slice (some ⟨k, 0, none⟩) (l ++ l').length cap2 := by rw [List.length_append]
            rw [e]
            exact .own hfin ⟨by simp [dm, look_cons], _, q2, Nat.le_refl _, fun _ => rfl⟩
          · have hr := run_append_grow (P := P) w t ty e i z hu hi hz ⟨k, 0, none⟩ l.length cap2 cs (by rw [hcl, hsz]) hc0 a' l'.length cap' cs' (by rw [hcl', hsz]) hc' (by omega) (by omega)
              (growslice_fits (by omega) (by rw [hby]; exact hbytes))
            refine grow cap2 (by omega) (fun o0 _ => ⟨v, h2, ?_⟩) (by rw [hev, hev']; exact hr)
            rw [hev, List.length_append]; simp only [hlen]; omega

theorem good_append (hL : LOk P L) (R : Rel X β σ a w) {o : Oper} {args : Array Operand} {ts : Array TypeId} {p q : Operand} {s x : TV} (ho : o.op = .call { callee := .builtin .append, args := args, argTypes := ts }) (hargs : args.toList = [p, q])
    (hs : VT w (Mt β (look σ.h)) β (dm (look σ.h)) s (a.eval p)) (hx : VT w (Mt β (look σ.h)) β (dm (look σ.h)) x (a.eval q)) {r : Res} (h : appendA L (look σ.h) ts.toList o.dst s x = some r) (hc : ∀ c ∈ r.c, c) : OpGood P X σ a w o r := by
  have hargs' : args = #[p, q] := by rw [← Array.toArray_toList (xs := args), hargs]
  unfold appendA at h
  split at h
  · rename_i t t' hts
    split at h
    · rename_i htt
      subst htt
      have hts' : ts = #[t, t] := by rw [← Array.toArray_toList (xs := ts), hts]
      have hexec : ∀ {v : Value} {w' : World}, (Builtin.append_ #[t, t] o.type #[a.eval p, a.eval q]).run P w = .ok v w' → (execOp a.eval o).run P w = .ok (.value v) w' := fun hr => by
        simp only [execOp, ho, hargs', hts', resolve, invoke, builtin, Sem.run_bind, Sem.run_pure, Result.andThen_ok, List.map_toArray, List.map_cons, List.map_nil, hr]
      split at h
      · rename_i y hy
        split at h
        · rename_i τ e b x' hety hxst
          obtain ⟨hu, hτ, _, hb0, i, z, hi, hsz, hby, hz, hzs⟩ := (hL t y hy).ety τ e b hety
          have hxv : VD w (Mt β (look σ.h)) x' (a.eval q) := by
            have := TV.st_sound hx
            rw [hxst] at this
            cases this with | d h => exact h
          split at h
          · rename_i l' n σ' l hl'
            split at h
            · rename_i hh e' sz len hsame hgr
              subst hh
              split at h
              · rename_i hes
                obtain ⟨rfl, rfl⟩ := hes
                obtain rfl := Option.some.inj h
                have hlen : l.length = len := hc _ (by simp)
                have hbytes : (len + l'.length) * b ≤ 140737488355328 := hc ((len + l'.length) * b ≤ 140737488355328) (by simp)
                subst hlen
                cases hs with
                | own hsv hov =>
                  obtain ⟨_, u, hu1, hu2, hu3⟩ := hov
                  have hlv : hlen (a.eval p) = l.length := by
                    obtain ⟨ad, cap, _, hev, _⟩ := hsv.row
                    rw [hev]; rfl
                  have hcur : a.eval p = u := by
                    refine hu3 ?_
                    rcases R.hr.blk n _ hgr with ⟨g0, _, g2⟩ | ⟨k, c, arr, g0, _⟩
                    · rw [g0] at hu1; injection hu1 with hu1; subst hu1
                      rw [hlv, g2]; rfl
                    · rw [g0] at hu1; injection hu1 with hu1; subst hu1
                      rw [hlv]; rfl
                  obtain ⟨v', w', β', r1, r2, r3⟩ := R.append (ty := o.type) hu hτ hi hsz hby hz hzs hsv (asL_sound hl' hxv) (.inr ⟨hgr, by rw [hcur]; exact hu1⟩) hbytes hb0
                  rw [List.length_append] at r2 r3
                  exact ⟨_, w', β', v', hexec r1, .inl rfl, r2, r3, by simp⟩
              · cases h
            · cases h
          · rename_i l' s' hl'
            split at h
            · rename_i d hnil hd
              split at h
              · rename_i hn
                obtain rfl := Option.some.inj h
                have hbytes : l'.length * b ≤ 140737488355328 := hc _ (by simp)
                cases hs with
                | d hs =>
                  have hv0 : a.eval p = .slice none 0 0 := by
                    generalize a.eval p = vp at hs
                    unfold isNil at hnil
                    split at hnil
                    · cases hs with
                      | nil => rfl
                      | sl _ h0 => exact absurd h0 (Nat.lt_irrefl _)
                    · cases hnil
                  obtain ⟨v', w', β', r1, r2, r3⟩ := R.append (ty := o.type) (n := rm d) (l := []) hu hτ hi hsz hby hz hzs (by rw [hv0]; exact .nil) (asL_sound hl' hxv) (.inl ⟨hn, hv0, rfl⟩) (by simpa using hbytes) hb0
                  exact ⟨_, w', β', v', hexec r1, .inl rfl, r2, r3, by simp⟩
              · cases h
            · cases h
          · cases h
        · cases h
      · cases h
    · cases h
  · cases h

theorem good_mlen (hL : LOk P L) (R : Rel X β σ a w) (hG : GOk a G) {o : Oper} {args : Array Operand} {ts : Array TypeId} (ho : o.op = .call { callee := .builtin .len, args := args, argTypes := ts })
    {n : Nat} (hx : mapT (opT G σ) args.toList = some [.one (.mp n)]) {r : Res} (h : mapLen L (look σ.h) ts.toList n = some r) : OpGood P X σ a w o r := by
  unfold mapLen at h
  split at h
  · rename_i t hts
    split at h
    · rename_i y hy
      split at h
      · rename_i q κ ν l hq hn
        obtain rfl := Option.some.inj h
        obtain ⟨kt, et, _, hu, _⟩ := (hL t y hy).mpt q.1 q.2 hq
        obtain ⟨v, hv, hx⟩ := (mapT_sound R hG hx).one_left
        obtain ⟨k, es, clock, h0, h1, h2, h3⟩ := R.hr.blk n _ hn
        have hvs' : args.map a.eval = #[v] := by rw [← Array.toArray_toList (xs := args.map a.eval)]; simp [hv]
        have hts' : ts = #[t] := by rw [← Array.toArray_toList (xs := ts), hts]
        cases hx with
        | mp g1 g2 g3 =>
          obtain rfl := Option.some.inj (h1.symm.trans g3)
          refine OpGood.pure R (v := .int .i64 l.length) ?_ rfl (VT.lit rfl) (by simp)
          have hl : l.length = es.size := by simpa using h3.length
          have hget : (getObj k).run P w = .ok (.map es clock) w := by simp [getObj, Sem.run, h2]
          simp [execOp, ho, resolve, invoke, builtin, hvs', hts', Builtin.len_, run_underlying hu, goInt, hget, hl, Result.andThen]
      · cases h
    · cases h
  · cases h

theorem good_builtin' (hL : LOk P L) (R : Rel X β σ a w) (hG : GOk a G) {o : Oper} {b : Builtin} {args : Array Operand} {ts : Array TypeId} (ho : o.op = .call { callee := .builtin b, args := args, argTypes := ts })
    {xs : List TV} (hxs : mapT (opT G σ) args.toList = some xs) {r : Res} (h : builtinA L b ts.toList (stT xs) = some r) (hc : ∀ c ∈ r.c, c) : OpGood P X σ a w o r := by
      have hall0 := mapT_sound R hG hxs
      have hall := stT_sound hall0
      have hargs : (args.map a.eval).toList = args.toList.map a.eval := by simp
      rw [← hargs] at hall
      generalize hvs : args.map a.eval = vs at *
      generalize stT xs = xs at *
      unfold builtinA at h
      split at h
      · rename_i t τ l hts
        split at h
        · rename_i y hy
          split at h
          · rename_i s hel
            obtain rfl := Option.some.inj h
            obtain ⟨e, hu, _, _⟩ := (hL t y hy).el s hel
            obtain ⟨v, hv, hx⟩ := hall.one_left
            have hvs' : vs = #[v] := by
              rw [← Array.toArray_toList (xs := vs), hv]
            have hts' : ts = #[t] := by
              rw [← Array.toArray_toList (xs := ts), hts]
            cases hx with
            | d hx =>
              have hlen : ∃ ad c, v = .slice ad l.length c ∧ l.length ≤ maxLen := by
                cases hx with
                | nil => exact ⟨none, 0, rfl, Nat.zero_le _⟩
                | sl _ _ _ hcap hmax => exact ⟨_, _, rfl, Nat.le_trans hcap hmax⟩
              obtain ⟨ad, c, rfl, hle⟩ := hlen
              refine OpGood.pure R (v := .int .i64 l.length) ?_ rfl (VT.lit rfl) ?_
              · simp [execOp, ho, resolve, invoke, builtin, hvs, hvs', hts', Builtin.len_, run_underlying hu, goInt]
              · intro p hp
                simp only [List.mem_singleton] at hp
                rw [hp]
                unfold maxLen at hle
                omega
          · cases h
        · cases h
      · rename_i k x k' y
        obtain rfl := Option.some.inj h
        obtain ⟨u, v, hv, hx, hy⟩ := hall.two_left
        have hvs' : vs = #[u, v] := by rw [← Array.toArray_toList (xs := vs), hv]
        rw [VT.int hx, VT.int hy] at hvs'
        refine OpGood.pure R (v := .int k (if y > x then y else x)) ?_ rfl (VT.lit rfl) (by simp)
        simp [execOp, ho, resolve, invoke, builtin, hvs, hvs', run_max_int2]
      · rename_i k x k' y
        obtain rfl := Option.some.inj h
        obtain ⟨u, v, hv, hx, hy⟩ := hall.two_left
        have hvs' : vs = #[u, v] := by rw [← Array.toArray_toList (xs := vs), hv]
        rw [VT.int hx, VT.int hy] at hvs'
        refine OpGood.pure R (v := .int k (if y < x then y else x)) ?_ rfl (VT.lit rfl) (by simp)
        simp [execOp, ho, resolve, invoke, builtin, hvs, hvs', run_min_int2]
      · cases h

theorem good_builtin (hL : LOk P L) (R : Rel X β σ a w) (hG : GOk a G) {o : Oper} {b : Builtin} {args : Array Operand} {ts : Array TypeId} (ho : o.op = .call { callee := .builtin b, args := args, argTypes := ts })
    {r : Res} (h : aBuiltin L G σ b ts.toList args.toList o.dst = some r) (hc : ∀ c ∈ r.c, c) : OpGood P X σ a w o r := by
  unfold aBuiltin at h
  split at h
  · rename_i xs hxs
    have hall0 := mapT_sound R hG hxs
    split at h
    · split at h
      · rename_i s x
        obtain ⟨u, v, hm, h1, h2⟩ := hall0.two_left
        obtain ⟨p, q, hpq, rfl, rfl⟩ : ∃ p q, args.toList = [p, q] ∧ a.eval p = u ∧ a.eval q = v := by
          match hl : args.toList, hm with
          | [p, q], hm => simp at hm; exact ⟨p, q, rfl, hm⟩
        exact good_append hL R ho hpq h1 h2 h hc
      · cases h
    · split at h
      · exact good_mlen hL R hG ho hxs h
      · exact good_builtin' hL R hG ho hxs h hc
    · exact good_builtin' hL R hG ho hxs h hc
  · cases h

/-! a function's contract, and what it says of the function -/
def upd (hp : Nat → Option HO) (up : List (Nat × HO)) (n : Nat) : Option HO := match look up.reverse n with | some x => some x | none => hp n

structure FnPost (hp hp' : Nat → Option HO) (β : Bt) (r : AV) (w w' : World) (v : Value) : Prop where
  ex : ∃ β' : Bt, BEvo β β' (dm hp) (dm hp') ∧ (∀ k off, β.m k off → β'.m k off) ∧ HR β' hp' w' ∧ VA w' (Mt β' hp') β' (dm hp') r v ∧
    (∀ n k, hp' n ≠ none → bk β' n k → (∃ m, hp m ≠ none ∧ bk β m k) ∨ w.heap.size ≤ k) ∧ Evo (Mt β hp) (Mt β' hp') w w'
  fr : Fr (fun k => ∃ n, hp n ≠ none ∧ bk β n k) w w'

structure FnOk (P : Program) (f : FuncId) (con : Con) : Prop where
  enter : ∀ (args : Array Value) (w : World), (callFunc f args).run P w = .ok (.enter f args) w
  call : ∀ (args : List TV) (hp : Nat → Option HO) (fr : Nat) (cs : List Prop) (r : AV) (up : List (Nat × HO)), con args hp fr = some (cs, r, up) → (∀ c ∈ cs, c) →
    ∀ (w : World) (β : Bt) (vals : List Value), β.pr = P → HR β hp w → All2 (VT w (Mt β hp) β (dm hp)) args vals →
      Calls P f vals.toArray w fun e w' => ∃ v, e = .returned v ∧ FnPost hp (upd hp up) β r w w' v

def ConOk (P : Program) (Γ : Nat → Option Con) : Prop := ∀ f con, Γ f = some con → FnOk P f con

theorem look_upds_upd (up h : List (Nat × HO)) : look (upds up h) = upd (look h) up := by
  funext k
  rw [look_upds]
  rfl

/-- a fence that lets all in -/
structure Wide (F : Fence) : Prop where
  fn : ∀ f, F.fn f
  dp : F.depth = none
  al : F.alive = false
theorem callsIn_of_calls {F : Fence} (hF : Wide F) {n : Nat} {f : FuncId} {args : Array Value} {w : World} {R : Ending → World → Prop} (h : Calls P f args w R) : CallsIn F n P f args w R := by
  have h0 : CallsIn Fence.wide n P f args w R := callsIn_wide.2 h
  obtain ⟨_, h0⟩ := h0
  refine ⟨hF.fn f, fun cs hr => ?_⟩
  obtain ⟨e, w', fr, h1, h2, h3, h4⟩ := h0 cs (room_wide _)
  refine ⟨e, w', fr, h1, ?_, h3, h4⟩
  have hI : Machine.fenced P F = Machine.fenced P Fence.wide := by
    funext m
    unfold Machine.fenced Fence.room
    simp only [hF.dp, hF.al, Fence.wide]
    simp [hF.fn]
  rw [hI]
  exact h2

theorem ptrs_sound {M : CM} {D : Nat → Prop} : ∀ {ps : List (Nat × Nat)} {vs : List Value}, All2 (PV β D) ps vs → All2 (VT w M β D) (ptrs ps) vs
  | [], _, h => by cases h; exact .nil
  | (n, o) :: r, _, h => by cases h with | cons h1 h2 => exact .cons (VL.ptr h1) (ptrs_sound h2)

theorem semAt_call {F : Fence} {ρ : Operand → Value} {o : Oper} {c : Call} (ho : o.op = .call c) : o.semAt F.round ρ = execOp ρ o :=
  Oper.semAt_eq _ _ _ (fun c' h => by rw [ho] at h; cases h)

/-- a call by its contract, its arguments known -/
theorem call_core {F : Fence} (hF : Wide F) {n : Nat} (hpr : X.b0.pr = P) (hΓ : ConOk P Γ) (R : Rel X β σ a w) {o : Oper} {f : Operand} {args : Array Operand} {ts : Array TypeId} (ho : o.op = .call { callee := .value f, args := args, argTypes := ts }) {fr : Nat}
    {fid : Nat} {vf vc : List Value} {con : Con} (hev : a.eval f = .func (.func fid) vf.toArray vc.toArray) (hcon : Γ fid = some con) {xs : List TV} (hall : All2 (VT w (Mt β (look σ.h)) β (dm (look σ.h))) xs (vf ++ (args.toList.map a.eval ++ vc)))
    {cs : List Prop} {rv : AV} {up : List (Nat × HO)} (hr : con xs (look σ.h) fr = some (cs, rv, up)) (hc : ∀ c ∈ cs, c) {next : Act → World → Prop} {Q : Exit → Act → World → Prop}
    (hn : ∀ v w' β', Rel X β' { σ with h := upds up σ.h } a w' → VA w' (Mt β' (look (upds up σ.h))) β' (dm (look (upds up σ.h))) rv v → next (a.put o.dst v) w') : o.wpIn F n P a w next Q := by
  refine ⟨fun _ _ => hF.fn _, ?_⟩
  have hok := hΓ fid con hcon
  have hcall := hok.call _ _ _ _ _ _ hr hc w β _ (R.be.pr.trans hpr) R.hr hall
  rw [semAt_call ho]
  have hrun : (execOp a.eval o).run P w = .ok (.enter fid (vf ++ (args.toList.map a.eval ++ vc)).toArray) w := by
    have ha : vf.toArray ++ args.map a.eval ++ vc.toArray = (vf ++ (args.toList.map a.eval ++ vc)).toArray := by
      apply Array.ext'
      simp
    simp only [execOp, ho, resolve, hev, Deferred.ofValue, Sem.run_bind, Sem.run_pure, Result.andThen_ok, invoke, ha, hok.enter]
  rw [hrun]
  refine ⟨(fun h => by rw [hF.dp] at h; cases h), callsIn_of_calls hF (hcall.mono ?_)⟩
  rintro e w' ⟨v, rfl, hpost⟩
  obtain ⟨β', hb, hbm, hhr, hva, hown, hevo⟩ := hpost.ex
  have hl := look_upds_upd up σ.h
  rw [← hl] at hb hhr hva hown hevo
  refine hn v w' β' (R.evo hevo hb hbm ?_ ?_ ?_ hhr) hva
  · intro k hk0 hk
    have hlt : k < w.heap.size := (Array.getElem?_eq_some_iff.1 hk).1
    rw [hpost.fr.block k hlt fun ⟨m, hm, hmk⟩ => R.hr.fresh m k 0 hm hmk hk0]
    exact hk
  · exact R.fr.trans hpost.fr (fun k hk hB => ⟨hB, fun ⟨m, hm, hmk⟩ => by
      rcases R.own m k hm hmk with h | h
      · exact hB h
      · exact absurd hk (Nat.not_lt.2 h)⟩)
  · intro m k hm hk
    rcases hown m k hm hk with ⟨m', h, h'⟩ | h
    · exact R.own m' k h h'
    · exact .inr (Nat.le_trans R.fr.size h)
/-- a call by its contract -/
theorem good_call {F : Fence} (hF : Wide F) {n : Nat} (hpr : X.b0.pr = P) (hΓ : ConOk P Γ) (R : Rel X β σ a w) (hG : GOk a G) {o : Oper} {f : Operand} {args : Array Operand} {ts : Array TypeId} (ho : o.op = .call { callee := .value f, args := args, argTypes := ts }) {fr : Nat}
    {r : Res} (h : aCall L Γ G σ f args.toList ts.toList fr = some r) (hc : ∀ c ∈ r.c, c) {next : Act → World → Prop} {Q : Exit → Act → World → Prop}
    (hn : ∀ v w' β', Rel X β' { σ with h := upds r.h σ.h } a w' → VA w' (Mt β' (look (upds r.h σ.h))) β' (dm (look (upds r.h σ.h))) r.v v → next (a.put o.dst v) w') :
    r.f = [] ∧ o.wpIn F n P a w next Q := by
  unfold aCall at h
  split at h
  · rename_i xs fid fi ca hxs hf
    split at h
    · rename_i con hcon
      split at h
      · rename_i cs rv up hr
        obtain rfl := Option.some.inj h
        refine ⟨rfl, ?_⟩
        have hfv := opT_sound R hG hf
        generalize hev : a.eval f = fv at hfv
        cases hfv with
        | @clo _ _ _ vf vc h1 h2 =>
          have hall := (ptrs_sound (w := w) (M := Mt β (look σ.h)) h1).append ((nilTs_sound (L := L) (ts := ts.toList) (stT_sound (mapT_sound R hG hxs))).append (ptrs_sound (w := w) (M := Mt β (look σ.h)) h2))
          exact call_core hF hpr hΓ R ho hev hcon hall hr hc hn
      · cases h
    · cases h
  · cases h
end
end Go.Sy
