/- A verified generator of conditions for this program, and its soundness: part K of the proof. -/
import Derived.Test.YtommmlhllifonaaSyF
namespace Go.Sy
variable {P : Program} {L : Nat → Option Lay} {Γ : Nat → Option Con}

/-! a slice made of its rows -/
section
variable {X : Cx} {β : Nat → Option Nat} {σ : St} {a : Act} {w : World} {G : List (Nat × Bool)}

theorem leafC_sound {x : LV} {τ : Ty} {v : τ.T} (h : leafC x = some ⟨τ, v⟩) : τ.size = 1 ∧ x = .d (τ.enc v 0) := by
  unfold leafC at h
  split at h <;> cases h <;> exact ⟨rfl, rfl⟩
theorem encC_sound : ∀ {xs : List LV} {τ : Ty} {v : τ.T}, encC xs = some ⟨τ, v⟩ → τ.size = xs.length ∧ ∀ (j : Nat) (x : LV), xs[j]? = some x → x = .d (τ.enc v j)
  | [], _, _, h => by cases h
  | x :: r, τ, v, h => by
    simp only [encC] at h
    split at h
    · obtain ⟨h1, h2⟩ := leafC_sound h
      refine ⟨h1, fun j y hy => ?_⟩
      cases j with
      | zero => simp at hy; rw [← hy]; exact h2
      | succ j => simp at hy
    · split at h
      · rename_i a u b v' ha hb
        injection h with h; injection h with h1 h2; subst h1; cases h2
        obtain ⟨h1, h2⟩ := leafC_sound ha
        obtain ⟨h3, h4⟩ := encC_sound hb
        refine ⟨by simp only [Ty.size, h1, h3, List.length_cons]; omega, fun j y hy => ?_⟩
        cases j with
        | zero =>
          simp at hy
          rw [← hy, h2]
          simp only [Ty.enc, h1]
          rfl
        | succ j =>
          have := h4 j y (by simpa using hy)
          rw [this]
          simp only [Ty.enc, h1]
          rw [show Nat.blt (j + 1) 1 = false from rfl]
          rfl
      · cases h
theorem rowsOf_sound {τ : Ty} : ∀ {ps : List (Nat × TV)} {l : List τ.T}, rowsOf τ ps = some l →
    l.length = ps.length ∧ ∀ (i : Nat) q, ps[i]? = some q → q.2.cells.length = τ.size ∧ ∀ (j : Nat) (x : LV), q.2.cells[j]? = some x → x = .d (τ.enc (l.getD i τ.d0) j)
  | [], l, h => by injection h with h; subst h; exact ⟨rfl, fun i q hq => by simp at hq⟩
  | (k, x) :: r, l, h => by
    simp only [rowsOf] at h
    split at h
    · rename_i σ v hv
      split at h
      · rename_i e _
        split at h
        · rename_i vs hvs
          injection h with h
          subst e
          subst h
          obtain ⟨h1, h2⟩ := encC_sound hv
          obtain ⟨h3, h4⟩ := rowsOf_sound hvs
          refine ⟨by simp [h3], fun i q hq => ?_⟩
          cases i with
          | zero => simp at hq; subst hq; exact ⟨h1.symm, fun j y hy => by simpa using h2 j y hy⟩
          | succ i => simpa using h4 i q (by simpa using hq)
        · cases h
      · cases h
    · cases h

theorem flat_get (sz : Nat) : ∀ (ls : List (List Value)), (∀ l ∈ ls, l.length = sz) → ∀ i j, i < ls.length → j < sz → ls.flatten[i * sz + j]? = (ls.getD i [])[j]?
  | [], _, i, _, h, _ => by simp at h
  | l :: ls, hl, i, j, hi, hj => by
    have h0 : l.length = sz := hl l (by simp)
    cases i with
    | zero => simp [List.getElem?_append, h0, hj]
    | succ i =>
      have := flat_get sz ls (fun x hx => hl x (by simp [hx])) i j (by simpa using hi) hj
      rw [List.flatten_cons, List.getElem?_append_right (by rw [h0, Nat.succ_mul]; omega), h0, Nat.succ_mul, show i * sz + sz + j - sz = i * sz + j by omega, this]
      simp
theorem flat_len (sz : Nat) : ∀ (ls : List (List Value)), (∀ l ∈ ls, l.length = sz) → ls.flatten.length = ls.length * sz
  | [], _ => by simp
  | l :: ls, hl => by
    rw [List.flatten_cons, List.length_append, flat_len sz ls (fun x hx => hl x (by simp [hx])), hl l (by simp), List.length_cons, Nat.succ_mul]
    omega

theorem fill_rows (sz : Nat) : ∀ (qs : List (Nat × Value)) (i : Nat) (arr : Array Value), (∀ k q, qs[k]? = some q → q.1 = i + k ∧ q.2.cells.size = sz) → arr.size = (i + qs.length) * sz →
    ∃ arr', Instr.fill (fun k => some (k * sz, sz)) arr qs = some arr' ∧ arr'.toList = arr.toList.take (i * sz) ++ (qs.map (·.2.cells.toList)).flatten
  | [], i, arr, _, hs => ⟨arr, rfl, by
    simp only [List.map_nil, List.flatten_nil, List.append_nil]
    rw [List.take_of_length_le]
    simp at hs
    simp [hs]⟩
  | (k, v) :: r, i, arr, hq, hs => by
    have h0 := hq 0 (k, v) rfl
    simp only [Nat.add_zero] at h0
    obtain ⟨rfl, hv⟩ := h0
    have hsz : k * sz + sz ≤ arr.size := by
      rw [hs, ← Nat.succ_mul]
      exact Nat.mul_le_mul_right _ (by simp)
    have e := foldl_set v.cells.toList arr (k * sz) 0 (by simp; omega)
    have hgo : ¬ (v.cells.size ≠ sz || k * sz + v.cells.size > arr.size) = true := by
      simp only [ne_eq, decide_not, Bool.or_eq_true, Bool.not_eq_true', decide_eq_false_iff_not, decide_eq_true_eq, not_or]
      exact ⟨fun h => h hv, by omega⟩
    have hlist : (v.cells.zipIdx.foldl (fun cs (c, j) => cs.setIfInBounds (k * sz + j) c) arr).toList = arr.toList.take (k * sz) ++ (v.cells.toList ++ arr.toList.drop (k * sz + sz)) := by
      rw [← Array.foldl_toList, Array.toList_zipIdx, e]
      simp [hv]
    obtain ⟨arr', g1, g2⟩ := fill_rows sz r (k + 1) (v.cells.zipIdx.foldl (fun cs (c, j) => cs.setIfInBounds (k * sz + j) c) arr)
      (fun j q hj => by have := hq (j + 1) q (by simpa using hj); exact ⟨by omega, this.2⟩)
      (by
        have h1 := congrArg List.length hlist
        have h2 : (k + 1 + r.length) * sz = arr.size := by rw [hs]; simp; congr 1; omega
        simp only [Array.length_toList, List.length_append, List.length_take, List.length_drop, hv] at h1
        rw [h2, h1]
        omega)
    refine ⟨arr', ?_, ?_⟩
    · simp only [Instr.fill]
      rw [if_neg hgo]
      exact g1
    · rw [g2, hlist]
      have h3 : (arr.toList.take (k * sz)).length = k * sz := by simp; omega
      rw [← List.append_assoc, List.take_left' (by rw [List.length_append, h3, Nat.succ_mul]; simp [hv])]
      simp

theorem consec_spec : ∀ {ps : List (Nat × TV)} {n : Nat}, consec n ps = true → ∀ k q, ps[k]? = some q → q.1 = n + k
  | [], _, _, k, q, hq => by simp at hq
  | (i, x) :: r, n, h, k, q, hq => by
    simp only [consec, Bool.and_eq_true, beq_iff_eq] at h
    cases k with
    | zero => simp at hq; subst hq; exact h.1
    | succ k => have := consec_spec h.2 k q (by simpa using hq); omega

theorem All2.get' {α : Type _} {β : Type _} {R : α → β → Prop} {l : List α} {m : List β} (h : All2 R l m) {i : Nat} {b : β} (hb : m[i]? = some b) : ∃ a, l[i]? = some a ∧ R a b := All2.get_right h hb

/-- a new block that nothing of the state is in -/
theorem Rel.fresh (R : Rel X β σ a w) (o : Obj) : Rel X β σ a (w.alloc o) ∧ (∀ off, ¬ Mt X.M0 β (look σ.h) w.heap.size off) ∧ Evo (Mt X.M0 β (look σ.h)) (Mt X.M0 β (look σ.h)) w (w.alloc o) := by
  have hev := evo_alloc (w := w) o (fun k off (_ : k < w.heap.size) (h : ¬ Mt X.M0 β (look σ.h) k off) => h)
  refine ⟨R.evo hev BEvo.refl ⟨R.fr.os, R.fr.tape, R.fr.output, by simpa using Nat.le_succ_of_le R.fr.size, fun k hk hB => by
      rw [← R.fr.block k hk hB]
      have := R.fr.size
      show (w.heap.push _)[k]? = _
      rw [Array.getElem?_push, if_neg (by omega)]⟩ R.own ?_, fun off h => ?_, hev⟩
  · refine ⟨fun k off h => by have := R.hr.m0 k off h; simp; omega, fun n k hn hk => by have := R.hr.lt n k hn hk; simp; omega, R.hr.fresh, R.hr.inj, fun n o' hn => ?_⟩
    have ho := R.hr.blk n o' hn
    cases o' with
    | cells c =>
      obtain ⟨k, arr', e', h1, h2, h3⟩ := ho
      have hlt := R.hr.lt n k (by rw [hn]; simp) h1
      refine ⟨k, arr', e', h1, ?_, h3.mono fun _ _ _ h => VL.evo hev BEvo.refl h⟩
      show (w.heap.push _)[k]? = _
      rw [Array.getElem?_push, if_neg (by omega)]
      exact h2
    | gr => exact ho.elim
  · rcases h with h | ⟨n, hn, h⟩
    · exact absurd (R.hr.m0 _ _ h) (Nat.lt_irrefl _)
    · exact absurd (R.hr.lt n _ hn h) (Nat.lt_irrefl _)

theorem good_rows (hL : LOk P L) (R : Rel X β σ a w) (hG : GOk a G) {o : Oper} {t : TypeId} {len : Nat} {parts : Array (Nat × Operand)} (ho : o.op = .buildSlice t len parts) {r : Res} (h : aRows L G σ t len parts.toList = some r) : OpGood P X σ a w o r := by
  unfold aRows at h
  split at h
  · rename_i y ps hy hps
    split at h
    · rename_i sz i x rest hel
      split at h
      · rename_i τ v0 hv0
        split at h
        · rename_i l hl
          split at h
          · rename_i hcond
            simp only [Bool.and_eq_true, beq_iff_eq] at hcond
            obtain ⟨hcons, hlen, hsz, hmax⟩ := hcond
            have hmax := Nat.le_of_ble_eq_true hmax
            obtain rfl := Option.some.inj h
            obtain ⟨e, hu, he, hne, z, hz⟩ := (hL t y hy).el sz hel
            obtain ⟨hll, hrows⟩ := rowsOf_sound hl
            have hall := mapP_sound R hG hps
            generalize hqs : (parts.toList.map fun (i, x) => (i, a.eval x)) = qs at hall
            generalize hP : ((i, x) :: rest) = ps' at *
            have hlen' : ps'.length = len := by rw [← hP]; simpa using hlen
            have hql : qs.length = len := by rw [← hall.length, hlen']
            have hspec : ∀ k q, qs[k]? = some q → q.1 = k ∧ q.2.cells.size = sz ∧ ∀ j u, q.2.cells[j]? = some u → VL w (Mt X.M0 β (look σ.h)) β (dm (look σ.h)) (.d (τ.enc (l.getD k τ.d0) j)) u := by
              intro k q hq
              obtain ⟨p, hp, hpq, hv⟩ := hall.get' hq
              have h1 := consec_spec hcons k p hp
              obtain ⟨h2, h3⟩ := hrows k p hp
              have hc := VT.cells hv
              have hcl := hc.length
              refine ⟨by omega, by simp at hcl; omega, fun j u hj => ?_⟩
              obtain ⟨x', hx', hr⟩ := hc.get' (i := j) (b := u) (by simpa using hj)
              rw [← h3 j x' hx']
              exact hr
            have hpos : len * sz ≠ 0 := by
              have : 0 < len := by rw [← hlen', ← hP]; simp
              exact Nat.mul_ne_zero (by omega) hne
            obtain ⟨arr', g1, g2⟩ := fill_rows sz qs 0 ((Array.range (len * sz)).map (z.cells[· % z.cells.size]!)) (fun k q hq => ⟨by have := (hspec k q hq).1; omega, (hspec k q hq).2.1⟩) (by simp [hql])
            simp only [Nat.zero_mul, List.take_zero, List.nil_append] at g2
            have hrowlen : ∀ r ∈ qs.map (·.2.cells.toList), r.length = sz := by
              intro r hr
              obtain ⟨q, hq, rfl⟩ := List.mem_map.1 hr
              obtain ⟨k, hk, hkq⟩ := List.mem_iff_getElem.1 hq
              simpa using (hspec k q (by rw [List.getElem?_eq_getElem hk, hkq])).2.1
            obtain ⟨R', hnm, hev⟩ := R.fresh (.cells arr' e)
            have hparts : parts.toList.map (fun x => (x.1, a.eval x.2)) = qs := hqs
            refine ⟨.value (.slice (some ⟨w.heap.size, 0, none⟩) len len), w.alloc (.cells arr' e), β, _, ?_, .inl rfl, R', ?_, by simp⟩
            · simp only [execOp, ho, Sem.run_bind, Instr.buildSlice, run_underlying hu, Result.andThen_ok, run_sizeOf he]
              rw [if_neg (by omega), if_neg hpos]
              simp [Sem.run_bind, hz, hparts, g1, newRow]
            · have hcell : ∀ i j, i < l.length → j < sz → (w.alloc (.cells arr' e)).cell? ((⟨w.heap.size, 0, none⟩ : Addr).add (i * sz + j)) = ((qs.getD i (0, undef)).2.cells)[j]? := by
                intro i j hi hj
                have hi' : i < qs.length := by omega
                have h1 := flat_get sz _ hrowlen i j (by simpa using hi') hj
                rw [← g2] at h1
                have h2 : (qs.map (·.2.cells.toList)).getD i [] = (qs.getD i (0, undef)).2.cells.toList := by
                  simp [List.getD, List.getElem?_eq_getElem hi']
                rw [h2] at h1
                have h3 : ((⟨w.heap.size, 0, none⟩ : Addr).add (i * sz + j)).block = w.heap.size := by rw [add_block]
                have h4 : ((⟨w.heap.size, 0, none⟩ : Addr).add (i * sz + j)).off = i * sz + j := by rw [add_off]; simp
                unfold World.cell?
                rw [h3, h4]
                have h5 : (w.alloc (.cells arr' e)).heap[w.heap.size]? = some (.cells arr' e (0, 0)) := by show (w.heap.push _)[_]? = _; simp
                have h6 : ((⟨w.heap.size, 0, none⟩ : Addr).add (i * sz + j)).spot = none := by unfold Addr.add; split <;> rfl
                rw [h5, h6]
                simpa using h1
              have e1 : len = l.length := by omega
              rw [e1]
              refine VL.d (.sl (fun i j => ((qs.getD i (0, undef)).2.cells).getD j undef) (fun _ _ => by simp) (Nat.le_refl _) ?_ (fun i j _ _ => hnm _) (fun i j hi hj => ?_) (fun i j hi hj => ?_))
              · have : l.length * 1 ≤ len * sz := by rw [e1]; exact Nat.mul_le_mul_left _ (by omega)
                unfold maxLen
                omega
              · rw [hcell i j hi hj]
                have hi' : i < qs.length := by omega
                have := (hspec i (qs.getD i (0, undef)) (by simp [List.getD, List.getElem?_eq_getElem hi'])).2.1
                show _ = some (Array.getD _ _ _)
                rw [Array.getElem?_eq_getElem (by omega), Array.getD, dif_pos (by omega)]
                rfl
              · have hi' : i < qs.length := by omega
                have hq := hspec i (qs.getD i (0, undef)) (by simp [List.getD, List.getElem?_eq_getElem hi'])
                have hu : (qs.getD i (0, undef)).2.cells[j]? = some ((qs.getD i (0, undef)).2.cells.getD j undef) := by
                  rw [Array.getElem?_eq_getElem (by omega), Array.getD, dif_pos (by omega)]
                  rfl
                have := hq.2.2 j _ hu
                cases this with
                | d h => exact h.evo hev
          · cases h
        · cases h
      · cases h
    · cases h
  · cases h
end
end Go.Sy
