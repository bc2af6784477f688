/- A verified generator of conditions for this program, and its soundness: part K of the proof. -/
import Derived.Test.YtdkggjgmlccjcaaSyF
namespace Go.Sy
variable {P : Program} {L : Nat → Option Lay} {Γ : Nat → Option Con}

/-! a slice made of its rows -/
section
variable {X : Cx} {β : Bt} {σ : St} {a : Act} {w : World} {G : List (Nat × Bool)}

theorem leafAt_sound {M : CM} {D : Nat → Prop} {τ : Ty} {x : LV} {v : τ.T} {u : Value} (h : leafAt τ x = some v) (hx : VL w M β D x u) : τ.size = 1 ∧ ∀ j, VD w M (τ.enc v j) u := by
  cases τ with
  | ti k =>
    replace h : intAt k x = some v := h
    unfold intAt at h
    split at h
    · split at h
      · rename_i hk; subst hk
        injection h with h; subst h
        cases hx with | d hx => exact ⟨rfl, fun _ => hx⟩
      · cases h
    · cases h
  | tb =>
    replace h : boolAt x = some v := h
    unfold boolAt at h
    split at h
    · injection h with h; subst h
      cases hx with | d hx => exact ⟨rfl, fun _ => hx⟩
    · cases h
  | ts =>
    replace h : strAt x = some v := h
    unfold strAt at h
    split at h
    · injection h with h; subst h
      cases hx with | d hx => exact ⟨rfl, fun _ => hx⟩
    · cases h
  | tl τ =>
    replace h : slAt τ x = some v := h
    unfold slAt at h
    split at h
    · cases hx with | d hx => exact ⟨rfl, fun _ => asL_sound h hx⟩
    · cases h
  | tu => cases h
  | tp a c => cases h
theorem takeC_sound {M : CM} {D : Nat → Prop} : ∀ {τ : Ty} {xs r : List LV} {v : τ.T} {vals : List Value}, takeC τ xs = some (v, r) → All2 (VL w M β D) xs vals →
    ∃ vs vs', vals = vs ++ vs' ∧ vs.length = τ.size ∧ All2 (VL w M β D) r vs' ∧ ∀ j u, vs[j]? = some u → VD w M (τ.enc v j) u := by
  have leaf : ∀ {τ : Ty} {x : LV} {r : List LV} {v : τ.T} {vals : List Value}, leafAt τ x.st = some v → All2 (VL w M β D) (x :: r) vals →
      ∃ vs vs', vals = vs ++ vs' ∧ vs.length = τ.size ∧ All2 (VL w M β D) r vs' ∧ ∀ j u, vs[j]? = some u → VD w M (τ.enc v j) u := by
    intro τ x r v vals h hx
    cases hx with
    | @cons _ u _ vs' h1 h2 =>
      obtain ⟨g1, g2⟩ := leafAt_sound h (LV.st_sound h1)
      refine ⟨[u], vs', rfl, by simp [g1], h2, fun j y hy => ?_⟩
      cases j with
      | zero => simp at hy; rw [← hy]; exact g2 0
      | succ j => simp at hy
  intro τ
  induction τ with
  | tp a c iha ihc =>
    intro xs r v vals h hx
    simp only [takeC] at h
    split at h
    · rename_i u r1 h1
      split at h
      · rename_i v' r2 h2
        obtain ⟨vs1, vs1', rfl, g2, g3, g4⟩ := iha h1 hx
        obtain ⟨vs2, vs2', rfl, k2, k3, k4⟩ := ihc h2 g3
        injection h with h; injection h with e1 e2; subst e1 e2
        refine ⟨vs1 ++ vs2, vs2', by simp, by simp [Ty.size, g2, k2], k3, fun j y hy => ?_⟩
        simp only [Ty.enc]
        by_cases hj : j < a.size
        · rw [show Nat.blt j a.size = true from Nat.ble_eq_true_of_le hj]
          rw [List.getElem?_append_left (by omega)] at hy
          exact g4 j y hy
        · rw [show Nat.blt j a.size = false by rw [Bool.eq_false_iff]; intro h; exact hj (Nat.le_of_ble_eq_true h)]
          rw [List.getElem?_append_right (by omega), g2] at hy
          exact k4 _ y hy
      · cases h
    · cases h
  | _ =>
    intro xs r v vals h hx
    cases xs with
    | nil => simp [takeC] at h
    | cons x xs =>
      simp only [takeC] at h
      split at h
      · rename_i v' hv
        injection h with h; injection h with e1 e2; subst e1 e2
        exact leaf hv hx
      · cases h
theorem plainC_sound {M : CM} {D : Nat → Prop} {τ : Ty} {xs : List LV} {v : τ.T} {vals : List Value} (h : plainC τ xs = some v) (hx : All2 (VL w M β D) xs vals) : vals.length = τ.size ∧ ∀ (j : Nat) u, vals[j]? = some u → VD w M (τ.enc v j) u := by
  unfold plainC at h
  split at h
  · rename_i v' hv
    obtain rfl := Option.some.inj h
    obtain ⟨vs, vs', rfl, g2, g3, g4⟩ := takeC_sound hv hx
    cases g3
    rw [List.append_nil]
    exact ⟨g2, g4⟩
  · cases h
theorem rowsOf_sound {M : CM} {D : Nat → Prop} {τ : Ty} : ∀ {ps : List (Nat × TV)} {l : List τ.T} {qs : List (Nat × Value)}, rowsOf τ ps = some l → All2 (fun (p : Nat × TV) (q : Nat × Value) => p.1 = q.1 ∧ VT w M β D p.2 q.2) ps qs →
    l.length = qs.length ∧ ∀ (i : Nat) q, qs[i]? = some q → q.2.cells.size = τ.size ∧ ∀ (j : Nat) (u : Value), q.2.cells[j]? = some u → VD w M (τ.enc (l.getD i τ.d0) j) u
  | [], l, qs, h, hq => by injection h with h; subst h; cases hq; exact ⟨rfl, fun i q hq => by simp at hq⟩
  | (k, x) :: r, l, qs, h, hq => by
    cases hq with
    | @cons _ q _ qs h1 h2 =>
      simp only [rowsOf] at h
      split at h
      · rename_i v vs hv hvs
        injection h with h; subst h
        obtain ⟨g1, g2⟩ := plainC_sound hv (VT.cells h1.2)
        obtain ⟨h3, h4⟩ := rowsOf_sound hvs h2
        refine ⟨by simp [h3], fun i q' hq' => ?_⟩
        cases i with
        | zero => simp at hq'; subst hq'; exact ⟨by simpa using g1, fun j u hu => by simpa using g2 j u (by simpa using hu)⟩
        | succ i => simpa using h4 i q' (by simpa using hq')
      · cases h

theorem flat_get (sz : Nat) : ∀ (ls : List (List Value)), (∀ l ∈ ls, l.length = sz) → ∀ i j, i < ls.length → j < sz → ls.flatten[i * sz + j]? = (ls.getD i [])[j]?
  | [], _, i, _, h, _ => by simp at h
  | l :: ls, hl, i, j, hi, hj => by
    have h0 : l.length = sz := hl l (by simp)
    cases i with
    | zero => simp [List.getElem?_append, h0, hj]
    | succ i =>
      have := flat_get sz ls (fun x hx => hl x (by simp [hx])) i j (by simpa using hi) hj
      rw [List.flatten_cons, List.getElem?_append_right (by rw [h0, Nat.succ_mul]; omega), h0, Nat.succ_mul, show i * sz + sz + j - sz = i * sz + j by omega, this]
      simp
theorem flat_len (sz : Nat) : ∀ (ls : List (List Value)), (∀ l ∈ ls, l.length = sz) → ls.flatten.length = ls.length * sz
  | [], _ => by simp
  | l :: ls, hl => by
    rw [List.flatten_cons, List.length_append, flat_len sz ls (fun x hx => hl x (by simp [hx])), hl l (by simp), List.length_cons, Nat.succ_mul]
    omega

theorem fill_rows (sz : Nat) : ∀ (qs : List (Nat × Value)) (i : Nat) (arr : Array Value), (∀ k q, qs[k]? = some q → q.1 = i + k ∧ q.2.cells.size = sz) → arr.size = (i + qs.length) * sz →
    ∃ arr', Instr.fill (fun k => some (k * sz, sz)) arr qs = some arr' ∧ arr'.toList = arr.toList.take (i * sz) ++ (qs.map (·.2.cells.toList)).flatten
  | [], i, arr, _, hs => ⟨arr, rfl, by
    simp only [List.map_nil, List.flatten_nil, List.append_nil]
    rw [List.take_of_length_le]
    simp at hs
    simp [hs]⟩
  | (k, v) :: r, i, arr, hq, hs => by
    have h0 := hq 0 (k, v) rfl
    simp only [Nat.add_zero] at h0
    obtain ⟨rfl, hv⟩ := h0
    have hsz : k * sz + sz ≤ arr.size := by
      rw [hs, ← Nat.succ_mul]
      exact Nat.mul_le_mul_right _ (by simp)
    have e := foldl_set v.cells.toList arr (k * sz) 0 (by simp; omega)
    have hgo : ¬ (v.cells.size ≠ sz || k * sz + v.cells.size > arr.size) = true := by
      simp only [ne_eq, decide_not, Bool.or_eq_true, Bool.not_eq_true', decide_eq_false_iff_not, decide_eq_true_eq, not_or]
      exact ⟨fun h => h hv, by omega⟩
    have hlist : (v.cells.zipIdx.foldl (fun cs (c, j) => cs.setIfInBounds (k * sz + j) c) arr).toList = arr.toList.take (k * sz) ++ (v.cells.toList ++ arr.toList.drop (k * sz + sz)) := by
      rw [← Array.foldl_toList, Array.toList_zipIdx, e]
      simp [hv]
    obtain ⟨arr', g1, g2⟩ := fill_rows sz r (k + 1) (v.cells.zipIdx.foldl (fun cs (c, j) => cs.setIfInBounds (k * sz + j) c) arr)
      (fun j q hj => by have := hq (j + 1) q (by simpa using hj); exact ⟨by omega, this.2⟩)
      (by
        have h1 := congrArg List.length hlist
        have h2 : (k + 1 + r.length) * sz = arr.size := by rw [hs]; simp; congr 1; omega
        simp only [Array.length_toList, List.length_append, List.length_take, List.length_drop, hv] at h1
        rw [h2, h1]
        omega)
    refine ⟨arr', ?_, ?_⟩
    · simp only [Instr.fill]
      rw [if_neg hgo]
      exact g1
    · rw [g2, hlist]
      have h3 : (arr.toList.take (k * sz)).length = k * sz := by simp; omega
      rw [← List.append_assoc, List.take_left' (by rw [List.length_append, h3, Nat.succ_mul]; simp [hv])]
      simp

theorem consec_spec : ∀ {ps : List (Nat × TV)} {n : Nat}, consec n ps = true → ∀ k q, ps[k]? = some q → q.1 = n + k
  | [], _, _, k, q, hq => by simp at hq
  | (i, x) :: r, n, h, k, q, hq => by
    simp only [consec, Bool.and_eq_true, beq_iff_eq] at h
    cases k with
    | zero => simp at hq; subst hq; exact h.1
    | succ k => have := consec_spec h.2 k q (by simpa using hq); omega

theorem All2.get' {α : Type _} {β : Type _} {R : α → β → Prop} {l : List α} {m : List β} (h : All2 R l m) {i : Nat} {b : β} (hb : m[i]? = some b) : ∃ a, l[i]? = some a ∧ R a b := All2.get_right h hb

theorem good_rows (hL : LOk P L) (R : Rel X β σ a w) (hG : GOk a G) {o : Oper} {t : TypeId} {len : Nat} {parts : Array (Nat × Operand)} (ho : o.op = .buildSlice t len parts) {r : Res} (h : aRows L G σ t len parts.toList o.dst = some r) : OpGood P X σ a w o r := by
  unfold aRows at h
  split at h
  · rename_i y ps hy hps
    split at h
    · rename_i τ e b hety
      split at h
      · rename_i l hl
        split at h
        · rename_i hcond
          simp only [Bool.and_eq_true, beq_iff_eq] at hcond
          obtain ⟨hcons, hlen, _, hmax⟩ := hcond
          have hmax := Nat.le_of_ble_eq_true hmax
          split at h
          · rename_i n hn
            · replace hn := (rmFree_spec hn).1
              obtain rfl := Option.some.inj h
              obtain ⟨hu, hτ, _, _, i, z, hi, hsz, _, hz, hzs⟩ := (hL t y hy).ety τ e b hety
              have he : sizeIs P e τ.size := by unfold sizeIs; simp [hi, hsz]
              have hz' : ∀ w, (zeroValue e).run P w = .ok z w := fun w => by simp [zeroValue, typeInfo, hi, hz]
              have hall := mapP_sound R hG hps
              generalize hqs : (parts.toList.map fun (i, x) => (i, a.eval x)) = qs at hall
              obtain ⟨hll, hrows⟩ := rowsOf_sound hl hall
              have hql : qs.length = len := by rw [← hall.length, hlen]
              have hspec : ∀ (k : Nat) (q : Nat × Value), qs[k]? = some q → q.1 = k ∧ q.2.cells.size = τ.size := by
                intro k q hq
                obtain ⟨p, hp, hpq, hv⟩ := hall.get' hq
                have h1 := consec_spec hcons k p hp
                exact ⟨by omega, (hrows k q hq).1⟩
              obtain ⟨arr', g1, g2⟩ := fill_rows τ.size qs 0 ((Array.range (len * τ.size)).map ((if len * τ.size = 0 then #[] else z.cells)[· % (if len * τ.size = 0 then #[] else z.cells).size]!)) (fun (k : Nat) (q : Nat × Value) hq => ⟨by have := (hspec k q hq).1; omega, (hspec k q hq).2⟩) (by simp [hql])
              simp only [Nat.zero_mul, List.take_zero, List.nil_append] at g2
              have hrowlen : ∀ r ∈ qs.map (·.2.cells.toList), r.length = τ.size := by
                intro r hr
                obtain ⟨q, hq, rfl⟩ := List.mem_map.1 hr
                obtain ⟨k, hk, hkq⟩ := List.mem_iff_getElem.1 hq
                simpa using (hspec k q (by rw [List.getElem?_eq_getElem hk, hkq])).2
              have hal : arr'.toList.length = l.length * τ.size := by rw [g2, flat_len τ.size _ hrowlen]; simp [hll]
              have hparts : parts.toList.map (fun x => (x.1, a.eval x.2)) = qs := hqs
              obtain ⟨β', R', hv⟩ := R.newRow (n := n) (e := e) hτ (l := l) (cs := arr'.toList) (cap := l.length) (arr := arr') (w' := w.alloc (.cells arr' e)) ⟨rfl, rfl, rfl, rfl⟩ (fun o0 h => by rw [hn] at h; cases h) (fun o0 h => by rw [hn] at h; cases h) (Nat.le_refl _)
                (by
                  have : l.length * 1 ≤ len * τ.size := by rw [hll, hql]; exact Nat.mul_le_mul_left _ (by omega)
                  unfold maxLen
                  omega) hal (by simpa using hal) (List.take_of_length_le (by omega)) (fun i j u hi hj hu => by
                  rw [g2, flat_get τ.size _ hrowlen i j (by simpa using (by omega : i < qs.length)) hj] at hu
                  have hi' : i < qs.length := by omega
                  have h2 : (qs.map (·.2.cells.toList)).getD i [] = (qs[i]).2.cells.toList := by simp [List.getD, List.getElem?_eq_getElem hi']
                  rw [h2] at hu
                  exact (hrows i (qs[i]) (List.getElem?_eq_getElem hi')).2 j u (by simpa using hu))
              refine ⟨.value (.slice (some ⟨w.heap.size, 0, none⟩) len len), w.alloc (.cells arr' e), β', _, ?_, .inl rfl, R', ?_, by simp⟩
              · simp only [execOp, ho, Sem.run_bind, Instr.buildSlice, run_underlying hu, Result.andThen_ok, run_sizeOf he]
                rw [if_neg (by omega)]
                by_cases h0 : len * τ.size = 0
                · rw [if_pos h0] at g1
                  have hq0 : qs = [] := List.eq_nil_of_length_eq_zero (by
                    rcases Nat.mul_eq_zero.1 h0 with h | h
                    · omega
                    · omega)
                  rw [hq0, h0] at g1
                  simp [Instr.fill] at g1
                  subst g1
                  simp [hparts, h0, hq0, Instr.fill, newRow]
                · rw [if_neg h0] at g1
                  rw [if_neg h0]
                  simp [Sem.run_bind, hz', hparts, g1, newRow]
              · have e1 : len = l.length := by omega
                rw [e1]
                exact hv
          · cases h
        · cases h
      · cases h
    · cases h
  · cases h
end
end Go.Sy
