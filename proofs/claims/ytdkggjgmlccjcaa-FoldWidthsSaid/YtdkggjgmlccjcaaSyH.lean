/- A verified generator of conditions for this program, and its soundness: part 2 of the proof. -/
import Derived.Test.YtdkggjgmlccjcaaSyF
import Derived.Laws.IdiomStrings
import Derived.Laws.RangeString
import Derived.Lib.OthersKept
import Derived.TacticsIn
import Derived.Deep.LoopGhost
namespace Go.Sy
variable {P : Program} {L : Nat → Option Lay} {Γ : Nat → Option Con}

/-! a slice made of its rows -/
section
variable {X : Cx} {β : Bt} {σ : St} {a : Act} {w : World} {G : List (Nat × Bool)}

theorem leafAt_sound {M : CM} {D : Nat → Prop} {τ : Ty} {x : LV} {v : τ.T} {u : Value} (h : leafAt τ x = some v) (hx : VL w M β D x u) : τ.size = 1 ∧ ∀ j, VD w M (τ.enc v j) u := by
 cases τ with
 | ti k =>
  replace h : intAt k x = some v := h
  unfold intAt at h
  split at h
  ·split at h
   ·rename_i hk; subst hk
    injection h with h; subst h
    cases hx with | d hx => exact ⟨rfl, fun _ => hx⟩
   ·cases h
  ·cases h
 | tb =>
  replace h : boolAt x = some v := h
  unfold boolAt at h
  split at h
  ·injection h with h; subst h
   cases hx with | d hx => exact ⟨rfl, fun _ => hx⟩
  ·cases h
 | ts =>
  replace h : strAt x = some v := h
  unfold strAt at h
  split at h
  ·injection h with h; subst h
   cases hx with | d hx => exact ⟨rfl, fun _ => hx⟩
  ·cases h
 | tl τ =>
  replace h : slAt τ x = some v := h
  unfold slAt at h
  split at h
  ·cases hx with | d hx => exact ⟨rfl, fun _ => asL_sound h hx⟩
  ·cases h
 | tu => cases h
 | tp a c => cases h
theorem takeC_sound {M : CM} {D : Nat → Prop} : ∀ {τ : Ty} {xs r : List LV} {v : τ.T} {vals : List Value}, takeC τ xs = some (v, r) → All2 (VL w M β D) xs vals →
  ∃ vs vs', vals = vs ++ vs' ∧ vs.length = τ.size ∧ All2 (VL w M β D) r vs' ∧ ∀ j u, vs[j]? = some u → VD w M (τ.enc v j) u := by
 have leaf : ∀ {τ : Ty} {x : LV} {r : List LV} {v : τ.T} {vals : List Value}, leafAt τ x.st = some v → All2 (VL w M β D) (x :: r) vals →
   ∃ vs vs', vals = vs ++ vs' ∧ vs.length = τ.size ∧ All2 (VL w M β D) r vs' ∧ ∀ j u, vs[j]? = some u → VD w M (τ.enc v j) u := by
  intro τ x r v vals h hx
  cases hx with
  | @cons _ u _ vs' h1 h2 =>
   obtain ⟨g1, g2⟩ := leafAt_sound h (LV.st_sound h1)
   refine ⟨[u], vs', rfl, by simp [g1], h2, fun j y hy => ?_⟩
   cases j with
   | zero => simp at hy; rw [← hy]; exact g2 0
   | succ j => simp at hy
 intro τ
 induction τ with
 | tp a c iha ihc =>
  intro xs r v vals h hx
  simp only [takeC] at h
  split at h
  ·rename_i u r1 h1
   split at h
   ·rename_i v' r2 h2
    obtain ⟨vs1, vs1', rfl, g2, g3, g4⟩ := iha h1 hx
    obtain ⟨vs2, vs2', rfl, k2, k3, k4⟩ := ihc h2 g3
    injection h with h; injection h with e1 e2; subst e1 e2
    refine ⟨vs1 ++ vs2, vs2', by simp, by simp [Ty.size, g2, k2], k3, fun j y hy => ?_⟩
    simp only [Ty.enc]
    by_cases hj : j < a.size
    ·rw [show Nat.blt j a.size = true from Nat.ble_eq_true_of_le hj]
     rw [List.getElem?_append_left (by omega)] at hy
     exact g4 j y hy
    ·rw [show Nat.blt j a.size = false by rw [Bool.eq_false_iff]; intro h; exact hj (Nat.le_of_ble_eq_true h)]
     rw [List.getElem?_append_right (by omega), g2] at hy
     exact k4 _ y hy
   ·cases h
  ·cases h
 | _ =>
  intro xs r v vals h hx
  cases xs with
  | nil => simp [takeC] at h
  | cons x xs =>
   simp only [takeC] at h
   split at h
   ·rename_i v' hv
    injection h with h; injection h with e1 e2; subst e1 e2
    exact leaf hv hx
   ·cases h
theorem plainC_sound {M : CM} {D : Nat → Prop} {τ : Ty} {xs : List LV} {v : τ.T} {vals : List Value} (h : plainC τ xs = some v) (hx : All2 (VL w M β D) xs vals) : vals.length = τ.size ∧ ∀ (j : Nat) u, vals[j]? = some u → VD w M (τ.enc v j) u := by
 unfold plainC at h
 split at h
 ·rename_i v' hv
  obtain rfl := Option.some.inj h
  obtain ⟨vs, vs', rfl, g2, g3, g4⟩ := takeC_sound hv hx
  cases g3
  rw [List.append_nil]
  exact ⟨g2, g4⟩
 ·cases h
theorem rowsOf_sound {M : CM} {D : Nat → Prop} {τ : Ty} : ∀ {ps : List (Nat × TV)} {l : List τ.T} {qs : List (Nat × Value)}, rowsOf τ ps = some l → All2 (fun (p : Nat × TV) (q : Nat × Value) => p.1 = q.1 ∧ VT w M β D p.2 q.2) ps qs →
  l.length = qs.length ∧ ∀ (i : Nat) q, qs[i]? = some q → q.2.cells.size = τ.size ∧ ∀ (j : Nat) (u : Value), q.2.cells[j]? = some u → VD w M (τ.enc (l.getD i τ.d0) j) u
 | [], l, qs, h, hq => by injection h with h; subst h; cases hq; exact ⟨rfl, fun i q hq => by simp at hq⟩
 | (k, x) :: r, l, qs, h, hq => by
  cases hq with
  | @cons _ q _ qs h1 h2 =>
   simp only [rowsOf] at h
   split at h
   ·rename_i v vs hv hvs
    injection h with h; subst h
    obtain ⟨g1, g2⟩ := plainC_sound hv (VT.cells h1.2)
    obtain ⟨h3, h4⟩ := rowsOf_sound hvs h2
    refine ⟨by simp [h3], fun i q' hq' => ?_⟩
    cases i with
    | zero => simp at hq'; subst hq'; exact ⟨by simpa using g1, fun j u hu => by simpa using g2 j u (by simpa using hu)⟩
    | succ i => simpa using h4 i q' (by simpa using hq')
   ·cases h

theorem flat_get (sz : Nat) : ∀ (ls : List (List Value)), (∀ l ∈ ls, l.length = sz) → ∀ i j, i < ls.length → j < sz → ls.flatten[i * sz + j]? = (ls.getD i [])[j]?
 | [], _, i, _, h, _ => by simp at h
 | l :: ls, hl, i, j, hi, hj => by
  have h0 : l.length = sz := hl l (by simp)
  cases i with
  | zero => simp [List.getElem?_append, h0, hj]
  | succ i =>
   have := flat_get sz ls (fun x hx => hl x (by simp [hx])) i j (by simpa using hi) hj
   rw [List.flatten_cons, List.getElem?_append_right (by rw [h0, Nat.succ_mul]; omega), h0, Nat.succ_mul, show i * sz + sz + j - sz = i * sz + j by omega, this]
   simp
theorem flat_len (sz : Nat) : ∀ (ls : List (List Value)), (∀ l ∈ ls, l.length = sz) → ls.flatten.length = ls.length * sz
 | [], _ => by simp
 | l :: ls, hl => by
  rw [List.flatten_cons, List.length_append, flat_len sz ls (fun x hx => hl x (by simp [hx])), hl l (by simp), List.length_cons, Nat.succ_mul]
  omega

theorem fill_rows (sz : Nat) : ∀ (qs : List (Nat × Value)) (i : Nat) (arr : Array Value), (∀ k q, qs[k]? = some q → q.1 = i + k ∧ q.2.cells.size = sz) → arr.size = (i + qs.length) * sz →
  ∃ arr', Instr.fill (fun k => some (k * sz, sz)) arr qs = some arr' ∧ arr'.toList = arr.toList.take (i * sz) ++ (qs.map (·.2.cells.toList)).flatten
 | [], i, arr, _, hs => ⟨arr, rfl, by
  simp only [List.map_nil, List.flatten_nil, List.append_nil]
  rw [List.take_of_length_le]
  simp at hs
  simp [hs]⟩
 | (k, v) :: r, i, arr, hq, hs => by
  have h0 := hq 0 (k, v) rfl
  simp only [Nat.add_zero] at h0
  obtain ⟨rfl, hv⟩ := h0
  have hsz : k * sz + sz ≤ arr.size := by
   rw [hs, ← Nat.succ_mul]
   exact Nat.mul_le_mul_right _ (by simp)
  have e := foldl_set v.cells.toList arr (k * sz) 0 (by simp; omega)
  have hgo : ¬ (v.cells.size ≠ sz || k * sz + v.cells.size > arr.size) = true := by
   simp only [ne_eq, decide_not, Bool.or_eq_true, Bool.not_eq_true', decide_eq_false_iff_not, decide_eq_true_eq, not_or]
   exact ⟨fun h => h hv, by omega⟩
  have hlist : (v.cells.zipIdx.foldl (fun cs (c, j) => cs.setIfInBounds (k * sz + j) c) arr).toList = arr.toList.take (k * sz) ++ (v.cells.toList ++ arr.toList.drop (k * sz + sz)) := by
   rw [← Array.foldl_toList, Array.toList_zipIdx, e]
   simp [hv]
  obtain ⟨arr', g1, g2⟩ := fill_rows sz r (k + 1) (v.cells.zipIdx.foldl (fun cs (c, j) => cs.setIfInBounds (k * sz + j) c) arr)
   (fun j q hj => by have := hq (j + 1) q (by simpa using hj); exact ⟨by omega, this.2⟩)
   (by
    have h1 := congrArg List.length hlist
    have h2 : (k + 1 + r.length) * sz = arr.size := by rw [hs]; simp; congr 1; omega
    simp only [Array.length_toList, List.length_append, List.length_take, List.length_drop, hv] at h1
    rw [h2, h1]
    omega)
  refine ⟨arr', ?_, ?_⟩
  ·simp only [Instr.fill]
   rw [if_neg hgo]
   exact g1
  ·rw [g2, hlist]
   have h3 : (arr.toList.take (k * sz)).length = k * sz := by simp; omega
   rw [← List.append_assoc, List.take_left' (by rw [List.length_append, h3, Nat.succ_mul]; simp [hv])]
   simp

theorem consec_spec : ∀ {ps : List (Nat × TV)} {n : Nat}, consec n ps = true → ∀ k q, ps[k]? = some q → q.1 = n + k
 | [], _, _, k, q, hq => by simp at hq
 | (i, x) :: r, n, h, k, q, hq => by
  simp only [consec, Bool.and_eq_true, beq_iff_eq] at h
  cases k with
  | zero => simp at hq; subst hq; exact h.1
  | succ k => have := consec_spec h.2 k q (by simpa using hq); omega

theorem All2.get' {α : Type _} {β : Type _} {R : α → β → Prop} {l : List α} {m : List β} (h : All2 R l m) {i : Nat} {b : β} (hb : m[i]? = some b) : ∃ a, l[i]? = some a ∧ R a b := All2.get_right h hb

theorem good_rows (hL : LOk P L) (R : Rel X β σ a w) (hG : GOk a G) {o : Oper} {t : TypeId} {len : Nat} {parts : Array (Nat × Operand)} (ho : o.op = .buildSlice t len parts) {r : Res} (h : aRows L G σ t len parts.toList o.dst = some r) : OpGood P X σ a w o r := by
 unfold aRows at h
 split at h
 ·rename_i y ps hy hps
  split at h
  ·rename_i τ e b hety
   split at h
   ·rename_i l hl
    split at h
    ·rename_i hcond
     simp only [Bool.and_eq_true, beq_iff_eq] at hcond
     obtain ⟨hcons, hlen, _, hmax⟩ := hcond
     have hmax := Nat.le_of_ble_eq_true hmax
     split at h
     ·rename_i n hn
      ·replace hn := (rmFree_spec hn).1
       obtain rfl := Option.some.inj h
       obtain ⟨hu, hτ, _, _, i, z, hi, hsz, _, hz, hzs⟩ := (hL t y hy).ety τ e b hety
       have he : sizeIs P e τ.size := by unfold sizeIs; simp [hi, hsz]
       have hz' : ∀ w, (zeroValue e).run P w = .ok z w := fun w => by simp [zeroValue, typeInfo, hi, hz]
       have hall := mapP_sound R hG hps
       generalize hqs : (parts.toList.map fun (i, x) => (i, a.eval x)) = qs at hall
       obtain ⟨hll, hrows⟩ := rowsOf_sound hl hall
       have hql : qs.length = len := by rw [← hall.length, hlen]
       have hspec : ∀ (k : Nat) (q : Nat × Value), qs[k]? = some q → q.1 = k ∧ q.2.cells.size = τ.size := by
        intro k q hq
        obtain ⟨p, hp, hpq, hv⟩ := hall.get' hq
        have h1 := consec_spec hcons k p hp
        exact ⟨by omega, (hrows k q hq).1⟩
       obtain ⟨arr', g1, g2⟩ := fill_rows τ.size qs 0 ((Array.range (len * τ.size)).map ((if len * τ.size = 0 then #[] else z.cells)[· % (if len * τ.size = 0 then #[] else z.cells).size]!)) (fun (k : Nat) (q : Nat × Value) hq => ⟨by have := (hspec k q hq).1; omega, (hspec k q hq).2⟩) (by simp [hql])
       simp only [Nat.zero_mul, List.take_zero, List.nil_append] at g2
       have hrowlen : ∀ r ∈ qs.map (·.2.cells.toList), r.length = τ.size := by
        intro r hr
        obtain ⟨q, hq, rfl⟩ := List.mem_map.1 hr
        obtain ⟨k, hk, hkq⟩ := List.mem_iff_getElem.1 hq
        simpa using (hspec k q (by rw [List.getElem?_eq_getElem hk, hkq])).2
       have hal : arr'.toList.length = l.length * τ.size := by rw [g2, flat_len τ.size _ hrowlen]; simp [hll]
       have hparts : parts.toList.map (fun x => (x.1, a.eval x.2)) = qs := hqs
       obtain ⟨β', R', hv⟩ := R.newRow (n := n) (e := e) hτ (l := l) (cs := arr'.toList) (cap := l.length) (arr := arr') (w' := w.alloc (.cells arr' e)) ⟨rfl, rfl, rfl, rfl⟩ (fun o0 h => by rw [hn] at h; cases h) (fun o0 h => by rw [hn] at h; cases h) (Nat.le_refl _)
        (by
         have : l.length * 1 ≤ len * τ.size := by rw [hll, hql]; exact Nat.mul_le_mul_left _ (by omega)
         unfold maxLen
         omega) hal (by simpa using hal) (List.take_of_length_le (by omega)) (fun i j u hi hj hu => by
         rw [g2, flat_get τ.size _ hrowlen i j (by simpa using (by omega : i < qs.length)) hj] at hu
         have hi' : i < qs.length := by omega
         have h2 : (qs.map (·.2.cells.toList)).getD i [] = (qs[i]).2.cells.toList := by simp [List.getD, List.getElem?_eq_getElem hi']
         rw [h2] at hu
         exact (hrows i (qs[i]) (List.getElem?_eq_getElem hi')).2 j u (by simpa using hu))
       refine ⟨.value (.slice (some ⟨w.heap.size, 0, none⟩) len len), w.alloc (.cells arr' e), β', _, ?_, .inl rfl, R', ?_, by simp⟩
       ·simp only [execOp, ho, Sem.run_bind, Instr.buildSlice, run_underlying hu, Result.andThen_ok, run_sizeOf he]
        rw [if_neg (by omega)]
        by_cases h0 : len * τ.size = 0
        ·rw [if_pos h0] at g1
         have hq0 : qs = [] := List.eq_nil_of_length_eq_zero (by
          rcases Nat.mul_eq_zero.1 h0 with h | h
          ·omega
          ·omega)
         rw [hq0, h0] at g1
         simp [Instr.fill] at g1
         subst g1
         simp [hparts, h0, hq0, Instr.fill, newRow]
        ·rw [if_neg h0] at g1
         rw [if_neg h0]
         simp [Sem.run_bind, hz', hparts, g1, newRow]
       ·have e1 : len = l.length := by omega
        rw [e1]
        exact hv
     ·cases h
    ·cases h
   ·cases h
  ·cases h
 ·cases h

theorem wrapD_sound {M : CM} {D : Nat → Prop} {ys : List DV} {zs : List Value} (h : All2 (VD w M) ys zs) : All2 (VL w M β D) (wrapD ys) zs := by
 induction h with
 | nil => exact .nil
 | cons hx _ ih => exact .cons (.d hx) ih
theorem rep_get {sz : Nat} {z : Array Value} (hz : z.size = sz) {n i j : Nat} (hi : i < n) (hj : j < sz) :
  ((Array.range (n * sz)).map (fun q => z[q % z.size]!)).toList[i * sz + j]? = z.toList[j]? := by
 have h1 : i * sz + j < n * sz := by
  have := Nat.mul_le_mul_right sz (show i + 1 ≤ n from hi)
  rw [Nat.succ_mul] at this
  omega
 have h2 : (i * sz + j) % sz = j := by rw [Nat.mul_comm, Nat.mul_add_mod]; exact Nat.mod_eq_of_lt hj
 simp [h1, hz, h2, hj]
theorem good_makes (hL : LOk P L) (R : Rel X β σ a w) (hG : GOk a G) {o : Oper} {t : TypeId} {x y : Operand} (ho : o.op = .makeSlice t x y) {r : Res} (h : aMakeS L G σ t x y o.dst = some r) (hc : ∀ c ∈ r.c, c) : OpGood P X σ a w o r := by
 unfold aMakeS at h
 split at h
 ·rename_i n m hx hy
  split at h
  ·rename_i yt hyt
   split at h
   ·rename_i τ e by' hety
    split at h
    ·rename_i ye hye
     split at h
     ·rename_i v nm hv hn
      split at h
      ·rename_i hcond
       simp only [Bool.and_eq_true] at hcond
       have hs0 := Nat.le_of_ble_eq_true hcond.1
       have hs1 := Nat.le_of_ble_eq_true hcond.2
       replace hn := (rmFree_spec hn).1
       obtain rfl := Option.some.inj h
       have c1 : n = m := (hc _ (.head _) : m = n).symm
       have c2 : 0 ≤ n := hc _ (.tail _ (.head _))
       have c3 : n ≤ 1048576 := hc _ (.tail _ (.tail _ (.head _)))
       subst c1
       have vx := VT.int (opT_sound R hG hx)
       have vy := VT.int (opT_sound R hG hy)
       obtain ⟨hu, hτ, _, _, i, z, hi, hsz, hby, hz, hzs⟩ := (hL t yt hyt).ety τ e by' hety
       obtain ⟨z', hz1, _, hz3⟩ := (hL e ye hye).zero
       have hzz : z' = z := by
        have := hz1 w
        simp [zeroValue, typeInfo, hi, hz] at this
        exact this.symm
       subst hzz
       have he : sizeIs P e τ.size := by unfold sizeIs; simp [hi, hsz]
       obtain ⟨p1, p2⟩ := plainC_sound (w := w) (β := β) (M := Mt β (look σ.h)) (D := dm (look σ.h)) hv (wrapD_sound (hz3 w _))
       have hk : n = (n.toNat : Int) := (Int.toNat_of_nonneg c2).symm
       have hk2 : n.toNat ≤ 1048576 := Int.toNat_le.2 c3
       have hw : IntKind.i64.wrap n = n := wrap_i64 ⟨Int.le_trans (by decide) c2, Int.le_trans c3 (by decide)⟩
       have hb : by' * n.toNat ≤ 65536 * 1048576 := Nat.mul_le_mul hs1 hk2
       have hb2 : ((by' : Int) * n) ≤ 68719476736 := by
        rw [hk]
        have := Int.ofNat_le.2 hb
        rw [Int.natCast_mul] at this
        exact this
       have hb3 : n.toNat * by' ≤ 68719476736 := by rw [Nat.mul_comm]; exact hb
       have hzl : z'.cells.size = τ.size := hzs
       have hlen : (List.replicate n.toNat v).length = n.toNat := List.length_replicate
       have hz' : ∀ w, (zeroValue e).run P w = .ok z' w := hz1
       have arrsz : ((Array.range (n.toNat * τ.size)).map (fun q => (if n.toNat * τ.size = 0 then #[] else z'.cells)[q % (if n.toNat * τ.size = 0 then #[] else z'.cells).size]!)).size = n.toNat * τ.size := by simp
       obtain ⟨β', R', hv'⟩ := R.newRow (n := nm) (e := e) hτ (l := List.replicate n.toNat v) (cs := ((Array.range (n.toNat * τ.size)).map (fun q => (if n.toNat * τ.size = 0 then #[] else z'.cells)[q % (if n.toNat * τ.size = 0 then #[] else z'.cells).size]!)).toList) (cap := n.toNat)
        (arr := (Array.range (n.toNat * τ.size)).map (fun q => (if n.toNat * τ.size = 0 then #[] else z'.cells)[q % (if n.toNat * τ.size = 0 then #[] else z'.cells).size]!))
        (w' := w.alloc (.cells ((Array.range (n.toNat * τ.size)).map (fun q => (if n.toNat * τ.size = 0 then #[] else z'.cells)[q % (if n.toNat * τ.size = 0 then #[] else z'.cells).size]!)) e)) ⟨rfl, rfl, rfl, rfl⟩ (fun o0 h => by rw [hn] at h; cases h) (fun o0 h => by rw [hn] at h; cases h)
        (by rw [hlen]; exact Nat.le_refl _) (by unfold maxLen; omega) (by rw [hlen]; simp) arrsz (by rw [hlen]; exact List.take_of_length_le (by simp))
        (fun i j u hi hj hu => by
         rw [hlen] at hi
         have hne : n.toNat * τ.size ≠ 0 := by
          have := Nat.mul_pos (show 0 < n.toNat by omega) hτ
          omega
         simp only [if_neg hne] at hu
         rw [rep_get hzl hi hj] at hu
         have := p2 j u hu
         have e1 : (List.replicate n.toNat v).getD i τ.d0 = v := by simp [List.getD, hi]
         rw [e1]; exact this)
       refine ⟨.value (.slice (some ⟨w.heap.size, 0, none⟩) n.toNat n.toNat), w.alloc (.cells ((Array.range (n.toNat * τ.size)).map (fun q => (if n.toNat * τ.size = 0 then #[] else z'.cells)[q % (if n.toNat * τ.size = 0 then #[] else z'.cells).size]!)) e), β', _, ?_, .inl rfl, R', ?_, by simp⟩
       ·have g1 : ¬ (n < 0) := by omega
        have g2 : ¬ ((by' : Int) * n > 2 ^ 48) := by omega
        have g3 : ¬ (n.toNat * by' > roomBytes) := by unfold roomBytes; omega
        have hti : ∀ w, (typeInfo e).run P w = .ok i w := fun w => by simp [typeInfo, hi]
        have d1 : decide (n < 0) = false := decide_eq_false g1
        have d2 : decide ((i.bytes : Int) * n > 2 ^ 48) = false := by rw [hby]; exact decide_eq_false g2
        have d3 : decide (n > n) = false := decide_eq_false (by omega)
        have d4 : ¬ (n.toNat * i.bytes > roomBytes) := by rw [hby]; exact g3
        simp only [execOp, ho, Sem.run_bind, Instr.makeSlice, run_underlying hu, Result.andThen_ok, vx, vy, asInt, asIntOf, hti, Sem.run_pure, hw, run_sizeOf he, askRoom, d1, d2, d3, if_neg d4, Bool.or_self, Bool.false_eq_true, if_false]
        by_cases h0 : n.toNat * τ.size = 0
        ·simp [h0, newRow]
        ·simp [h0, Sem.run_bind, hz', newRow]
       ·have e1 : n.toNat = (List.replicate n.toNat v).length := hlen.symm
        have := hv'
        rw [hlen] at this ⊢
        exact this
      ·cases h
     ·cases h
    ·cases h
   ·cases h
  ·cases h
 ·cases h
end
end Go.Sy
namespace Go.Sy
variable {P : Program} {L : Nat → Option Lay}

/-! maps whose keys are plain -/
theorem bytes_beq' (a b : ByteArray) : (a == b) = true ↔ a = b := by
 obtain ⟨x⟩ := a
 obtain ⟨y⟩ := b
 constructor
 ·intro h
  have e : x = y := by simpa using (show (x == y) = true from h)
  rw [e]
 ·intro h
  cases h
  show (x == x) = true
  simp

theorem Ty.beq_eq : ∀ {τ : Ty}, τ.cmp = true → ∀ {x y : τ.T}, τ.beq x y = true → x = y
 | .ti _, _, x, y, h => (beq_iff_eq (α := Int)).1 h
 | .tb, _, x, y, h => (beq_iff_eq (α := Bool)).1 h
 | .ts, _, x, y, h => (bytes_beq' _ _).1 h
 | .tp a b, hc, (x, x'), (y, y'), h => by
  simp only [Ty.cmp, Bool.and_eq_true] at hc
  simp only [Ty.beq, Bool.and_eq_true] at h
  rw [beq_eq hc.1 h.1, beq_eq hc.2 h.2]
 | .tu, hc, _, _, _ => by cases hc
 | .tl _, hc, _, _, _ => by cases hc
theorem Ty.beq_self : ∀ {τ : Ty}, τ.cmp = true → ∀ (x : τ.T), τ.beq x x = true
 | .ti _, _, x => (beq_iff_eq (α := Int)).2 rfl
 | .tb, _, x => (beq_iff_eq (α := Bool)).2 rfl
 | .ts, _, x => (bytes_beq' _ _).2 rfl
 | .tp a b, hc, (x, x') => by
  simp only [Ty.cmp, Bool.and_eq_true] at hc
  simp only [Ty.beq, Bool.and_eq_true]
  exact ⟨beq_self hc.1 x, beq_self hc.2 x'⟩
 | .tu, hc, _ => by cases hc
 | .tl _, hc, _ => by cases hc
theorem Ty.cmp_enc : ∀ {τ : Ty}, τ.cmp = true → ∀ (x : τ.T) (j : Nat), j < τ.size → ∃ v, τ.enc x j = .lit v ∧ ∀ n, Instr.sameBits n v v = true
 | .ti k, _, x, j, _ => ⟨.int k x, rfl, fun n => by cases n <;> simp only [Instr.sameBits, Bool.and_eq_true] <;> exact ⟨by simp, (beq_iff_eq (α := Int)).2 rfl⟩⟩
 | .tb, _, x, j, _ => ⟨.bool x, rfl, fun n => by cases n <;> exact (beq_iff_eq (α := Bool)).2 rfl⟩
 | .ts, _, x, j, _ => ⟨.string x, rfl, fun n => by cases n <;> exact (bytes_beq' _ _).2 rfl⟩
 | .tp a b, hc, (x, x'), j, hj => by
  simp only [Ty.cmp, Bool.and_eq_true] at hc
  simp only [Ty.size] at hj
  by_cases h : j < a.size
  ·obtain ⟨v, h1, h2⟩ := cmp_enc hc.1 x j h
   exact ⟨v, by simp only [Ty.enc]; rw [show Nat.blt j a.size = true from by simpa [Nat.blt_eq] using h]; exact h1, h2⟩
  ·obtain ⟨v, h1, h2⟩ := cmp_enc hc.2 x' (j - a.size) (by omega)
   exact ⟨v, by simp only [Ty.enc]; rw [show Nat.blt j a.size = false from by rw [← Bool.not_eq_true, Nat.blt_eq]; exact h]; exact h1, h2⟩
 | .tu, hc, _, _, _ => by cases hc
 | .tl _, hc, _, _, _ => by cases hc
theorem Ty.lks_len : ∀ {τ : Ty}, τ.cmp = true → τ.lks.length = τ.size
 | .ti _, _ => rfl
 | .tb, _ => rfl
 | .ts, _ => rfl
 | .tp a b, hc => by
  simp only [Ty.cmp, Bool.and_eq_true] at hc
  simp only [Ty.lks, Ty.size, List.length_append, lks_len hc.1, lks_len hc.2]
 | .tu, hc => by cases hc
 | .tl _, hc => by cases hc

theorem leafsEq_join : ∀ {ks ls : List LK} {xs ys xs' ys' : List LV} {a b : Bool}, leafsEq ks xs ys = some a → leafsEq ls xs' ys' = some b → leafsEq (ks ++ ls) (xs ++ xs') (ys ++ ys') = some (a && b)
 | [], ls, xs, ys, xs', ys', a, b, h, h' => by
  obtain ⟨h1, h2⟩ := leafsEq_len h
  obtain rfl := List.eq_nil_of_length_eq_zero h1
  obtain rfl := List.eq_nil_of_length_eq_zero h2
  simp [leafsEq] at h
  subst h
  simpa using h'
 | k :: ks, ls, [], ys, xs', ys', a, b, h, h' => by cases ys <;> simp [leafsEq] at h
 | k :: ks, ls, x :: xs, [], xs', ys', a, b, h, h' => by simp [leafsEq] at h
 | k :: ks, ls, x :: xs, y :: ys, xs', ys', a, b, h, h' => by
  rw [leafsEq_cons] at h
  split at h
  ·rename_i p q hp hq
   obtain rfl := Option.some.inj h
   rw [List.cons_append, List.cons_append, List.cons_append, leafsEq_cons, hp, leafsEq_join hq h', Bool.and_assoc]
  ·cases h
theorem dcells_congr {c d : Nat → DV} : ∀ {n i : Nat}, (∀ j, i ≤ j → j < i + n → c j = d j) → dcells c i n = dcells d i n
 | 0, _, _ => rfl
 | n + 1, i, h => by
  simp only [dcells]
  rw [h i (Nat.le_refl _) (by omega), dcells_congr (n := n) (i := i + 1) fun j h1 h2 => h j (by omega) (by omega)]
theorem dcells_add {c : Nat → DV} : ∀ {m n i : Nat}, dcells c i (m + n) = dcells c i m ++ dcells c (i + m) n
 | 0, n, i => by simp [dcells]
 | m + 1, n, i => by
  rw [show m + 1 + n = (m + n) + 1 by omega]
  simp only [dcells, List.cons_append]
  rw [dcells_add (m := m) (n := n) (i := i + 1), show i + 1 + m = i + (m + 1) by omega]
theorem dcells_shift {c : Nat → DV} (k : Nat) : ∀ {n i : Nat}, dcells c (i + k) n = dcells (fun j => c (j + k)) i n
 | 0, _ => rfl
 | n + 1, i => by
  simp only [dcells]
  rw [show i + k + 1 = (i + 1) + k by omega, dcells_shift k]
theorem dcells_tp {a b : Ty} {x : a.T} {y : b.T} : dcells ((Ty.tp a b).enc (x, y)) 0 (Ty.tp a b).size = dcells (a.enc x) 0 a.size ++ dcells (b.enc y) 0 b.size := by
 simp only [Ty.size]
 rw [dcells_add, dcells_shift]
 congr 1
 ·refine dcells_congr fun j _ h => ?_
  simp only [Ty.enc]
  rw [show Nat.blt j a.size = true from by simp only [Nat.blt_eq]; omega]
  rfl
 ·refine dcells_congr fun j _ h => ?_
  simp only [Ty.enc]
  rw [show Nat.blt (j + a.size) a.size = false from by rw [← Bool.not_eq_true, Nat.blt_eq]; omega]
  simp
theorem beq_leafs : ∀ {τ : Ty}, τ.cmp = true → ∀ (x y : τ.T), leafsEq τ.lks (dcells (τ.enc x) 0 τ.size) (dcells (τ.enc y) 0 τ.size) = some (τ.beq x y)
 | .ti k, _, x, y => by
  show (match leafEq .i (.d (.lit (.int k x))) (.d (.lit (.int k y))), leafsEq [] [] [] with | some x, some y => some x | _, _ => none) = _
  simp [leafEq, leafsEq, Ty.beq]
 | .tb, _, x, y => rfl
 | .ts, _, x, y => rfl
 | .tp a b, hc, (x, x'), (y, y') => by
  simp only [Ty.cmp, Bool.and_eq_true] at hc
  rw [dcells_tp, dcells_tp]
  exact leafsEq_join (beq_leafs hc.1 x y) (beq_leafs hc.2 x' y')
 | .tu, hc, _, _ => by cases hc
 | .tl _, hc, _, _ => by cases hc

section
variable {w : World} {M : CM} {β : Bt} {D : Nat → Prop}
theorem PVal.all {τ : Ty} {v : τ.T} {u : Value} (h : PVal w M τ v u) : All2 (VL w M β D) (dcells (τ.enc v) 0 τ.size) u.cells.toList := by
 refine All2.of_get (by rw [dcells_len]; exact h.2.2.1.symm) fun i x y hx hy => ?_
 have hi : i < τ.size := by
  have := (List.getElem?_eq_some_iff.1 hx).1
  rwa [dcells_len] at this
 rw [dcells_get _ _ _ _ hi, Nat.zero_add] at hx
 injection hx with hx; subst hx
 exact .d (h.2.2.2 i y hy)
theorem PVal.lits {τ : Ty} (hc : τ.cmp = true) {v : τ.T} {u : Value} (h : PVal w M τ v u) {j : Nat} {x : Value} (hx : u.cells.toList[j]? = some x) : τ.enc v j = .lit x ∧ x.oneCell' = true ∧ ∀ n, Instr.sameBits n x x = true := by
 have hj : j < τ.size := by rw [← h.2.2.1]; exact (List.getElem?_eq_some_iff.1 hx).1
 obtain ⟨v', h1, h2⟩ := Ty.cmp_enc hc v j hj
 have h3 := h.2.2.2 j x hx
 rw [h1] at h3
 cases h3 with
 | lit h4 => exact ⟨h1, h4, h2⟩
theorem PVal.same {τ : Ty} (hc : τ.cmp = true) {v : τ.T} {u u' : Value} (h : PVal w M τ v u) (h' : PVal w M τ v u') : u = u' := by
 have hcells : u.cells.toList = u'.cells.toList := by
  apply List.ext_getElem?
  intro j
  by_cases hj : j < τ.size
  ·obtain ⟨x, hx⟩ : ∃ x, u.cells.toList[j]? = some x := ⟨_, List.getElem?_eq_getElem (by rw [h.2.2.1]; exact hj)⟩
   obtain ⟨x', hx'⟩ : ∃ x, u'.cells.toList[j]? = some x := ⟨_, List.getElem?_eq_getElem (by rw [h'.2.2.1]; exact hj)⟩
   have h1 := (h.lits hc hx).1
   have h2 := (h'.lits hc hx').1
   rw [h1] at h2
   injection h2 with h2
   rw [hx, hx', h2]
  ·rw [List.getElem?_eq_none (by rw [h.2.2.1]; omega), List.getElem?_eq_none (by rw [h'.2.2.1]; omega)]
 cases hag : τ.ag with
 | true =>
  obtain ⟨a, rfl⟩ := h.1 hag
  obtain ⟨b, rfl⟩ := h'.1 hag
  simp only [Value.cells] at hcells
  congr 1
  exact Array.toList_inj.1 hcells
 | false =>
  rw [one_cells (h.2.1 hag), one_cells (h'.2.1 hag)] at hcells
  simpa using hcells
theorem PVal.bits {τ : Ty} (hc : τ.cmp = true) {v : τ.T} {u : Value} (h : PVal w M τ v u) : Instr.sameBits 10000 u u = true := by
 cases hag : τ.ag with
 | true =>
  obtain ⟨a, rfl⟩ := h.1 hag
  simp only [Instr.sameBits, Bool.and_eq_true, List.all_eq_true]
  refine ⟨by simp, fun p hp => ?_⟩
  obtain ⟨i, hi⟩ := List.mem_iff_getElem?.1 hp
  rw [List.getElem?_zip_eq_some] at hi
  have e : p.1 = p.2 := Option.some.inj (hi.1.symm.trans hi.2)
  rw [← e]
  exact (h.lits hc (by simpa [Value.cells] using hi.1)).2.2 _
 | false =>
  have h5 := one_cells (h.2.1 hag)
  exact (h.lits hc (j := 0) (x := u) (by rw [h5]; rfl)).2.2 _

theorem equal_run {κ : Ty} {kt : TypeId} (hk : KeyOk P κ kt) {x y : κ.T} {u v : Value} (hx : PVal w M κ x u) (hy : PVal w M κ y v) : (Op.equal kt u v).run P w = .ok (κ.beq x y) w := by
 refine eq_run (β := ⟨fun _ => none, fun _ => none, fun _ _ => False, fun _ _ _ => False, fun _ _ _ _ _ => False, P⟩) (D := fun _ => False) (M := M) 20 Op.maxDepth kt κ.lks _ _ u v _ (by decide) hk.ks (beq_leafs hk.cmp x y) hx.all hy.all fun e he => ?_
 have := hk.ag e he
 exact ⟨fun h => ⟨hx.1 (this ▸ h), hy.1 (this ▸ h)⟩, fun h => ⟨hx.2.1 (this ▸ h), hy.2.1 (this ▸ h)⟩⟩

theorem check_run (em : Bool) : ∀ (n d : Nat) (t : TypeId) (ks : List LK) (u : Value), n ≤ d → eqk P n t = some ks → u.cells.toList.length = ks.length → (∀ c ∈ u.cells.toList, c.oneCell' = true) →
  (∀ e, P.underlying t = some e → aggD e = true → ∃ a, u = .agg a) → (Instr.checkKey em d t u).run P w = .ok () w := by
 intro n
 induction n with
 | zero => intro d t ks u _ hk; simp [eqk] at hk
 | succ n ih =>
  intro d t ks u hd hk hlen hone hag
  obtain ⟨d, rfl⟩ : ∃ d', d = d' + 1 := ⟨d - 1, by omega⟩
  rw [eqk] at hk
  rw [Instr.checkKey]
  split at hk
  ·rename_i q he
   simp only [Sem.run_bind, run_underlying he, Result.andThen_ok]
   cases u <;> rfl
  ·rename_i he
   simp only [Sem.run_bind, run_underlying he, Result.andThen_ok]
   cases u <;> rfl
  ·rename_i he
   simp only [Sem.run_bind, run_underlying he, Result.andThen_ok]
   cases u <;> rfl
  ·rename_i fs he
   split at hk
   ·obtain ⟨a, rfl⟩ := hag _ he rfl
    simp only [Sem.run_bind, run_underlying he, Result.andThen_ok]
    rw [← Array.forIn_toList]
    simp only [Value.cells] at hlen hone
    have key : ∀ (l : List Field) (off : Nat) (ks : List LK), eqks P (eqk P n) l off = some ks → off + ks.length ≤ a.toList.length →
      (forIn l PUnit.unit (fun f r => (if f.name ≠ "_" then do Instr.checkKey em d f.type (← part f.type a f.offset); pure (ForInStep.yield PUnit.unit) else pure (ForInStep.yield PUnit.unit) : Sem (ForInStep PUnit)))).run P w = .ok PUnit.unit w := by
     intro l
     induction l with
     | nil => intro off ks _ _; rfl
     | cons f l ihl =>
      intro off ks hk hle
      simp only [eqks] at hk
      split at hk
      ·rename_i hnm
       split at hk
       ·rename_i kf hkf
        split at hk
        ·rename_i hsz
         split at hk
         ·rename_i kr hkr
          obtain rfl := Option.some.inj hk
          rw [List.length_append] at hle
          have ih2 := ihl (off + kf.length) kr hkr (by omega)
          obtain ⟨e, hfe⟩ : ∃ e, P.underlying f.type = some e := by
           cases n with
           | zero => simp [eqk] at hkf
           | succ n =>
            cases hu : P.underlying f.type with
            | some e => exact ⟨e, rfl⟩
            | none => rw [eqk, hu] at hkf; simp at hkf
          obtain ⟨u, hu1, hu2, hu3, hu4⟩ : ∃ u, (part f.type a f.offset).run P w = .ok u w ∧ u.cells.toList.length = kf.length ∧ (∀ c ∈ u.cells.toList, c.oneCell' = true) ∧ (aggD e = true → ∃ a, u = .agg a) := by
           by_cases hae : aggD e = true
           ·refine ⟨_, part_agg hfe hae hsz, ?_, ?_, fun _ => ⟨_, rfl⟩⟩
            ·simp only [Array.length_toList] at hle
             simp [Value.cells, hnm.2]; omega
            ·intro c hc
             simp only [Value.cells, hnm.2, List.extract_eq_take_drop, Array.toList_extract] at hc
             exact hone c (List.mem_of_mem_drop (List.mem_of_mem_take hc))
           ·have hae' : aggD e = false := by simpa using hae
            have hk1 : kf.length = 1 := by
             cases n with
             | zero => simp [eqk] at hkf
             | succ n =>
              rw [eqk, hfe] at hkf
              cases e <;> simp [aggD] at hae' hkf <;> (try (subst hkf; rfl))
            have hlt : off < a.toList.length := by omega
            have hg : a[off]? = some a[off] := by simp [Array.getElem?_eq_getElem (by simpa using hlt)]
            have ho := hone a[off] (by simp)
            refine ⟨a[off], part_one hfe hae' (by rw [hnm.2]; exact hg), ?_, ?_, fun h => by rw [h] at hae'; cases hae'⟩
            ·rw [one_cells ho, hk1]; rfl
            ·rw [one_cells ho]; intro c hc; simp at hc; rw [hc]; exact ho
          have hrun := ih d f.type kf u (by omega) hkf hu2 hu3 (fun e' he' h => by
           obtain rfl : e = e' := Option.some.inj (hfe.symm.trans he')
           exact hu4 h)
          simp only [List.forIn_cons, Sem.run_bind, hnm.1, ne_eq, not_false_eq_true, if_true, Result.andThen_ok, hu1, hrun, Sem.run_pure]
          exact ih2
         ·cases hk
        ·cases hk
       ·cases hk
      ·cases hk
    rw [key fs.toList 0 ks hk (by rw [← hlen]; simp)]
    rfl
   ·cases hk
  ·cases hk
theorem PVal.check {κ : Ty} {kt : TypeId} (hk : KeyOk P κ kt) {x : κ.T} {u : Value} (hx : PVal w M κ x u) (em : Bool) : (Instr.checkKey em 10000 kt u).run P w = .ok () w := by
 refine check_run em 20 10000 kt κ.lks u (by decide) hk.ks (by rw [hx.2.2.1, Ty.lks_len hk.cmp]) (fun c hc => ?_) fun e he h => hx.1 (hk.ag e he ▸ h)
 obtain ⟨j, hj⟩ := List.mem_iff_getElem?.1 hc
 exact (hx.lits hk.cmp hj).2.1

def mat {α β : Type _} (e : α → α → Bool) (k : α) : List (α × β) → Nat → Option (Nat × β)
 | [], _ => none
 | p :: r, i => if e k p.1 then some (i, p.2) else mat e k r (i + 1)
theorem mget_mat {α β : Type _} {e : α → α → Bool} {k : α} : ∀ {l : List (α × β)} {i : Nat}, mget e k l = (mat e k l i).map (·.2)
 | [], _ => rfl
 | p :: r, i => by
  simp only [mget, mat]
  split
  ·rfl
  ·exact mget_mat
abbrev EnV (w : World) (M : CM) (κ : Ty) {α : Type} (V : α → Value → Prop) (p : κ.T × α) (en : MapEntry) : Prop := PVal w M κ p.1 en.key ∧ V p.2 en.val
abbrev EnR (w : World) (M : CM) (κ ν : Ty) (p : κ.T × ν.T) (en : MapEntry) : Prop := PVal w M κ p.1 en.key ∧ PVal w M ν p.2 en.val
def Fnd {α : Type} (V : α → Value → Prop) (es : List MapEntry) (k : Value) (i : Nat) : Option (Nat × α) → Option (Nat × Value) → Prop
 | none, r => r = none
 | some (j, v), r => ∃ en, i ≤ j ∧ es[j - i]? = some en ∧ r = some (j, en.val) ∧ V v en.val ∧ en.key = k
theorem Fnd.tail {α : Type} {V : α → Value → Prop} {es : List MapEntry} {en0 : MapEntry} {k : Value} {i : Nat} {o : Option (Nat × α)} {r : Option (Nat × Value)} (h : Fnd V es k (i + 1) o r) : Fnd V (en0 :: es) k i o r := by
 cases o with
 | none => exact h
 | some q =>
  obtain ⟨j, v⟩ := q
  obtain ⟨en, h1, h2, h3, h4⟩ := h
  refine ⟨en, by omega, ?_, h3, h4⟩
  rw [show j - i = (j - (i + 1)) + 1 by omega, List.getElem?_cons_succ]
  exact h2
theorem ask_run {κ : Ty} {α : Type} {V : α → Value → Prop} {kt : TypeId} (hk : KeyOk P κ kt) {k : κ.T} {u : Value} (hu : PVal w M κ k u) : ∀ {l : List (κ.T × α)} {es : List MapEntry} (i : Nat), All2 (EnV w M κ V) l es →
  ∃ r, (Instr.findAsking kt u es i).run P w = .ok r w ∧ Fnd V es u i (mat κ.beq k l i) r
 | _, _, i, .nil => ⟨none, rfl, rfl⟩
 | p :: l, en :: es, i, .cons h1 h2 => by
  have he := equal_run hk hu h1.1
  simp only [Instr.findAsking, Sem.run_bind, he, Result.andThen_ok, mat, Sem.run_ite]
  cases hb : κ.beq k p.1 with
  | true =>
   refine ⟨_, rfl, en, Nat.le_refl _, by simp, rfl, h1.2, ?_⟩
   have := Ty.beq_eq hk.cmp hb
   exact (h1.1.same hk.cmp (this ▸ hu))
  | false =>
   obtain ⟨r, g1, g2⟩ := ask_run hk hu (i + 1) h2
   exact ⟨r, by simpa using g1, by simpa using g2.tail⟩
theorem now_run {κ : Ty} {α : Type} {V : α → Value → Prop} {kt : TypeId} {d : TypeDesc} (hd : P.underlying kt = some d) (hk : KeyOk P κ kt) {k : κ.T} {u : Value} (hu : PVal w M κ k u) : ∀ {l : List (κ.T × α)} {es : List MapEntry} (i : Nat) {r : Option (Nat × Value)}, All2 (EnV w M κ V) l es →
  Instr.findNow d u es i = some r → Fnd V es u i (mat κ.beq k l i) r
 | _, _, i, r, .nil, h => by injection h with h; exact h.symm
 | p :: l, en :: es, i, r, .cons h1 h2, h => by
  have hs' : ∀ b ky, PVal w M κ p.1 ky → Instr.sameNow d u ky = some b → b = κ.beq k p.1 := fun b ky hky hb => by
   have he := equal_run hk hu hky
   have hq : (Op.equal kt u ky).run P w = .ok b w := by
    unfold Instr.sameNow at hb
    split at hb
    ·split at hb
     ·rename_i hkk
      subst hkk
      injection hb with hb; subst hb
      exact run_equalIn_int w _ kt _ _ _ _ hd
     ·cases hb
    ·injection hb with hb; subst hb
     rename_i a b
     have := run_equalIn_string w 9999 kt a b hd
     rw [← beq_toListBytes] at this
     exact this
    ·injection hb with hb; subst hb
     exact run_equalIn_bool w _ kt _ _ hd
    ·cases hb
   rw [he] at hq
   injection hq with hq; exact hq.symm
  have hs : ∀ b, Instr.sameNow d u en.key = some b → b = κ.beq k p.1 := fun b hb => hs' b en.key h1.1 hb
  simp only [Instr.findNow] at h
  simp only [mat]
  cases hb : Instr.sameNow d u en.key with
  | none => rw [hb] at h; cases h
  | some b =>
   rw [hb] at h
   rw [← hs b hb]
   cases b with
   | true =>
    injection h with h; subst h
    refine ⟨en, Nat.le_refl _, by simp, rfl, h1.2, ?_⟩
    have := Ty.beq_eq hk.cmp (hs true hb).symm
    exact (h1.1.same hk.cmp (this ▸ hu))
   | false => exact (now_run hd hk hu (i + 1) h2 h).tail
theorem find_run {κ : Ty} {α : Type} {V : α → Value → Prop} {kt : TypeId} (hk : KeyOk P κ kt) {k : κ.T} {u : Value} (hu : PVal w M κ k u) {l : List (κ.T × α)} {es : List MapEntry} (h : All2 (EnV w M κ V) l es) :
  ∃ r, (Instr.findKey kt u es).run P w = .ok r w ∧ Fnd V es u 0 (mat κ.beq k l 0) r := by
 obtain ⟨d, hd⟩ : ∃ d, P.underlying kt = some d := by
  cases hu : P.underlying kt with
  | some e => exact ⟨e, rfl⟩
  | none => have := hk.ks; simp [eqk, hu] at this
 unfold Instr.findKey
 simp only [Sem.run_bind, run_underlying hd, Result.andThen_ok]
 cases hn : Instr.findNow d u es 0 with
 | some r => exact ⟨r, rfl, now_run hd hk hu 0 h hn⟩
 | none => exact ask_run hk hu 0 h

theorem put_some {κ ν : Ty} (hc : κ.cmp = true) {k : κ.T} {u : Value} {x : ν.T} {v : Value} (hu : PVal w M κ k u) (hv : PVal w M ν x v) : ∀ {l : List (κ.T × ν.T)} {es : List MapEntry} {i j : Nat} {y : ν.T}, All2 (EnR w M κ ν) l es →
  mat κ.beq k l i = some (j, y) → i ≤ j ∧ All2 (EnR w M κ ν) (mput κ.beq k x l) (es.modify (j - i) fun e => { e with key := u, val := v })
 | _, _, i, j, y, .nil, h => by cases h
 | p :: l, en :: es, i, j, y, .cons h1 h2, h => by
  simp only [mat] at h
  simp only [mput]
  split at h
  ·rename_i hb
   injection h with h; injection h with h h'; subst h
   rw [if_pos hb, Nat.sub_self]
   exact ⟨Nat.le_refl _, .cons ⟨hu, hv⟩ h2⟩
  ·rename_i hb
   obtain ⟨g1, g2⟩ := put_some hc hu hv h2 h
   rw [if_neg hb, show j - i = (j - (i + 1)) + 1 by omega]
   exact ⟨by omega, .cons h1 g2⟩
theorem put_none {κ ν : Ty} {k : κ.T} {u : Value} {x : ν.T} {v : Value} {b : Nat} (hu : PVal w M κ k u) (hv : PVal w M ν x v) : ∀ {l : List (κ.T × ν.T)} {es : List MapEntry} {i : Nat}, All2 (EnR w M κ ν) l es →
  mat κ.beq k l i = none → All2 (EnR w M κ ν) (mput κ.beq k x l) (es ++ [{ key := u, val := v, born := b }])
 | _, _, i, .nil, h => .cons ⟨hu, hv⟩ .nil
 | p :: l, en :: es, i, .cons h1 h2, h => by
  simp only [mat] at h
  simp only [mput]
  split at h
  ·cases h
  ·rename_i hb
   rw [if_neg hb]
   exact .cons h1 (put_none hu hv h2 h)
end

section
variable {X : Cx} {β : Bt} {σ : St} {a : Act} {w : World} {G : List (Nat × Bool)}
theorem arg1_sound {M : CM} {D : Nat → Prop} {τ : Ty} {x : TV} {v : τ.T} {u : Value} (h : arg1 τ x = some v) (hx : VT w M β D x u) : PVal w M τ v u := by
 unfold arg1 at h
 split at h
 ·split at h
  ·cases h
  ·rename_i ha
   obtain ⟨h1, h2⟩ := plainC_sound h (VT.cells hx)
   exact ⟨fun h => absurd h ha, fun _ => VL.one hx, h1, h2⟩
 ·split at h
  ·rename_i ha
   obtain ⟨h1, h2⟩ := plainC_sound h (VT.cells hx)
   obtain ⟨arr, rfl, _⟩ := hx
   exact ⟨fun _ => ⟨arr, rfl⟩, (fun h => by rw [ha] at h; cases h), h1, h2⟩
  ·cases h
theorem tvOf_sound {w : World} {M : CM} {β : Bt} {D : Nat → Prop} {τ : Ty} {v : τ.T} {u : Value} (h : PVal w M τ v u) : VT w M β D (tvOf τ v) u := by
 obtain ⟨h1, h2, h3, h4⟩ := h
 unfold tvOf
 cases hag : τ.ag with
 | true =>
  obtain ⟨arr, rfl⟩ := h1 hag
  refine ⟨arr, rfl, ?_⟩
  refine All2.of_get (by rw [dcells_len]; exact h3.symm) fun i x y hx hy => ?_
  have hi : i < τ.size := by
   have := (List.getElem?_eq_some_iff.1 hx).1
   rwa [dcells_len] at this
  rw [dcells_get _ _ _ _ hi, Nat.zero_add] at hx
  injection hx with hx; subst hx
  exact .d (h4 i y hy)
 | false =>
  have h5 := one_cells (h2 hag)
  exact .d (h4 0 u (by rw [h5]; rfl))
theorem getMap_run {k : Nat} {es : Array MapEntry} {clock : Nat} (h : w.heap[k]? = some (.map es clock)) : (getObj k).run P w = .ok (.map es clock) w := by simp [getObj, Sem.run, h]
theorem mapAt_sound (R : Rel X β σ a w) {κ ν : Ty} {n : Nat} {l : List (κ.T × ν.T)} (h : mapAt (look σ.h) κ ν n = some l) : look σ.h n = some (.mp κ ν l) ∧
  ∃ k es clock, β.o n = none ∧ β n = some k ∧ w.heap[k]? = some (.map es clock) ∧ All2 (EnR w (Mt β (look σ.h)) κ ν) l es.toList := by
 unfold mapAt at h
 split at h
 ·rename_i κ' ν' l' hn
  split at h
  ·rename_i e1 e2 _ _
   subst e1 e2
   injection h with h; subst h
   exact ⟨hn, R.hr.blk n _ hn⟩
  ·cases h
 ·cases h

theorem good_make (R : Rel X β σ a w) {o : Oper} {t : TypeId} (ho : o.op = .makeMap t none) {r : Res} (h : aMake L σ t o.dst = some r) : OpGood P X σ a w o r := by
 unfold aMake at h
 split at h
 ·rename_i y d hy hd
  split at h
  ·rename_i κ ν hm hn
   obtain rfl := Option.some.inj h
   have hno : ∀ o0, look σ.h (md d) = some o0 → False := fun o0 h => by rw [hn] at h; cases h
   obtain ⟨β', R', h2, h3, hev, hbe⟩ := R.set (md d) (.mp κ ν []) (fun o0 h => (hno o0 h).elim) (some w.heap.size) none (w' := w.alloc (.map #[] 0)) rfl rfl rfl (by simp)
    (fun k hk _ => heap_alloc_old w _ k hk) (fun o0 _ h => (hno o0 h).elim) (fun k hk => by injection hk with hk; subst hk; exact ⟨by simp, .inr (Nat.le_refl _)⟩)
    (fun o0 h => (hno o0 h).elim) (fun β' g1 g2 hev hbe => ⟨w.heap.size, #[], 0, g2, g1, heap_alloc_new w _, .nil⟩)
   refine ⟨.value (.map (some w.heap.size)), _, β', _, ?_, .inl rfl, R', .mp (by simp [dm, upds, look_cons]) h3 h2, by simp⟩
   simp [execOp, ho, Instr.makeMap, Result.andThen]
  ·rename_i z hm hf hn
   obtain rfl := Option.some.inj h
   have hno : ∀ o0, look σ.h (md d) = some o0 → False := fun o0 h => by rw [hn] at h; cases h
   obtain ⟨β', R', h2, h3, hev, hbe⟩ := R.set (md d) (.fm []) (fun o0 h => (hno o0 h).elim) (some w.heap.size) none (w' := w.alloc (.map #[] 0)) rfl rfl rfl (by simp)
    (fun k hk _ => heap_alloc_old w _ k hk) (fun o0 _ h => (hno o0 h).elim) (fun k hk => by injection hk with hk; subst hk; exact ⟨by simp, .inr (Nat.le_refl _)⟩)
    (fun o0 h => (hno o0 h).elim) (fun β' g1 g2 hev hbe => ⟨w.heap.size, #[], 0, g2, g1, heap_alloc_new w _, .nil⟩)
   refine ⟨.value (.map (some w.heap.size)), _, β', _, ?_, .inl rfl, R', .mp (by simp [dm, upds, look_cons]) h3 h2, by simp⟩
   simp [execOp, ho, Instr.makeMap, Result.andThen]
  ·cases h
 ·cases h

theorem good_look (hL : LOk P L) (R : Rel X β σ a w) (hG : GOk a G) {o : Oper} {t : TypeId} {m k : Operand} {ok : Bool} (ho : o.op = .lookup t m k ok) {r : Res} (h : aLook L G σ t m k ok = some r) : OpGood P X σ a w o r := by
 unfold aLook at h
 split at h
 ·rename_i y n kx hy hm hk
  split at h
  ·rename_i κ ν hmp
   split at h
   ·rename_i l x hl hx
    obtain ⟨kt, et, z, hu, hkey, hz, hz0⟩ := (hL t y hy).mpt κ ν hmp
    obtain ⟨hn, b, es, clock, h0, h1, h2, h3⟩ := mapAt_sound R hl
    have hxv := arg1_sound hx (opS_sound R hG hk)
    have hmv := opT_sound R hG hm
    generalize hem : a.eval m = vm at hmv
    generalize hek : a.eval k = vk at hxv
    cases hmv with
    | mp g1 g2 g3 =>
    obtain rfl := Option.some.inj (h1.symm.trans g3)
    obtain ⟨q, hq1, hq2⟩ := find_run (V := PVal w (Mt β (look σ.h)) ν) hkey hxv h3
    have hchk := hxv.check hkey (em := es.isEmpty)
    have hval : ∃ v, PVal w (Mt β (look σ.h)) ν ((mget κ.beq x l).getD ν.d0) v ∧ (Instr.lookup t (.map (some b)) vk ok).run P w = .ok (if ok then .tuple #[v, .bool (mget κ.beq x l).isSome] else v) w := by
     rw [mget_mat (i := 0)]
     cases hmat : mat κ.beq x l 0 with
     | none =>
      rw [hmat] at hq2
      have hq2 : q = none := hq2
      subst hq2
      refine ⟨z, hz0 _ _, ?_⟩
      simp [Instr.lookup, run_underlying hu, getMap_run h2, hchk, hq1, hz, Result.andThen]
     | some p =>
      obtain ⟨j, y'⟩ := p
      rw [hmat] at hq2
      obtain ⟨en, _, g4, g5, g6, _⟩ := hq2
      subst g5
      refine ⟨en.val, g6, ?_⟩
      simp [Instr.lookup, run_underlying hu, getMap_run h2, hchk, hq1, Result.andThen]
    obtain ⟨v, hv, hrun⟩ := hval
    have hexec : (execOp a.eval o).run P w = .ok (.value (if ok then .tuple #[v, .bool (mget κ.beq x l).isSome] else v)) w := by
     simp [execOp, ho, hem, hek, hrun]
    split at h
    ·rename_i hok
     obtain rfl := Option.some.inj h
     rw [if_pos hok] at hexec
     exact OpGood.pure R hexec rfl ⟨_, rfl, .cons (tvOf_sound hv) (.cons (VT.lit rfl) .nil)⟩ (by simp)
    ·rename_i hok
     obtain rfl := Option.some.inj h
     rw [if_neg hok] at hexec
     exact OpGood.pure R hexec rfl (tvOf_sound hv) (by simp)
   ·cases h
  ·cases h
 ·cases h

theorem good_upd (hL : LOk P L) (R : Rel X β σ a w) (hG : GOk a G) {o : Oper} {t : TypeId} {m k x : Operand} (ho : o.op = .mapUpdate t m k x ∨ o.op = .insert t m k x) {r : Res} (h : aUpd L G σ t m k x = some r) : OpGood P X σ a w o r := by
 unfold aUpd at h
 split at h
 ·rename_i y n kx xx hy hm hk hxx
  split at h
  ·rename_i κ ν hmp
   split at h
   ·rename_i l kk xv hl hkk hxv
    obtain rfl := Option.some.inj h
    obtain ⟨kt, et, z, hu, hkey, hz, hz0⟩ := (hL t y hy).mpt κ ν hmp
    obtain ⟨hn, b, es, clock, h0, h1, h2, h3⟩ := mapAt_sound R hl
    have hkv := arg1_sound hkk (opS_sound R hG hk)
    have hvv := arg1_sound hxv (opS_sound R hG hxx)
    have hmv := opT_sound R hG hm
    generalize hem : a.eval m = vm at hmv
    generalize hek : a.eval k = vk at hkv
    generalize hex : a.eval x = vx at hvv
    cases hmv with
    | mp g1 g2 g3 =>
    obtain rfl := Option.some.inj (h1.symm.trans g3)
    obtain ⟨q, hq1, hq2⟩ := find_run (V := PVal w (Mt β (look σ.h)) ν) hkey hkv h3
    have hchk := hkv.check hkey (em := false)
    have hlt : b < w.heap.size := (Array.getElem?_eq_some_iff.1 h2).1
    have hval : ∃ es' clock', All2 (EnR w (Mt β (look σ.h)) κ ν) (mput κ.beq kk xv l) es'.toList ∧ (Instr.mapUpdate t (.map (some b)) vk vx).run P w = .ok () { w with heap := w.heap.setIfInBounds b (.map es' clock') } := by
     cases hmat : mat κ.beq kk l 0 with
     | none =>
      rw [hmat] at hq2
      have hq2 : q = none := hq2
      subst hq2
      refine ⟨es.push { key := vk, val := vx, born := clock }, clock + 1, by rw [Array.toList_push]; exact put_none hkv hvv h3 hmat, ?_⟩
      simp [Instr.mapUpdate, run_underlying hu, getMap_run h2, hchk, hq1, setObj, Sem.run, h2, Result.andThen]
     | some p =>
      obtain ⟨j, y'⟩ := p
      have hput := (put_some hkey.cmp hkv hvv h3 hmat).2
      rw [hmat] at hq2
      obtain ⟨en, _, g4, g5, g6, g7⟩ := hq2
      subst g5
      have hj : es[j]? = some en := by simpa using g4
      have hst : (Instr.keyThatStays (((es[j]?).map (·.key)).getD vk) vk).run P w = .ok vk w := by
       rw [hj]
       simp [Instr.keyThatStays, g7, hkv.bits hkey.cmp]
      refine ⟨es.modify j fun e => { e with key := vk, val := vx }, clock, by simpa [Array.toList_modify] using hput, ?_⟩
      simp [Instr.mapUpdate, run_underlying hu, getMap_run h2, hchk, hq1, hst, setObj, Sem.run, h2, Result.andThen]
    obtain ⟨es', clock', hall, hrun⟩ := hval
    obtain ⟨β', R', _⟩ := R.set n (.mp κ ν (mput κ.beq kk xv l)) (fun o0 h => by rw [hn] at h; injection h with h; subst h; rfl) (some b) none (w' := { w with heap := w.heap.setIfInBounds b (.map es' clock') }) rfl rfl rfl (by simp)
     (fun j _ hj => by
      have hne : b ≠ j := fun e => hj _ hn (e ▸ h1)
      simp [hne])
     (fun o0 p h _ hmut => by rw [hn] at h; injection h with h; subst h; exact absurd trivial hmut)
     (fun j hj => by injection hj with hj; subst hj; exact ⟨by simpa using hlt, .inl ⟨_, hn, h1, fun _ _ => trivial⟩⟩)
     (fun o0 h => ⟨fun _ => ⟨rfl, h1.symm⟩, fun u hu => by rw [h0] at hu; cases hu⟩)
     (fun β' g1 g2 hev hbe => ⟨b, es', clock', g2, g1, by simp [hlt], hall.mono fun _ _ _ h => ⟨h.1.evo hev, h.2.evo hev⟩⟩)
    refine ⟨.skip, _, β', undef, ?_, .inr ⟨rfl, rfl⟩, R', ⟨#[], rfl, .nil⟩, by simp⟩
    rcases ho with ho | ho <;> simp [execOp, ho, hem, hek, hex, hrun]
   ·cases h
  ·cases h
 ·cases h
theorem PVal.i64 {w : World} {M : CM} (n : Int) : PVal w M (.ti .i64) n (.int .i64 n) :=
 ⟨(fun h => by cases h), fun _ => rfl, rfl, fun j x hx => by
  cases j with
  | zero => injection hx with hx; subst hx; exact .lit rfl
  | succ j => cases hx⟩
theorem keysNe_mat {x : Int} : ∀ {l : List (Int × TV)} {i : Nat}, (∀ c ∈ keysNe x l, c) → mat (Ty.beq (.ti .i64)) x l i = none
 | [], _, _ => rfl
 | p :: l, i, h => by
  have h1 : x ≠ p.1 := h _ (List.mem_cons_self ..)
  have hb : Ty.beq (.ti .i64) x p.1 = false := by
   show (x == p.1) = false
   simpa using h1
  simp only [mat]
  rw [hb]
  exact keysNe_mat fun c hc => h c (List.mem_cons_of_mem _ hc)
theorem good_lookF (hL : LOk P L) (R : Rel X β σ a w) (hG : GOk a G) {o : Oper} {t : TypeId} {m k : Operand} {ok : Bool} (ho : o.op = .lookup t m k ok) {r : Res} (h : aLookF L G σ t m k ok = some r) (hc : ∀ c ∈ r.c, c) : OpGood P X σ a w o r := by
 unfold aLookF at h
 split at h
 ·rename_i y n kx hy hm hk
  split at h
  ·rename_i z l hz hn
   obtain ⟨kt, et, v, hu, hkey, hzv, hzt⟩ := (hL t y hy).fmt z hz
   obtain ⟨b, es, clock, h0, h1, h2, h3⟩ := R.hr.blk n _ hn
   have hmv := opT_sound R hG hm
   have hkv := opT_sound R hG hk
   generalize hem : a.eval m = vm at hmv
   generalize hek : a.eval k = vk at hkv
   cases hmv with
   | mp g1 g2 g3 =>
   obtain rfl := Option.some.inj (h1.symm.trans g3)
   have done : ∀ (x : Int), vk = .int .i64 x → ∃ vx, (match mat (Ty.beq (.ti .i64)) x l 0 with | some p => VT w (Mt β (look σ.h)) β (dm (look σ.h)) p.2 vx | none => vx = v) ∧
     (execOp a.eval o).run P w = .ok (.value (if ok then .tuple #[vx, .bool (mat (Ty.beq (.ti .i64)) x l 0).isSome] else vx)) w := by
    intro x hx
    subst hx
    have hxv := PVal.i64 (w := w) (M := Mt β (look σ.h)) x
    obtain ⟨q, hq1, hq2⟩ := find_run (κ := .ti .i64) (V := VT w (Mt β (look σ.h)) β (dm (look σ.h))) hkey hxv h3
    have hchk := hxv.check hkey (em := es.isEmpty)
    cases hmat : mat (Ty.beq (.ti .i64)) x l 0 with
    | none =>
     rw [hmat] at hq2
     have hq2 : q = none := hq2
     subst hq2
     refine ⟨v, rfl, ?_⟩
     simp [execOp, ho, hem, hek, Instr.lookup, run_underlying hu, getMap_run h2, hchk, hq1, hzv, Result.andThen]
    | some p =>
     obtain ⟨j, y'⟩ := p
     rw [hmat] at hq2
     obtain ⟨en, _, g4, g5, g6, _⟩ := hq2
     subst g5
     refine ⟨en.val, g6, ?_⟩
     simp [execOp, ho, hem, hek, Instr.lookup, run_underlying hu, getMap_run h2, hchk, hq1, Result.andThen]
   have fin : ∀ (x : TV) (bb : Bool) (vx : Value), VT w (Mt β (look σ.h)) β (dm (look σ.h)) x vx → (execOp a.eval o).run P w = .ok (.value (if ok then .tuple #[vx, .bool bb] else vx)) w → r.v = resF ok x bb → r.h = [] → r.f = [] → OpGood P X σ a w o r := by
    intro x bb vx hx hexec e1 e2 e3
    refine OpGood.pure R hexec e2 ?_ (by rw [e3]; simp)
    rw [e1]
    cases ok with
    | true => exact ⟨_, rfl, .cons hx (.cons (VT.lit rfl) .nil)⟩
    | false => exact hx
   split at h
   ·rename_i v'
    cases hkv with
    | kn =>
    obtain ⟨vx, d1, d2⟩ := done v' rfl
    split at h
    ·rename_i x hx
     obtain rfl := Option.some.inj h
     have hx := (show mget (Ty.beq (.ti .i64)) v' l = (mat (Ty.beq (.ti .i64)) v' l 0).map (·.2) from mget_mat).symm.trans hx
     cases hmat : mat (Ty.beq (.ti .i64)) v' l 0 with
     | none => rw [hmat] at hx; cases hx
     | some p =>
      rw [hmat] at hx d1 d2
      injection hx with hx
      subst hx
      exact fin _ true vx d1 d2 rfl rfl rfl
    ·rename_i hx
     obtain rfl := Option.some.inj h
     have hx := (show mget (Ty.beq (.ti .i64)) v' l = (mat (Ty.beq (.ti .i64)) v' l 0).map (·.2) from mget_mat).symm.trans hx
     cases hmat : mat (Ty.beq (.ti .i64)) v' l 0 with
     | some p => rw [hmat] at hx; cases hx
     | none =>
      rw [hmat] at d1 d2
      subst d1
      exact fin _ false _ (hzt _ _ _ _) d2 rfl rfl rfl
   ·rename_i x
    obtain rfl := Option.some.inj h
    have hx := VT.int hkv
    obtain ⟨vx, d1, d2⟩ := done x hx
    rw [keysNe_mat hc] at d1 d2
    subst d1
    exact fin _ false _ (hzt _ _ _ _) d2 rfl rfl rfl
   ·cases h
  ·cases h
 ·cases h
theorem good_look2 (hL : LOk P L) (R : Rel X β σ a w) (hG : GOk a G) {o : Oper} {t : TypeId} {m k : Operand} {ok : Bool} (ho : o.op = .lookup t m k ok) {r : Res} (h : (match aLook L G σ t m k ok with
  | some r => some r
  | none => aLookF L G σ t m k ok) = some r) (hc : ∀ c ∈ r.c, c) : OpGood P X σ a w o r := by
 split at h
 ·rename_i r' hr
  obtain rfl := Option.some.inj h
  exact good_look hL R hG ho hr
 ·exact good_lookF hL R hG ho h hc
theorem good_updF (hL : LOk P L) (R : Rel X β σ a w) (hG : GOk a G) {o : Oper} {t : TypeId} {m k x : Operand} (ho : o.op = .mapUpdate t m k x ∨ o.op = .insert t m k x) {r : Res} (h : aUpdF L G σ t m k x = some r) (hc : ∀ c ∈ r.c, c) : OpGood P X σ a w o r := by
 unfold aUpdF at h
 split at h
 ·rename_i y n kx xx hy hm hk hxx
  split at h
  ·rename_i z l hz hn
   split at h
   ·rename_i kk
    obtain rfl := Option.some.inj h
    obtain ⟨kt, et, z', hu, hkey, _, _⟩ := (hL t y hy).fmt z hz
    obtain ⟨b, es, clock, h0, h1, h2, h3⟩ := R.hr.blk n _ hn
    have hkv := opS_sound R hG hk
    have hvv := opT_sound R hG hxx
    have hmv := opT_sound R hG hm
    generalize hem : a.eval m = vm at hmv
    generalize hek : a.eval k = vk at hkv
    generalize hex : a.eval x = vx at hvv
    obtain rfl := VT.int hkv
    have hkv := PVal.i64 (w := w) (M := Mt β (look σ.h)) kk
    cases hmv with
    | mp g1 g2 g3 =>
    obtain rfl := Option.some.inj (h1.symm.trans g3)
    obtain ⟨q, hq1, hq2⟩ := find_run (κ := .ti .i64) (V := VT w (Mt β (look σ.h)) β (dm (look σ.h))) hkey hkv h3
    have hchk := hkv.check hkey (em := false)
    have hlt : b < w.heap.size := (Array.getElem?_eq_some_iff.1 h2).1
    rw [keysNe_mat hc] at hq2
    have hq2 : q = none := hq2
    subst hq2
    have hall : All2 (EnV w (Mt β (look σ.h)) (.ti .i64) (VT w (Mt β (look σ.h)) β (dm (look σ.h)))) (l ++ [(kk, xx)]) (es.push { key := .int .i64 kk, val := vx, born := clock }).toList := by
     rw [Array.toList_push]
     exact h3.append (.cons ⟨hkv, hvv⟩ .nil)
    have hrun : (Instr.mapUpdate t (.map (some b)) (.int .i64 kk) vx).run P w = .ok () { w with heap := w.heap.setIfInBounds b (.map (es.push { key := .int .i64 kk, val := vx, born := clock }) (clock + 1)) } := by
     simp [Instr.mapUpdate, run_underlying hu, getMap_run h2, hchk, hq1, setObj, Sem.run, h2, Result.andThen]
    obtain ⟨β', R', _⟩ := R.set n (.fm (l ++ [(kk, xx)])) (fun o0 h => by rw [hn] at h; injection h with h; subst h; rfl) (some b) none (w' := { w with heap := w.heap.setIfInBounds b (.map (es.push { key := .int .i64 kk, val := vx, born := clock }) (clock + 1)) }) rfl rfl rfl (by simp)
     (fun j _ hj => by
      have hne : b ≠ j := fun e => hj _ hn (e ▸ h1)
      simp [hne])
     (fun o0 p h _ hmut => by rw [hn] at h; injection h with h; subst h; exact absurd trivial hmut)
     (fun j hj => by injection hj with hj; subst hj; exact ⟨by simpa using hlt, .inl ⟨_, hn, h1, fun _ _ => trivial⟩⟩)
     (fun o0 h => ⟨fun _ => ⟨rfl, h1.symm⟩, fun u hu => by rw [h0] at hu; cases hu⟩)
     (fun β' g1 g2 hev hbe => ⟨b, _, clock + 1, g2, g1, by simp [hlt], hall.mono fun _ _ _ h => ⟨h.1.evo hev, VT.evo hev hbe h.2⟩⟩)
    refine ⟨.skip, _, β', undef, ?_, .inr ⟨rfl, rfl⟩, R', ⟨#[], rfl, .nil⟩, by simp⟩
    rcases ho with ho | ho <;> simp [execOp, ho, hem, hek, hex, hrun]
   ·cases h
  ·cases h
 ·cases h
theorem good_upd2 (hL : LOk P L) (R : Rel X β σ a w) (hG : GOk a G) {o : Oper} {t : TypeId} {m k x : Operand} (ho : o.op = .mapUpdate t m k x ∨ o.op = .insert t m k x) {r : Res} (h : (match aUpd L G σ t m k x with
  | some r => some r
  | none => aUpdF L G σ t m k x) = some r) (hc : ∀ c ∈ r.c, c) : OpGood P X σ a w o r := by
 split at h
 ·rename_i r' hr
  obtain rfl := Option.some.inj h
  exact good_upd hL R hG ho hr
 ·exact good_updF hL R hG ho h hc
end
end Go.Sy
namespace Go.Sy
variable {P : Program} {L : Nat → Option Lay}

/-! texts -/
section
variable {X : Cx} {β : Bt} {σ : St} {a : Act} {w : World} {G : List (Nat × Bool)}

theorem VT.str {M : CM} {D : Nat → Prop} {v : Value} {q : ByteArray} (h : VT w M β D (.one (.d (.lit (.string q)))) v) : v = .string q := by
 cases h with | d h => cases h; rfl
theorem fr_push {w w' : World} (h1 : w'.os = w.os) (h2 : w'.tape = w.tape) (h3 : w'.output = w.output) {o : Obj} (h4 : w'.heap = w.heap.push o) : Fr (fun _ => False) w w' :=
 ⟨h1, h2, h3, by rw [h4]; simp, fun k hk _ => by rw [h4, Array.getElem?_push, if_neg (by omega)]⟩
theorem vd_push (R : Rel X β σ a w) {w' : World} {k : IntKind} {l : List Int} {arr : Array Value} {e : TypeId} {fz : Nat × Nat} {cap : Nat} (hh : w'.heap = w.heap.push (.cells arr e fz)) (hl : l.length ≤ cap) (hm : cap ≤ maxLen)
  (hc : ∀ i, i < l.length → arr[i]? = some (.int k (l.getD i 0))) : VD w' (Mt β (look σ.h)) (.sl (.ti k) l) (.slice (some ⟨w.heap.size, 0, none⟩) l.length cap) := by
 have hn : ∀ off, ¬ Mt β (look σ.h) w.heap.size off := fun off h => by
  rcases h with h | ⟨n, o, h1, h2⟩
  ·have := R.hr.m0 _ _ h; omega
  ·have := R.hr.lt n w.heap.size (by rw [h1]; simp) (h2.elim (fun h => .inl h.1) fun h => .inr ⟨off, h⟩)
   omega
 refine .sl (fun i _ => .int k (l.getD i 0)) Nat.one_pos (fun i _ => by rw [hh]; simp) hl hm (fun i j _ _ => hn _) (fun i j hi hj => ?_) (fun i j hi hj => ?_)
 ·have hj0 : j = 0 := by simp only [Ty.size] at hj; omega
  subst hj0
  have e1 : ((⟨w.heap.size, 0, none⟩ : Addr).add (i * (Ty.ti k).size + 0)) = ⟨w.heap.size, i, none⟩ := by
   rw [Addr.add_lit]; simp [Ty.size]
  rw [e1]
  unfold World.cell?
  rw [hh]
  simp only [Array.getElem?_push_size]
  simpa using hc i hi
 ·have hj0 : j = 0 := by simp only [Ty.size] at hj; omega
  subst hj0
  exact .lit rfl

theorem strB_get {q : ByteArray} {i : Nat} (h : i < q.data.size) : (strB q).getD i 0 = (q.data[i].toNat : Int) := by
 unfold strB
 rw [List.getD_eq_getElem?_getD, List.getElem?_map, List.getElem?_eq_getElem (by simpa using h)]
 simp
theorem runesFrom_int (q : ByteArray) : ∀ (b i : Nat) (acc : Array Value), (∀ v ∈ acc.toList, ∃ n, v = .int .i32 n) → ∀ v ∈ (Conv.runesFrom q b i acc).toList, ∃ n, v = .int .i32 n
 | 0, _, acc, h => by simpa [Conv.runesFrom] using h
 | b + 1, i, acc, h => by
  unfold Conv.runesFrom
  split
  ·refine runesFrom_int q b _ _ fun v hv => ?_
   simp only [Array.toList_push, List.mem_append, List.mem_singleton] at hv
   rcases hv with hv | hv
   ·exact h v hv
   ·exact ⟨_, hv⟩
  ·exact h
theorem strR_cells (q : ByteArray) {i : Nat} (h : i < (strR q).length) : (Conv.runesFrom q q.size 0 #[])[i]? = some (.int .i32 ((strR q).getD i 0)) := by
 have hl : i < (Conv.runesFrom q q.size 0 #[]).size := by unfold strR at h; simpa using h
 obtain ⟨n, hn⟩ := runesFrom_int q q.size 0 #[] (fun v hv => by simp at hv) (Conv.runesFrom q q.size 0 #[])[i] (by simp)
 rw [Array.getElem?_eq_getElem hl, hn]
 unfold strR
 rw [List.getD_eq_getElem?_getD, List.getElem?_map, List.getElem?_eq_getElem (by simpa using hl)]
 simp [hn]
theorem strR_len (q : ByteArray) : (strR q).length = (Conv.runesFrom q q.size 0 #[]).size := by unfold strR; simp
theorem foldl_push : ∀ (l : List Int) (r : ByteArray), l.foldl (fun r n => r.push (UInt8.ofNat n.toNat)) r = ⟨r.data ++ (l.map fun n => UInt8.ofNat n.toNat).toArray⟩
 | [], r => by simp
 | n :: l, r => by
  simp only [List.foldl_cons, List.map_cons]
  rw [foldl_push l]
  simp [ByteArray.push]

theorem good_convS (hL : LOk P L) (R : Rel X β σ a w) (hG : GOk a G) {o : Oper} {s t : TypeId} {p : Operand} (ho : o.op = .convert s t p) {r : Res} (h : aConvS L G σ s t p = some r) (hc : ∀ c ∈ r.c, c) : OpGood P X σ a w o r := by
 unfold aConvS at h
 split at h
 ·rename_i y z q hy hz hp
  have hv := VT.str (opS_sound R hG hp)
  split at h
  ·rename_i h1 h2
   obtain rfl := Option.some.inj h
   have u1 := (hL s y hy).sk.1 h1
   have u2 := (hL t z hz).sk.1 h2
   refine OpGood.pure R (v := .string q) ?_ rfl (VT.lit rfl) (by simp)
   simp [execOp, ho, hv, convert, run_underlying u1, run_underlying u2]
  ·rename_i h1 h2
   obtain rfl := Option.some.inj h
   have u1 := (hL s y hy).sk.1 h1
   obtain ⟨e, u2, u3⟩ := (hL t z hz).sk.2.1 h2
   have hq : q.size ≤ 9223372036854775807 := hc _ (.head _)
   have hr := run_bytes_of_string (P := P) w s t e q u1 u2 u3
   have hge := grownCap_ge w q.size 0 e
   have hcm := grownCap_le_maxLen w q.size 0 e (by unfold maxLen; omega)
   obtain ⟨R', ev⟩ := R.grew (w' := w.drew.alloc (.cells (bytesRow q (grownCap w q.size 0 e)) e ((bytesRow q (grownCap w q.size 0 e)).size, (bytesRow q (grownCap w q.size 0 e)).size + 1))) (fr_push rfl rfl rfl rfl)
   refine ⟨.value (.slice (some ⟨w.heap.size, 0, none⟩) q.size (grownCap w q.size 0 e)), _, β, _, by simp [execOp, ho, hv, hr], .inl rfl, R', ?_, by simp⟩
   have hl := strB_len q
   have := vd_push R (k := .u8) (l := strB q) (arr := bytesRow q (grownCap w q.size 0 e)) (e := e) (fz := ((bytesRow q (grownCap w q.size 0 e)).size, (bytesRow q (grownCap w q.size 0 e)).size + 1)) (cap := grownCap w q.size 0 e)
    (w' := w.drew.alloc (.cells (bytesRow q (grownCap w q.size 0 e)) e ((bytesRow q (grownCap w q.size 0 e)).size, (bytesRow q (grownCap w q.size 0 e)).size + 1))) rfl (by omega) hcm (fun i hi => by
     have hi' : i < q.data.size := by rw [hl] at hi; exact hi
     rw [strB_get hi']; exact bytesRow_at q _ i hi')
   rw [hl] at this
   exact VL.d this
  ·rename_i h1 h2
   obtain rfl := Option.some.inj h
   have u1 := (hL s y hy).sk.1 h1
   obtain ⟨e, u2, u3⟩ := (hL t z hz).sk.2.2 h2
   have hq : q.size ≤ 70368744177664 := hc _ (.head _)
   have hrs := size_runesFrom q q.size 0 #[]
   simp only [List.size_toArray, List.length_nil, Nat.zero_add] at hrs
   have hr := run_runes_of_string (P := P) w s t e q u1 u2 u3 (by omega)
   have hge := grownCap_ge w (Conv.runesFrom q q.size 0 #[]).size 0 e
   have hcm := grownCap_le_maxLen w (Conv.runesFrom q q.size 0 #[]).size 0 e (by unfold maxLen; omega)
   have hl := strR_len q
   generalize grownCap w (Conv.runesFrom q q.size 0 #[]).size 0 e = cap at hr hge hcm
   obtain ⟨R', ev⟩ := R.grew (w' := w.drew.alloc (.cells (Conv.runesFrom q q.size 0 #[] ++ Array.replicate (cap - (Conv.runesFrom q q.size 0 #[]).size) (.int .i32 0)) e)) (fr_push rfl rfl rfl rfl)
   refine ⟨.value (.slice (some ⟨w.heap.size, 0, none⟩) (Conv.runesFrom q q.size 0 #[]).size cap), _, β, _, by simp [execOp, ho, hv, hr], .inl rfl, R', ?_, by simp⟩
   have := vd_push R (k := .i32) (l := strR q) (arr := Conv.runesFrom q q.size 0 #[] ++ Array.replicate (cap - (Conv.runesFrom q q.size 0 #[]).size) (.int .i32 0)) (e := e) (fz := (0, 0)) (cap := cap)
    (w' := w.drew.alloc (.cells (Conv.runesFrom q q.size 0 #[] ++ Array.replicate (cap - (Conv.runesFrom q q.size 0 #[]).size) (.int .i32 0)) e)) rfl (by omega) hcm (fun i hi => by
     have hi' : i < (Conv.runesFrom q q.size 0 #[]).size := by rw [← hl]; exact hi
     rw [Array.getElem?_append_left hi']; exact strR_cells q hi)
   rw [hl] at this
   exact VL.d this
  ·cases h
 ·rename_i y z τ l hy hz hp
  split at h
  ·rename_i h1 h2
   split at h
   ·rename_i l' hl'
    obtain rfl := Option.some.inj h
    obtain ⟨e, u1, u3⟩ := (hL s y hy).sk.2.1 h1
    have u2 := (hL t z hz).sk.1 h2
    have hvd : VD w (Mt β (look σ.h)) (.sl τ l) (a.eval p) := by
     have := opS_sound R hG hp
     cases this with | d h => exact h
    obtain ⟨ad, cap, cs, hev, hcl, hnil, hone, hcell, hval⟩ := (asL_sound hl' hvd).row
    have hcl1 : cs.length = (show List Int from l').length := by rw [hcl]; exact Nat.mul_one _
    have hcs : cs = (show List Int from l').map fun n => Value.int .u8 n := by
     refine List.ext_getElem? fun i => ?_
     by_cases hi : i < cs.length
     ·have hi' : i < (show List Int from l').length := by omega
      have h3 := hval i 0 cs[i] hi' Nat.one_pos (by
       have : i * (Ty.ti IntKind.u8).size + 0 = i := Nat.mul_one i
       rw [this]; exact List.getElem?_eq_getElem hi)
      rw [List.getElem?_eq_getElem hi, List.getElem?_map, List.getElem?_eq_getElem hi']
      have h4 : (show List Int from l').getD i 0 = (show List Int from l')[i] := by rw [List.getD_eq_getElem?_getD, List.getElem?_eq_getElem hi']; rfl
      have h5 : VD w (Mt β (look σ.h)) (.lit (.int .u8 ((show List Int from l').getD i 0))) cs[i] := h3
      rw [h4] at h5
      generalize cs[i] = u at h5
      cases h5; rfl
     ·rw [List.getElem?_eq_none (by omega), List.getElem?_eq_none (by rw [List.length_map]; omega)]
    refine OpGood.pure R (v := .string (bStr l')) ?_ rfl (VT.lit rfl) (by simp)
    have hrun := run_convert_bytes_string (P := P) w s t e ad (show List Int from l').length cap u1 u3 u2
    have hev' : a.eval p = .slice ad (show List Int from l').length cap := hev
    cases ad with
    | none =>
     obtain ⟨h5, _⟩ := hnil rfl
     have h6 : bStr l' = ByteArray.empty := by
      have : (show List Int from l') = [] := h5
      unfold bStr; rw [this]; rfl
     simp [execOp, ho, hev', hrun, Conv.bytesToString, h6]
    | some ad =>
     have hld : (loadCells ad (show List Int from l').length).run P w = .ok ((show List Int from l').map (Value.int .u8)).toArray w := by
      have := run_firstCells_some (P := P) w 1 (show List Int from l').length ad (show List Int from l').length cap cs (by omega) (fun j u h => (hcell ad rfl j u h).1)
      simp only [Builtin.firstCells, Nat.mul_one] at this
      rw [this, hcs]
     have hb := run_bytesToString (P := P) w ad (show List Int from l').length cap (show List Int from l') hld
     rw [hb, foldl_push] at hrun
     simp only [execOp, ho, hev', hrun, Sem.run_bind, Result.andThen_ok, Sem.run_pure]
     unfold bStr
     simp
   ·cases h
  ·cases h
 ·cases h

theorem Rel.kill (R : Rel X β σ a w) {n e sz len : Nat} (hn : look σ.h n = some (.gr e sz len)) : ∃ β' : Bt, Rel X β' { σ with h := (n, .dead (len * sz)) :: σ.h } a w ∧ β'.o n = β.o n ∧
  Evo (Mt β (look σ.h)) (Mt β' (look ((n, HO.dead (len * sz)) :: σ.h))) w w ∧ BEvo β β' (dm (look σ.h)) (dm (look ((n, HO.dead (len * sz)) :: σ.h))) := by
 have hu : ∃ u, β.o n = some u ∧ hlen u ≤ maxLen := by
  rcases R.hr.blk n _ hn with ⟨h0, _⟩ | ⟨_, _, _, h0, _, _, h1, h2, _⟩
  ·exact ⟨_, h0, Nat.zero_le _⟩
  ·exact ⟨_, h0, Nat.le_trans h1 h2⟩
 obtain ⟨u, hu, hum⟩ := hu
 obtain ⟨β', h1, h2, h3, h4, h5⟩ := R.set n (.dead (len * sz)) (fun o0 h => by rw [hn] at h; injection h with h; subst h; rfl) (β n) (β.o n) (w' := w) rfl rfl rfl (Nat.le_refl _) (fun _ _ _ => rfl) (fun _ _ _ _ _ => rfl)
  (fun k hk => ⟨R.hr.lt n k (by rw [hn]; simp) (.inl hk), .inl ⟨_, hn, hk, fun _ h => h⟩⟩) (fun o0 _ => ⟨fun h => ⟨h, rfl⟩, fun u hu => ⟨u, hu, .inl rfl⟩⟩)
  (fun β' g1 g2 hev hbe => ⟨u, g2.trans hu, hum⟩)
 exact ⟨β', h1, h3, h4, h5⟩
theorem good_convB (hL : LOk P L) (R : Rel X β σ a w) (hG : GOk a G) {o : Oper} {s t : TypeId} {p : Operand} (ho : o.op = .convert s t p) {r : Res} (h : aConvB L G σ s t p = some r) (hc : ∀ c ∈ r.c, c) : OpGood P X σ a w o r := by
 unfold aConvB at h
 split at h
 ·rename_i y n l hy hp
  split at h
  ·rename_i e sz len hn
   split at h
   ·rename_i hs
    obtain ⟨rfl, hsk, rfl⟩ := hs
    obtain rfl := Option.some.inj h
    obtain ⟨e', u1, u3⟩ := (hL s y hy).sk.2.1 hsk
    have hln : (show List Int from l).length = len := hc _ (.head _)
    have hl1 : 1 ≤ (show List Int from l).length := hc _ (.tail _ (.head _))
    have hv := opT_sound R hG hp
    have hov : VD w (Mt β (look σ.h)) (.sl (.ti .u8) l) (a.eval p) ∧ OV β (dm (look σ.h)) n (a.eval p) := by
     generalize a.eval p = vp at hv
     cases hv with | own h1 h2 => exact ⟨h1, h2⟩
    obtain ⟨hvd, _, u, hu1, hu2, hu3⟩ := hov
    obtain ⟨ad, cap, cs, hev, hcl, hnil, hone, hcell, hval⟩ := hvd.row
    have hlv : hlen (a.eval p) = (show List Int from l).length := by rw [hev]; rfl
    rcases R.hr.blk n _ hn with ⟨g0, _, g2⟩ | ⟨k, c, arr, g0, g1, g2, g3, g4, g5⟩
    ·omega
    ·have hcur : a.eval p = u := by
      refine hu3 ?_
      rw [g0] at hu1; injection hu1 with hu1; subst hu1
      rw [hlv, hln]; rfl
     rw [g0] at hu1; injection hu1 with hu1
     rw [← hu1] at hcur
     have hlt := R.hr.lt n k (by rw [hn]; simp) (.inl g1)
     have hfr : ∀ j, (w.freeze ⟨k, arr.size, none⟩ 1).heap[j]? = if j = k then some (.cells arr e (arr.size, arr.size + 1)) else w.heap[j]? := fun j => by
      unfold World.freeze
      rw [if_neg (by decide)]
      simp only [Array.getElem?_modify]
      by_cases hj : k = j
      ·subst hj; rw [if_pos rfl, if_pos rfl, g2]; rfl
      ·rw [if_neg hj, if_neg fun e => hj e.symm]
     have hsz : (w.freeze ⟨k, arr.size, none⟩ 1).heap.size = w.heap.size := by unfold World.freeze; rw [if_neg (by decide)]; simp
     have hsy : (w.freeze ⟨k, arr.size, none⟩ 1).os = w.os ∧ (w.freeze ⟨k, arr.size, none⟩ 1).tape = w.tape ∧ (w.freeze ⟨k, arr.size, none⟩ 1).output = w.output := by unfold World.freeze; rw [if_neg (by decide)]; exact ⟨rfl, rfl, rfl⟩
     have hcl2 : ∀ q : Addr, (w.freeze ⟨k, arr.size, none⟩ 1).cell? q = w.cell? q := fun q => by
      unfold World.cell?
      rw [hfr]
      by_cases hq : q.block = k
      ·rw [if_pos hq, hq, g2]
      ·rw [if_neg hq]
     have hrun : (execOp a.eval o).run P w = .ok (.value (a.eval p)) (w.freeze ⟨k, arr.size, none⟩ 1) := by
      have hsh : w.shape? k = some (e, arr.size) := by unfold World.shape?; rw [g2]
      simp [execOp, ho, convert, run_underlying u1, run_underlying u3, hcur, markStringish, shape, freeze, Sem.run, hsh]
     obtain ⟨β', q1, q2, q3, q4, q5⟩ := R.set n (.dead (len * 1)) (fun o0 h => by rw [hn] at h; injection h with h; subst h; rfl) (some k) (β.o n) (w' := w.freeze ⟨k, arr.size, none⟩ 1) hsy.1 hsy.2.1 hsy.2.2 (by omega)
      (fun j _ hj => by rw [hfr, if_neg fun e => hj _ hn (by rw [e]; exact g1)]) (fun o0 q _ _ _ => hcl2 q)
      (fun j hj => by injection hj with hj; subst hj; exact ⟨by omega, .inl ⟨_, hn, g1, fun _ h => h⟩⟩) (fun o0 _ => ⟨fun h => ⟨h, g1.symm⟩, fun u hu => ⟨u, hu, .inl rfl⟩⟩)
      (fun β' p1 p2 hev hbe => ⟨_, p2.trans g0, Nat.le_trans g3 g4⟩)
     exact ⟨.value (a.eval p), _, β', _, hrun, .inl rfl, q1, VL.d (hvd.evo q4), by simp⟩
   ·cases h
  ·cases h
 ·cases h

theorem good_idx (hL : LOk P L) (R : Rel X β σ a w) (hG : GOk a G) {o : Oper} {t : TypeId} {x i : Operand} (ho : o.op = .index t x i) {r : Res} (h : aIdx L G σ t x i = some r) (hc : ∀ c ∈ r.c, c) : OpGood P X σ a w o r := by
 unfold aIdx at h
 split at h
 ·rename_i y q k n hy hx hi
  split at h
  ·rename_i hsk
   obtain rfl := Option.some.inj h
   have hu := (hL t y hy).sk.1 hsk
   have hv := VT.str (opT_sound R hG hx)
   have hn := VT.int (opT_sound R hG hi)
   have h0 : 0 ≤ n := hc _ (.head _)
   have h1 : n < q.size := hc _ (.tail _ (.head _))
   have hlt : n.toNat < q.data.size := by
    have : q.data.size = q.size := rfl
    omega
   refine OpGood.pure R (v := .int .u8 (q.data[n.toNat].toNat)) ?_ rfl ?_ (by simp)
   ·have hq : q[n.toNat]? = some q.data[n.toNat] := by
     have h2 : n.toNat < q.size := hlt
     rw [getElem?_pos q n.toNat h2]; rfl
    simp [execOp, ho, Instr.index, hv, hn, asIntOf, run_underlying hu, h0, hq]
   ·have : (strB q).getD n.toNat 0 = (q.data[n.toNat].toNat : Int) := strB_get hlt
    show VT w _ β _ (.one (li .u8 ((strB q).getD n.toNat 0))) _
    rw [this]
    exact VT.lit rfl
  ·cases h
 ·rename_i y xs k n hy hx hi
  split at h
  ·rename_i m e har
   split at h
   ·rename_i ye x hye hxs
    split at h
    ·cases h
    ·rename_i hag
     obtain rfl := Option.some.inj h
     obtain ⟨hu, _⟩ := (hL t y hy).ars m e 1 har
     obtain ⟨arr, hv, hall⟩ := opT_sound R hG hx
     have hn := VT.int (opT_sound R hG hi)
     have h0 : 0 ≤ n := hc _ (.head _)
     have h1 : n < (m : Int) := hc _ (.tail _ (.head _))
     obtain ⟨u, hu2, hxu⟩ := hall.get hxs
     have hu3 : arr[n.toNat * 1]? = some u := by rw [Nat.mul_one]; simpa using hu2
     refine OpGood.pure R (v := u) ?_ rfl hxu (by simp)
     have hpart : (part e arr (n.toNat * 1)).run P w = .ok u w := by
      have hag' : ye.agg = false := by simpa using hag
      simp only [part, Sem.run_bind, (hL e ye hye).agg w, Result.andThen_ok, hag', Bool.false_eq_true, if_false, hu3, Sem.run_pure]
     simp only [execOp, ho, Sem.run_bind, Instr.index, hv, hn, asIntOf, Sem.run_pure, Result.andThen_ok, run_underlying hu]
     rw [if_pos ⟨h0, h1⟩]
     have he := (hL t y hy).ars m e 1 har
     simp only [Sem.run_bind, run_sizeOf he.2, Result.andThen_ok, hpart]
   ·cases h
  ·cases h
 ·cases h

theorem good_range (hL : LOk P L) (R : Rel X β σ a w) (hG : GOk a G) {o : Oper} {t : TypeId} {x : Operand} (ho : o.op = .range t x) {r : Res} (h : aRange L G σ t x o.dst = some r) : OpGood P X σ a w o r := by
 unfold aRange at h
 split at h
 ·rename_i y q d hy hx hd
  split at h
  ·rename_i hn
   split at h
   ·rename_i hsk
    obtain rfl := Option.some.inj h
    have hu := (hL t y hy).sk.1 hsk
    have hv := VT.str (opT_sound R hG hx)
    have hno : ∀ o0, look σ.h d = some o0 → False := fun o0 h => by rw [hn] at h; cases h
    obtain ⟨β', h1, h2, h3, _⟩ := R.set d (.it q 0) (fun o0 h => (hno o0 h).elim) (some w.heap.size) none (w' := w.iter q 0) rfl rfl rfl (by simp [World.iter])
     (fun k hk _ => heap_alloc_old w _ k hk) (fun o0 _ h => (hno o0 h).elim) (fun k hk => by injection hk with hk; subst hk; exact ⟨by simp [World.iter], .inr (Nat.le_refl _)⟩)
     (fun o0 h => (hno o0 h).elim) (fun β' g1 g2 hev hbe => ⟨w.heap.size, g2, g1, World.iter_heap w q 0⟩)
    refine ⟨.value (.pointer (some ⟨w.heap.size, 0, none⟩)), w.iter q 0, β', _, ?_, .inl rfl, h1, VL.ptr ⟨w.heap.size, by simp [dm, upds, look_cons], h3, h2, rfl⟩, by simp⟩
    simp [execOp, ho, hv, run_range_string w t q hu]
   ·cases h
  ·cases h
 ·cases h

theorem good_next (R : Rel X β σ a w) (hG : GOk a G) {o : Oper} {it : Operand} {isS : Bool} (ho : o.op = .next it isS) {r : Res} (h : aNext G σ it isS = some r) : OpGood P X σ a w o r := by
 unfold aNext at h
 split at h
 ·rename_i n hit
  split at h
  ·rename_i q p hn
   obtain rfl := Option.some.inj h
   have hv := opT_sound R hG hit
   obtain ⟨k, h0, h1, h2⟩ := R.hr.blk n _ hn
   have hev : a.eval it = .pointer (some ⟨k, 0, none⟩) := by
    generalize a.eval it = vi at hv
    cases hv with
    | ptr hp =>
     obtain ⟨k', _, _, e1, e2⟩ := hp
     rw [h1] at e1; injection e1 with e1; subst e1; exact e2
   have hlt := R.hr.lt n k (by rw [hn]; simp) (.inl h1)
   by_cases hq : p < q.size
   ·have hr := Lib.run_next_any_at (P := P) w k q p o.type h2 hq
    obtain ⟨β', g1, _⟩ := R.set n (.it q (nxP q p)) (fun o0 h => by rw [hn] at h; injection h with h; subst h; rfl) (some k) none (w' := w.iterAt k q (nxP q p)) rfl rfl rfl (by rw [Lib.iterAt_size]; exact Nat.le_refl _)
     (fun j _ hj => Lib.iterAt_other w k j q _ fun e => hj _ hn (by rw [e]; exact h1))
     (fun o0 p' h _ hm => by rw [hn] at h; injection h with h; subst h; exact absurd trivial hm) (fun j hj => by injection hj with hj; subst hj; exact ⟨by rw [Lib.iterAt_size]; exact hlt, .inl ⟨_, hn, h1, fun _ _ => trivial⟩⟩)
     (fun o0 h => ⟨fun _ => ⟨rfl, h1.symm⟩, fun u hu => by rw [h0] at hu; cases hu⟩)
     (fun β' g1 g2 hev hbe => ⟨k, g2, g1, Lib.iterAt_heap w k q p _ h2⟩)
    have hnp : nxP q p = p + (Utf8.decode q p).2 := by unfold nxP; rw [if_pos hq]
    refine ⟨.value (.tuple #[.bool true, .int .i64 p, .int .i32 (Utf8.decode q p).1]), _, β', _, ?_, .inl rfl, g1, ?_, by simp⟩
    ·simp [execOp, ho, hev, hr, hnp]
    ·show _ = _
     rw [decide_eq_true hq]; rfl
   ·have hr := Lib.run_next_end_at (P := P) w k q p o.type h2 hq
    have hnp : nxP q p = p := by unfold nxP; rw [if_neg hq]
    obtain ⟨β', g1, _⟩ := R.again hn rfl
    refine ⟨.value (.tuple #[.bool false]), w, β', _, ?_, .inl rfl, ?_, ?_, by simp⟩
    ·simp [execOp, ho, hev, hr]
    ·show Rel X β' { σ with h := (n, .it q (nxP q p)) :: σ.h } a w
     rw [hnp]; exact g1
    ·show _ = _
     rw [decide_eq_false hq]; rfl
  ·cases h
 ·cases h
end
end Go.Sy
namespace Go.Sy
variable {P : Program} {L : Nat → Option Lay} {Γ : Nat → Option Con}

/-! slices whose elements may be written -/
section
variable {X : Cx} {β : Bt} {σ : St} {a : Act} {w : World} {G : List (Nat × Bool)}

theorem vec_open (H : HR β (look σ.h) w) {n : Nat} {τ : Ty} {e : Nat} {l : List τ.T} (hn : look σ.h n = some (.vec τ e l)) {v : Value} (ho : OV β (dm (look σ.h)) n v) (hk : hlen v = l.length) :
  β.o n = some v ∧ ((v = .slice none 0 0 ∧ β n = none ∧ l = []) ∨ ∃ b cap arr, v = .slice (some ⟨b, 0, none⟩) l.length cap ∧ β n = some b ∧ w.heap[b]? = some (.cells arr e (0, 0)) ∧ l.length ≤ cap ∧ cap ≤ maxLen ∧ arr.size = cap * τ.size ∧
   ∀ i j u, i < l.length → j < τ.size → arr[i * τ.size + j]? = some u → VD w (Mt β (look σ.h)) (τ.enc (l.getD i τ.d0) j) u) := by
 obtain ⟨_, u, hu, hle, heq⟩ := ho
 rcases H.blk n _ hn with ⟨h0, h1, h2⟩ | ⟨b, cap, arr, h0, h1⟩
 ·rw [h0] at hu; injection hu with hu; subst hu
  have : v = .slice none 0 0 := heq (by rw [hk, h2]; rfl)
  subst this
  exact ⟨h0, .inl ⟨rfl, h1, h2⟩⟩
 ·rw [h0] at hu; injection hu with hu; subst hu
  have : v = .slice (some ⟨b, 0, none⟩) l.length cap := heq (by rw [hk]; rfl)
  subst this
  exact ⟨h0, .inr ⟨b, cap, arr, rfl, h1⟩⟩
theorem frz_open (H : HR β (look σ.h) w) {n : Nat} {τ : Ty} {e : Nat} {l : List τ.T} (hn : look σ.h n = some (.frz τ e l)) {v : Value} (ho : OV β (dm (look σ.h)) n v) (hk : hlen v = l.length) :
  β.o n = some v ∧ ((v = .slice none 0 0 ∧ β n = none ∧ l = []) ∨ ∃ b cap arr, v = .slice (some ⟨b, 0, none⟩) l.length cap ∧ β n = some b ∧ w.heap[b]? = some (.cells arr e (0, 0)) ∧ l.length ≤ cap ∧ cap ≤ maxLen ∧ arr.size = cap * τ.size ∧
   ∀ i j u, i < l.length → j < τ.size → arr[i * τ.size + j]? = some u → VD w (Mt β (look σ.h)) (τ.enc (l.getD i τ.d0) j) u) := by
 obtain ⟨_, u, hu, hle, heq⟩ := ho
 rcases H.blk n _ hn with ⟨h0, h1, h2⟩ | ⟨b, cap, arr, h0, h1⟩
 ·rw [h0] at hu; injection hu with hu; subst hu
  have : v = .slice none 0 0 := heq (by rw [hk, h2]; rfl)
  subst this
  exact ⟨h0, .inl ⟨rfl, h1, h2⟩⟩
 ·rw [h0] at hu; injection hu with hu; subst hu
  have : v = .slice (some ⟨b, 0, none⟩) l.length cap := heq (by rw [hk]; rfl)
  subst this
  exact ⟨h0, .inr ⟨b, cap, arr, rfl, h1⟩⟩
theorem vp_open (H : HR β (look σ.h) w) {n : Nat} {τ : Ty} {e : Nat} {l : List τ.T} (hn : look σ.h n = some (.vec τ e l)) {k sz i off : Nat} {v : Value} (h : VPt β (dm (look σ.h)) n k sz i off v) (hk : k = l.length) (hi : i < l.length) :
  ∃ b cap arr, v = .pointer (some ⟨b, i * sz + off, none⟩) ∧ β.o n = some (.slice (some ⟨b, 0, none⟩) l.length cap) ∧ β n = some b ∧ w.heap[b]? = some (.cells arr e (0, 0)) ∧ l.length ≤ cap ∧ cap ≤ maxLen ∧ arr.size = cap * τ.size ∧
   ∀ i j u, i < l.length → j < τ.size → arr[i * τ.size + j]? = some u → VD w (Mt β (look σ.h)) (τ.enc (l.getD i τ.d0) j) u := by
 obtain ⟨_, _, u, hu, hle, heq⟩ := h
 rcases H.blk n _ hn with ⟨h0, h1, h2⟩ | ⟨b, cap, arr, h0, h1⟩
 ·rw [h2] at hi; simp at hi
 ·rw [h0] at hu; injection hu with hu; subst hu
  obtain ⟨b', cap', e1, e2⟩ := heq (by rw [hk]; rfl)
  injection e1 with e1 e3 e4
  injection e1 with e1
  injection e1 with e1
  subst e1
  exact ⟨b, cap, arr, e2, h0, h1⟩

theorem vh_open (H : HR β (look σ.h) w) {n : Nat} {τ : Ty} {e : Nat} {l : List τ.T} {jh oh bh mh : Nat} (hn : look σ.h n = some (.vh τ e l jh oh bh mh)) {v : Value} (ho : OV β (dm (look σ.h)) n v) (hk : hlen v = l.length) :
  β.o n = some v ∧ ∃ b cap, v = .slice (some ⟨b, 0, none⟩) l.length cap := by
 obtain ⟨_, u, hu, hle, heq⟩ := ho
 obtain ⟨b, cap, arr, h0, h1⟩ := H.blk n _ hn
 rw [h0] at hu; injection hu with hu; subst hu
 have : v = .slice (some ⟨b, 0, none⟩) l.length cap := heq (by rw [hk]; rfl)
 subst this
 exact ⟨h0, b, cap, rfl⟩
theorem vph_open (H : HR β (look σ.h) w) {n : Nat} {τ : Ty} {e : Nat} {l : List τ.T} {jh oh bh mh : Nat} (hn : look σ.h n = some (.vh τ e l jh oh bh mh)) {k sz i off : Nat} {v : Value} (h : VPt β (dm (look σ.h)) n k sz i off v) (hk : k = l.length) :
  ∃ b cap arr, v = .pointer (some ⟨b, i * sz + off, none⟩) ∧ β.o n = some (.slice (some ⟨b, 0, none⟩) l.length cap) ∧ β n = some b ∧ w.heap[b]? = some (.cells arr e (0, 0)) ∧ l.length ≤ cap ∧ cap ≤ maxLen ∧ arr.size = cap * τ.size ∧
   (∀ i q u, i < l.length → q < τ.size → ¬ (i = jh ∧ q = oh) → arr[i * τ.size + q]? = some u → VD w (Mt β (look σ.h)) (τ.enc (l.getD i τ.d0) q) u) ∧ (jh < l.length ∧ oh < τ.size) ∧ ∀ u, arr[jh * τ.size + oh]? = some u → VL w (Mt β (look σ.h)) β (dm (look σ.h)) (.vr bh mh) u := by
 obtain ⟨_, _, u, hu, hle, heq⟩ := h
 obtain ⟨b, cap, arr, h0, h1⟩ := H.blk n _ hn
 rw [h0] at hu; injection hu with hu; subst hu
 obtain ⟨b', cap', e1, e2⟩ := heq (by rw [hk]; rfl)
 injection e1 with e1 e3 e4
 injection e1 with e1
 injection e1 with e1
 subst e1
 exact ⟨b, cap, arr, e2, h0, h1⟩

theorem Rel.room (R : Rel X β σ a w) {n : Nat} (hn : look σ.h n = none) (vec : Bool) (τ : Ty) (e : Nat) :
  ∃ β' : Bt, Rel X β' { σ with h := (n, roomE vec τ e) :: σ.h } a w ∧ VL w (Mt β' (look ((n, roomE vec τ e) :: σ.h))) β' (dm (look ((n, roomE vec τ e) :: σ.h))) (roomV vec n τ) (.slice none 0 0) ∧
   Evo (Mt β (look σ.h)) (Mt β' (look ((n, roomE vec τ e) :: σ.h))) w w ∧ BEvo β β' (dm (look σ.h)) (dm (look ((n, roomE vec τ e) :: σ.h))) := by
 have hno : ∀ o0, look σ.h n = some o0 → False := fun o0 h => by rw [hn] at h; cases h
 obtain ⟨β', h1, h2, h3, h4, h5⟩ := R.set n (roomE vec τ e) (fun o0 h => (hno o0 h).elim) none (some (.slice none 0 0)) (w' := w) rfl rfl rfl (Nat.le_refl _) (fun _ _ _ => rfl) (fun o0 _ h => (hno o0 h).elim) (fun k hk => by cases hk)
  (fun o0 h => (hno o0 h).elim) (fun β' g1 g2 hev hbe => by cases vec <;> exact .inl ⟨g2, g1, rfl⟩)
 refine ⟨β', h1, ?_, h4, h5⟩
 cases vec with
 | false => exact .own .nil ⟨by simp [dm, look_cons], _, h3, Nat.le_refl _, fun _ => rfl⟩
 | true => exact .vr ⟨_, _, _, rfl⟩ rfl ⟨by simp [dm, look_cons], _, h3, Nat.le_refl _, fun _ => rfl⟩

theorem rmFreeV_spec {dst : Option Tmp} {n : Nat} (h : rmFreeV σ dst = some n) : look σ.h n = none := by
 unfold rmFreeV at h
 split at h
 ·split at h
  ·rename_i hn
   obtain rfl := Option.some.inj h
   exact hn
  ·split at h
   ·rename_i hn
    obtain rfl := Option.some.inj h
    exact hn
   ·cases h
 ·cases h
theorem good_vnil (R : Rel X β σ a w) {o : Oper} {x : Operand} (ho : o.op = .move x ∨ o.op = .assign x) (hx : isNilC x = true) {r : Res} (h : vNil L σ o.type o.dst = some r) : OpGood P X σ a w o r := by
 have hx' : x = .const (.slice none 0 0) := by
  unfold isNilC at hx
  split at hx
  ·rfl
  ·cases hx
 subst hx'
 have hrun : (execOp a.eval o).run P w = .ok (.value (.slice none 0 0)) w := by rcases ho with ho | ho <;> simp [execOp, ho, Act.eval]
 unfold vNil at h
 split at h
 ·split at h
  ·rename_i τ e b n hety hn
   obtain rfl := Option.some.inj h
   obtain ⟨β', R', hv, _⟩ := R.room (rmFreeV_spec hn) true τ e
   exact ⟨.value (.slice none 0 0), w, β', _, hrun, .inl rfl, R', hv, by simp⟩
  ·cases h
 ·cases h

theorem upds_append : ∀ (es fs h : List (Nat × HO)), upds (es ++ fs) h = upds fs (upds es h)
 | [], _, _ => rfl
 | x :: es, fs, h => upds_append es fs (x :: h)
theorem isNilL_roomV (vec : Bool) (n : Nat) (τ : Ty) : isNilL (roomV vec n τ) = false := by cases vec <;> rfl
theorem nilL_value {M : CM} {D : Nat → Prop} {x : LV} {v : Value} (h : isNilL x = true) (hv : VL w M β D x v) : v = .slice none 0 0 := by
 unfold isNilL at h
 split at h
 ·cases hv with
  | d hv => cases hv with
   | nil => rfl
   | sl _ h0 => exact absurd h0 (Nat.lt_irrefl _)
 ·cases h
theorem rooms_sound {d : Nat} {hp : Nat → Option HO} {vs : List Value} : ∀ {cv : List (Nat × (Ty × (Nat × Bool)))} {cs cs' : List LV} {es : List (Nat × HO)} {σ : St} {β : Bt}, Rel X β σ a w → All2 (VL w (Mt β (look σ.h)) β (dm (look σ.h))) cs vs →
  (∀ j x, cs[j]? = some x → isNilL x = true → hp (rm2 d j) = none → look σ.h (rm2 d j) = none) → rooms hp d cv cs = (cs', es) →
  ∃ β', Rel X β' { σ with h := upds es σ.h } a w ∧ All2 (VL w (Mt β' (look (upds es σ.h))) β' (dm (look (upds es σ.h)))) cs' vs ∧ ∀ k, k < 400000 → look (upds es σ.h) k = look σ.h k
 | [], cs, cs', es, σ, β, R, hall, _, h => by
  injection h with h1 h2; subst h1 h2
  exact ⟨β, R, hall, fun _ _ => rfl⟩
 | (j, (τ, (e, vec))) :: r, cs, cs', es, σ, β, R, hall, hfr, h => by
  unfold rooms at h
  split at h
  ·rename_i x hx hn
   split at h
   ·rename_i hnil
    generalize hrr : rooms hp d r (cs.set j (roomV vec (rm2 d j) τ)) = q at h
    obtain ⟨cs1, es1⟩ := q
    injection h with h1 h2; subst h1 h2
    obtain ⟨v, hv, hxv⟩ := hall.get hx
    have hv0 := nilL_value hnil hxv
    subst hv0
    obtain ⟨β1, R1, hrv, hev, hbe⟩ := R.room (hfr j x hx hnil hn) vec τ e
    have hall1 := (hall.mono fun _ _ _ h => VL.evo hev hbe h).set hv hrv
    obtain ⟨β2, R2, hall2, hk⟩ := rooms_sound (σ := { σ with h := (rm2 d j, roomE vec τ e) :: σ.h }) R1 hall1 (fun i y hy hny hpy => by
     have hij : j ≠ i := by
      intro e'
      subst e'
      have hlt := (List.getElem?_eq_some_iff.1 hx).1
      rw [List.getElem?_set_self hlt] at hy
      injection hy with hy
      rw [← hy, isNilL_roomV] at hny
      cases hny
     rw [List.getElem?_set_ne hij] at hy
     show look ((rm2 d j, roomE vec τ e) :: σ.h) (rm2 d i) = none
     rw [look_cons, if_neg (by unfold rm2; omega)]
     exact hfr i y hy hny hpy) hrr
    refine ⟨β2, R2, hall2, fun k hk' => ?_⟩
    have := hk k hk'
    show look (upds es1 ((rm2 d j, roomE vec τ e) :: σ.h)) k = look σ.h k
    rw [this]
    show look ((rm2 d j, roomE vec τ e) :: σ.h) k = look σ.h k
    rw [look_cons, if_neg (by unfold rm2; omega)]
   ·exact rooms_sound R hall hfr h
  ·exact rooms_sound R hall hfr h

theorem good_valloc (hL : LOk P L) (R : Rel X β σ a w) {o : Oper} {t : TypeId} (ho : o.op = .alloc t) {r : Res} (h : vAlloc L σ t o.dst = some r) : OpGood P X σ a w o r := by
 unfold vAlloc at h
 split at h
 ·rename_i y d hy hd
  split at h
  ·rename_i hn
   generalize hrr : rooms (look σ.h) d y.cv (wrapD y.zero) = q at h
   obtain ⟨cs, es⟩ := q
   simp only at h
   split at h
   ·rename_i hd4
    obtain rfl := Option.some.inj h
    obtain ⟨z, hz, _, hzz⟩ := (hL t y hy).zero
    have hb : All2 (VL w (Mt β (look σ.h)) β (dm (look σ.h))) (wrapD y.zero) z.cells.toList := by
     have := hzz w (Mt β (look σ.h))
     clear hz hzz hy
     generalize z.cells.toList = zs at this
     generalize y.zero = ys at this
     clear hrr
     induction this with
     | nil => exact .nil
     | cons h1 _ ih => exact .cons (.d h1) ih
    obtain ⟨β1, R1, hall, hk⟩ := rooms_sound R hb (fun j x _ _ h => h) hrr
    have hn1 : look ({ σ with h := upds es σ.h } : St).h d = none := (hk d hd4).trans hn
    obtain ⟨β', R', hβ, ho'⟩ := R1.alloc hn1 t hall
    have eu : upds (es ++ [(d, .cells cs)]) σ.h = (d, .cells cs) :: upds es σ.h := by rw [upds_append]; rfl
    refine ⟨.value (.pointer (some ⟨w.heap.size, 0, none⟩)), w.alloc (.cells z.cells t (0, 0)), β', .pointer (some ⟨w.heap.size, 0, none⟩), ?_, .inl rfl, ?_, ?_, fun p hp => by cases hp⟩
    ·simp [execOp, ho, Instr.alloc, hz, newVar, newRow]
    ·rw [eu]; exact R'
    ·rw [eu]; exact VL.ptr ⟨w.heap.size, by simp [dm, look_cons], ho', hβ, rfl⟩
   ·cases h
  ·cases h
 ·cases h

theorem good_vbuild (hL : LOk P L) (R : Rel X β σ a w) (hG : GOk a G) {o : Oper} {t : TypeId} {parts : Array (Nat × Operand)} (ho : o.op = .build t parts) {r : Res} (h : vBuild L G σ t parts.toList o.dst = some r) : OpGood P X σ a w o r := by
 unfold vBuild at h
 split at h
 ·rename_i y d r0 hy hd h0
  split at h
  ·rename_i cs hv hh
   generalize hrr : rooms (look σ.h) d y.cv cs = q at h
   obtain ⟨cs', es⟩ := q
   obtain rfl := Option.some.inj h
   obtain ⟨act, w', β', v, hexec, hact, R', hva, _⟩ := good_build hL R hG ho h0
   rw [hh, hv] at hva
   rw [hh] at R'
   obtain ⟨arr, hva1, hva2⟩ := hva
   obtain ⟨β1, R1, hall, _⟩ := rooms_sound R' hva2 (fun j x _ _ h => h) hrr
   exact ⟨act, w', β1, v, hexec, hact, R1, ⟨arr, hva1, hall⟩, fun p hp => by cases hp⟩
  ·cases h
 ·cases h

theorem Rel.newVec (R : Rel X β σ a w) {n : Nat} {τ : Ty} {l : List τ.T} {cs : List Value} {cap : Nat} {arr : Array Value} {e : Nat} {w' : World}
  (hw : w'.os = w.os ∧ w'.tape = w.tape ∧ w'.output = w.output ∧ w'.heap = w.heap.push (.cells arr e (0, 0)))
  (hob : ∀ o0, look σ.h n = some o0 → o0.isOb = false) (hn : ∀ o0, look σ.h n = some o0 → ∃ u, β.o n = some u ∧ hlen u < l.length)
  (hcap : l.length ≤ cap) (hmax : cap ≤ maxLen) (_ : cs.length = l.length * τ.size) (harr : arr.size = cap * τ.size) (hcs : arr.toList.take (l.length * τ.size) = cs)
  (hv : ∀ i j u, i < l.length → j < τ.size → cs[i * τ.size + j]? = some u → VD w (Mt β (look σ.h)) (τ.enc (l.getD i τ.d0) j) u) :
  ∃ β' : Bt, Rel X β' { σ with h := (n, .vec τ e l) :: σ.h } a w' ∧
   VL w' (Mt β' (look ((n, HO.vec τ e l) :: σ.h))) β' (dm (look ((n, HO.vec τ e l) :: σ.h))) (.vr n l.length) (.slice (some ⟨w.heap.size, 0, none⟩) l.length cap) := by
 obtain ⟨w1, w2, w3, w4⟩ := hw
 have hnew : w'.heap[w.heap.size]? = some (.cells arr e (0, 0)) := by rw [w4]; simp
 have hsz : w'.heap.size = w.heap.size + 1 := by rw [w4]; simp
 have hold : ∀ k, k < w.heap.size → w'.heap[k]? = w.heap[k]? := fun k hk => by rw [w4, Array.getElem?_push, if_neg (by omega)]
 have hb : ∀ i j, i < l.length → j < τ.size → i * τ.size + j < l.length * τ.size := fun i j hi hj => by
  have : (i + 1) * τ.size ≤ l.length * τ.size := Nat.mul_le_mul_right _ hi
  rw [Nat.add_mul, Nat.one_mul] at this
  omega
 obtain ⟨β', h1, h2, h3, h4, h5⟩ := R.set n (.vec τ e l) hob (some w.heap.size) (some (.slice (some ⟨w.heap.size, 0, none⟩) l.length cap)) (w' := w') w1 w2 w3 (by omega)
  (fun k hk _ => hold k hk) (fun o0 p ho hb _ => cell_of_heap (hold _ (R.hr.lt n _ (by rw [ho]; simp) (.inl hb)))) (fun k hk => by injection hk with hk; subst hk; exact ⟨by omega, .inr (Nat.le_refl _)⟩)
  (fun o0 ho => by
   obtain ⟨u, hu, hlt⟩ := hn o0 ho
   exact ⟨(fun h => by rw [hu] at h; cases h), fun u' hu' => ⟨_, rfl, .inr (by rw [hu] at hu'; injection hu' with hu'; subst hu'; exact hlt)⟩⟩)
  (fun β' g1 g2 hev hbe => .inr ⟨_, cap, arr, g2, g1, hnew, hcap, hmax, harr, fun i j u hi hj hu => (hv i j u hi hj (by
   rw [← hcs, List.getElem?_take, if_pos (hb i j hi hj)]; simpa using hu)).evo hev⟩)
 exact ⟨β', h1, .vr ⟨_, _, _, rfl⟩ rfl ⟨by simp [dm, look_cons], _, h3, Nat.le_refl _, fun _ => rfl⟩⟩

theorem Rel.freeze (R : Rel X β σ a w) {n : Nat} {τ : Ty} {e : Nat} {l : List τ.T} (hn : look σ.h n = some (.vec τ e l)) (hτ : 0 < τ.size) :
  ∃ β' : Bt, Rel X β' { σ with h := (n, .gr e τ.size l.length) :: σ.h } a w ∧ Evo (Mt β (look σ.h)) (Mt β' (look ((n, HO.gr e τ.size l.length) :: σ.h))) w w ∧ BEvo β β' (dm (look σ.h)) (dm (look ((n, HO.gr e τ.size l.length) :: σ.h))) ∧
   ∀ k v, k = l.length → VL w (Mt β (look σ.h)) β (dm (look σ.h)) (.vr n k) v → VL w (Mt β' (look ((n, HO.gr e τ.size l.length) :: σ.h))) β' (dm (look ((n, HO.gr e τ.size l.length) :: σ.h))) (.d (.sl τ l)) v := by
 obtain ⟨β', h1, h2, h3, h4, h5⟩ := R.set n (.gr e τ.size l.length) (fun o0 h => by rw [hn] at h; injection h with h; subst h; rfl) (β n) (β.o n) (w' := w) rfl rfl rfl (Nat.le_refl _) (fun _ _ _ => rfl) (fun _ _ _ _ _ => rfl)
  (fun k hk => ⟨R.hr.lt n k (by rw [hn]; simp) (.inl hk), .inl ⟨_, hn, hk, fun _ _ => trivial⟩⟩) (fun o0 _ => ⟨fun h => ⟨h, rfl⟩, fun u hu => ⟨u, hu, .inl rfl⟩⟩)
  (fun β' g1 g2 hev hbe => by
   rcases R.hr.blk n _ hn with ⟨h0, h1, h2⟩ | ⟨k, cap, arr, h0, h1, h2, h3, h4, h5, _⟩
   ·exact .inl ⟨g2.trans h0, g1.trans h1, by rw [h2]; rfl⟩
   ·exact .inr ⟨k, cap, arr, g2.trans h0, g1.trans h1, h2, h3, h4, h5⟩)
 refine ⟨β', h1, h4, h5, fun k v hk hv => .d ?_⟩
 cases hv with
 | vr hs hkk ho =>
  obtain ⟨hov, hcase⟩ := vec_open R.hr hn ho (hkk.trans hk)
  rcases hcase with ⟨rfl, _, rfl⟩ | ⟨b, cap, arr, rfl, hb, hh, hcap, hmax, hsz, hval⟩
  ·exact .nil
  ·have hlt := R.hr.lt n b (by rw [hn]; simp) (.inl hb)
   have hle : l.length * τ.size ≤ arr.size := by rw [hsz]; exact Nat.mul_le_mul_right _ hcap
   have hbd : ∀ i j, i < l.length → j < τ.size → i * τ.size + j < l.length * τ.size := fun i j hi hj => by
    have : (i + 1) * τ.size ≤ l.length * τ.size := Nat.mul_le_mul_right _ hi
    rw [Nat.add_mul, Nat.one_mul] at this
    omega
   refine VD.of_row (cs := arr.toList.take (l.length * τ.size)) hτ hlt hcap hmax (by simp; omega) (fun j hj hM => ?_) (fun j u hu => ?_) (fun i j u hi hj hu => (hval i j u hi hj ?_).evo h4)
   ·have g3 := h1.hr.only (n := n) (o := .gr e τ.size l.length) (by show look _ n = _; rw [look_cons, if_pos rfl]) rfl (h2.trans hb) hM
    simp only [HO.mut] at g3
    omega
   ·rw [List.getElem?_take] at hu
    split at hu
    ·simp only [World.cell?, hh]
     simpa using hu
    ·cases hu
   ·rw [List.getElem?_take, if_pos (hbd i j hi hj)] at hu
    simpa using hu

theorem Rel.freezeF (R : Rel X β σ a w) {n : Nat} {τ : Ty} {e : Nat} {l : List τ.T} (hn : look σ.h n = some (.vec τ e l)) (hτ : 0 < τ.size) :
  ∃ β' : Bt, Rel X β' { σ with h := (n, .frz τ e l) :: σ.h } a w ∧ Evo (Mt β (look σ.h)) (Mt β' (look ((n, HO.frz τ e l) :: σ.h))) w w ∧ BEvo β β' (dm (look σ.h)) (dm (look ((n, HO.frz τ e l) :: σ.h))) ∧
   ∀ k v, k = l.length → VL w (Mt β (look σ.h)) β (dm (look σ.h)) (.vr n k) v → VL w (Mt β' (look ((n, HO.frz τ e l) :: σ.h))) β' (dm (look ((n, HO.frz τ e l) :: σ.h))) (.d (.sl τ l)) v := by
 obtain ⟨β', h1, h2, h3, h4, h5⟩ := R.set n (.frz τ e l) (fun o0 h => by rw [hn] at h; injection h with h; subst h; rfl) (β n) (β.o n) (w' := w) rfl rfl rfl (Nat.le_refl _) (fun _ _ _ => rfl) (fun _ _ _ _ _ => rfl)
  (fun k hk => ⟨R.hr.lt n k (by rw [hn]; simp) (.inl hk), .inl ⟨_, hn, hk, fun _ _ => trivial⟩⟩) (fun o0 _ => ⟨fun h => ⟨h, rfl⟩, fun u hu => ⟨u, hu, .inl rfl⟩⟩)
  (fun β' g1 g2 hev hbe => by
   rcases R.hr.blk n _ hn with ⟨h0, h1, h2⟩ | ⟨k, cap, arr, h0, h1, h2, h3, h4, h5, h6⟩
   ·exact .inl ⟨g2.trans h0, g1.trans h1, h2⟩
   ·exact .inr ⟨k, cap, arr, g2.trans h0, g1.trans h1, h2, h3, h4, h5, fun i j u hi hj hu => (h6 i j u hi hj hu).evo hev⟩)
 refine ⟨β', h1, h4, h5, fun k v hk hv => .d ?_⟩
 cases hv with
 | vr hs hkk ho =>
  obtain ⟨hov, hcase⟩ := vec_open R.hr hn ho (hkk.trans hk)
  rcases hcase with ⟨rfl, _, rfl⟩ | ⟨b, cap, arr, rfl, hb, hh, hcap, hmax, hsz, hval⟩
  ·exact .nil
  ·have hlt := R.hr.lt n b (by rw [hn]; simp) (.inl hb)
   have hle : l.length * τ.size ≤ arr.size := by rw [hsz]; exact Nat.mul_le_mul_right _ hcap
   have hbd : ∀ i j, i < l.length → j < τ.size → i * τ.size + j < l.length * τ.size := fun i j hi hj => by
    have : (i + 1) * τ.size ≤ l.length * τ.size := Nat.mul_le_mul_right _ hi
    rw [Nat.add_mul, Nat.one_mul] at this
    omega
   refine VD.of_row (cs := arr.toList.take (l.length * τ.size)) hτ hlt hcap hmax (by simp; omega) (fun j hj hM => ?_) (fun j u hu => ?_) (fun i j u hi hj hu => (hval i j u hi hj ?_).evo h4)
   ·have g3 := h1.hr.only (n := n) (o := .frz τ e l) (by show look _ n = _; rw [look_cons, if_pos rfl]) rfl (h2.trans hb) hM
    simp only [HO.mut] at g3
    omega
   ·rw [List.getElem?_take] at hu
    split at hu
    ·simp only [World.cell?, hh]
     simpa using hu
    ·cases hu
   ·rw [List.getElem?_take, if_pos (hbd i j hi hj)] at hu
    simpa using hu
theorem Rel.frozen (R : Rel X β σ a w) {n : Nat} {τ : Ty} {e : Nat} {l : List τ.T} (hn : look σ.h n = some (.frz τ e l)) (hτ : 0 < τ.size) {k : Nat} {v : Value} (hk : k = l.length) (hv : VL w (Mt β (look σ.h)) β (dm (look σ.h)) (.vr n k) v) :
  VL w (Mt β (look σ.h)) β (dm (look σ.h)) (.d (.sl τ l)) v := by
 refine .d ?_
 cases hv with
 | vr hs hkk ho =>
  obtain ⟨hov, hcase⟩ := frz_open R.hr hn ho (hkk.trans hk)
  rcases hcase with ⟨rfl, _, rfl⟩ | ⟨b, cap, arr, rfl, hb, hh, hcap, hmax, hsz, hval⟩
  ·exact .nil
  ·have hlt := R.hr.lt n b (by rw [hn]; simp) (.inl hb)
   have hle : l.length * τ.size ≤ arr.size := by rw [hsz]; exact Nat.mul_le_mul_right _ hcap
   have hbd : ∀ i j, i < l.length → j < τ.size → i * τ.size + j < l.length * τ.size := fun i j hi hj => by
    have : (i + 1) * τ.size ≤ l.length * τ.size := Nat.mul_le_mul_right _ hi
    rw [Nat.add_mul, Nat.one_mul] at this
    omega
   refine VD.of_row (cs := arr.toList.take (l.length * τ.size)) hτ hlt hcap hmax (by simp; omega) (fun j hj hM => ?_) (fun j u hu => ?_) (fun i j u hi hj hu => hval i j u hi hj ?_)
   ·have g3 := R.hr.only (n := n) (o := .frz τ e l) hn rfl hb hM
    simp only [HO.mut] at g3
    omega
   ·rw [List.getElem?_take] at hu
    split at hu
    ·simp only [World.cell?, hh]
     simpa using hu
    ·cases hu
   ·rw [List.getElem?_take, if_pos (hbd i j hi hj)] at hu
    simpa using hu
theorem Rel.fill (R : Rel X β σ a w) {n : Nat} {τ : Ty} {e : Nat} {l : List τ.T} {j off b m : Nat} (hn : look σ.h n = some (.vh τ e l j off b m)) {x : LV} {cs : List LV} {u : τ.T}
  (hx : ∀ v, VL w (Mt β (look σ.h)) β (dm (look σ.h)) (.vr b m) v → VL w (Mt β (look σ.h)) β (dm (look σ.h)) x v) (hcs : setAt (dcells (τ.enc (l.getD j τ.d0)) 0 τ.size) off [x] = some cs) (hu : plainC τ cs = some u) :
  ∃ β' : Bt, Rel X β' { σ with h := (n, .vec τ e (l.set j u)) :: σ.h } a w ∧ Evo (Mt β (look σ.h)) (Mt β' (look ((n, HO.vec τ e (l.set j u)) :: σ.h))) w w ∧ BEvo β β' (dm (look σ.h)) (dm (look ((n, HO.vec τ e (l.set j u)) :: σ.h))) := by
 obtain ⟨k, cap, arr, h0, h1, h2, h3, h4, h5, h6, ⟨h7, h7'⟩, h8⟩ := R.hr.blk n _ hn
 have hbd : j * τ.size + τ.size ≤ arr.size := by
  rw [h5]
  have : (j + 1) * τ.size ≤ cap * τ.size := Nat.mul_le_mul_right _ (by omega)
  rw [Nat.add_mul, Nat.one_mul] at this
  omega
 have hcs' : cs = (dcells (τ.enc (l.getD j τ.d0)) 0 τ.size).set off x := by
  unfold setAt at hcs
  split at hcs
  ·injection hcs with hcs
   rw [← hcs, List.set_eq_take_append_cons_drop, if_pos (by rw [dcells_len]; exact h7')]; rfl
  ·cases hcs
 have hall : All2 (VL w (Mt β (look σ.h)) β (dm (look σ.h))) cs ((arr.toList.drop (j * τ.size)).take τ.size) := by
  rw [hcs']
  refine All2.of_get (by rw [List.length_set, dcells_len]; simp; omega) fun i q z hq hz => ?_
  have hil : i < τ.size := by
   have := (List.getElem?_eq_some_iff.1 hq).1
   rwa [List.length_set, dcells_len] at this
  rw [List.getElem?_take, if_pos hil, List.getElem?_drop] at hz
  by_cases e1 : off = i
  ·subst e1
   rw [List.getElem?_set_self (by rw [dcells_len]; exact h7')] at hq
   injection hq with hq
   subst hq
   exact hx _ (h8 z (by simpa using hz))
  ·rw [List.getElem?_set_ne e1, dcells_get _ _ _ _ hil] at hq
   injection hq with hq
   subst hq
   rw [Nat.zero_add]
   exact .d (h6 j i z h7 hil (fun e2 => e1 e2.2.symm) (by simpa using hz))
 obtain ⟨hul, huv⟩ := plainC_sound hu hall
 have hgetD : ∀ i, i < l.length → (l.set j u).getD i τ.d0 = if i = j then u else l.getD i τ.d0 := fun i hi => by
  rw [List.getD_eq_getElem?_getD, List.getD_eq_getElem?_getD, List.getElem?_set]
  by_cases e : j = i
  ·subst e; simp [hi]
  ·rw [if_neg e, if_neg (Ne.symm e)]
 obtain ⟨β', g1, g2, g3, g4, g5⟩ := R.set n (.vec τ e (l.set j u)) (fun o0 h => by rw [hn] at h; injection h with h; subst h; rfl) (β n) (β.o n) (w' := w) rfl rfl rfl (Nat.le_refl _) (fun _ _ _ => rfl) (fun _ _ _ _ _ => rfl)
  (fun k hk => ⟨R.hr.lt n k (by rw [hn]; simp) (.inl hk), .inl ⟨_, hn, hk, fun _ _ => trivial⟩⟩) (fun o0 _ => ⟨fun h => ⟨h, rfl⟩, fun u hu => ⟨u, hu, .inl rfl⟩⟩)
  (fun β' p1 p2 hev hbe => .inr ⟨k, cap, arr, by rw [List.length_set]; exact p2.trans h0, p1.trans h1, h2, by rw [List.length_set]; exact h3, h4, h5, fun i q z hi hq hz => by
   rw [List.length_set] at hi
   rw [hgetD i hi]
   by_cases e : i = j
   ·rw [if_pos e]
    subst e
    refine (huv q z ?_).evo hev
    rw [List.getElem?_take, if_pos hq, List.getElem?_drop]
    simpa using hz
   ·rw [if_neg e]
    exact (h6 i q z hi hq (fun e2 => e e2.1) hz).evo hev⟩)
 exact ⟨β', g1, g4, g5⟩
theorem frzL_sound (R : Rel X β σ a w) {x y : LV} {ps : List Prop} {es : List (Nat × HO)} (h : frzL σ.h x = (ps, (y, es))) (hp : ∀ p ∈ ps, p) :
  ∃ β', Rel X β' { σ with h := upds es σ.h } a w ∧ Evo (Mt β (look σ.h)) (Mt β' (look (upds es σ.h))) w w ∧ BEvo β β' (dm (look σ.h)) (dm (look (upds es σ.h))) ∧
   ∀ v, VL w (Mt β (look σ.h)) β (dm (look σ.h)) x v → VL w (Mt β' (look (upds es σ.h))) β' (dm (look (upds es σ.h))) y v := by
 have stay : ∀ z, ([], (z, [])) = (ps, (y, es)) → z = x → ∃ β', Rel X β' { σ with h := upds es σ.h } a w ∧ Evo (Mt β (look σ.h)) (Mt β' (look (upds es σ.h))) w w ∧ BEvo β β' (dm (look σ.h)) (dm (look (upds es σ.h))) ∧
   ∀ v, VL w (Mt β (look σ.h)) β (dm (look σ.h)) x v → VL w (Mt β' (look (upds es σ.h))) β' (dm (look (upds es σ.h))) y v := by
  intro z hz e
  injection hz with h1 h2
  injection h2 with h2 h3
  subst e h2 h3
  exact ⟨β, R, Evo.refl, BEvo.refl, fun _ h => h⟩
 unfold frzL at h
 split at h
 ·rename_i n k
  split at h
  ·rename_i τ e l hn
   split at h
   ·rename_i hτ
    injection h with h1 h2
    injection h2 with h2 h3
    subst h1 h2 h3
    obtain ⟨β', R', h1, h2, h3⟩ := R.freezeF hn (Nat.le_of_ble_eq_true hτ)
    exact ⟨β', R', h1, h2, fun v hv => h3 k v (hp _ (List.mem_singleton.2 rfl)) hv⟩
   ·exact stay _ h rfl
  ·rename_i τ e l hn
   split at h
   ·rename_i hτ
    injection h with h1 h2
    injection h2 with h2 h3
    subst h1 h2 h3
    exact ⟨β, R, Evo.refl, BEvo.refl, fun v hv => R.frozen hn (Nat.le_of_ble_eq_true hτ) (hp _ (List.mem_singleton.2 rfl)) hv⟩
   ·exact stay _ h rfl
  ·rename_i τ e l j off b m hn
   split at h
   ·rename_i τ' e' l' hb
    split at h
    ·rename_i cs hτ hτ' hcs
     split at h
     ·rename_i u hu
      injection h with h1 h2
      injection h2 with h2 h3
      subst h1 h2 h3
      have p1 : k = (l.set j u).length := hp _ (by simp)
      have p2 : m = l'.length := hp (m = l'.length) (by simp)
      have hne : b ≠ n := fun e => by subst e; rw [hn] at hb; cases hb
      obtain ⟨β1, R1, ev1, be1, _⟩ := R.freezeF hb (Nat.le_of_ble_eq_true hτ')
      have hb1 : look ((b, HO.frz τ' e' l') :: σ.h) b = some (.frz τ' e' l') := by rw [look_cons, if_pos rfl]
      have hn1 : look ((b, HO.frz τ' e' l') :: σ.h) n = some (.vh τ e l j off b m) := by rw [look_cons, if_neg hne]; exact hn
      obtain ⟨β2, R2, ev2, be2⟩ := R1.fill hn1 (fun v hv => R1.frozen hb1 (Nat.le_of_ble_eq_true hτ') p2 hv) hcs hu
      obtain ⟨β3, R3, ev3, be3, hv3⟩ := R2.freezeF (n := n) (by show look _ n = _; rw [look_cons, if_pos rfl]) (Nat.le_of_ble_eq_true hτ)
      exact ⟨β3, R3, ev1.trans (ev2.trans ev3), be1.trans (be2.trans be3), fun v hv => hv3 k v p1 ((hv.evo ev1 be1).evo ev2 be2)⟩
     ·exact stay _ h rfl
    ·exact stay _ h rfl
   ·exact stay _ h rfl
  ·exact stay _ h rfl
 ·exact stay _ h rfl
theorem frzLs_sound : ∀ {xs ys : List LV} {ps : List Prop} {es : List (Nat × HO)} {σ : St} {β : Bt}, Rel X β σ a w → frzLs σ.h xs = (ps, (ys, es)) → (∀ p ∈ ps, p) →
  ∃ β', Rel X β' { σ with h := upds es σ.h } a w ∧ Evo (Mt β (look σ.h)) (Mt β' (look (upds es σ.h))) w w ∧ BEvo β β' (dm (look σ.h)) (dm (look (upds es σ.h))) ∧
   ∀ vs, All2 (VL w (Mt β (look σ.h)) β (dm (look σ.h))) xs vs → All2 (VL w (Mt β' (look (upds es σ.h))) β' (dm (look (upds es σ.h)))) ys vs
 | [], ys, ps, es, σ, β, R, h, _ => by
  injection h with h1 h2
  injection h2 with h2 h3
  subst h2 h3
  exact ⟨β, R, Evo.refl, BEvo.refl, fun _ h => h⟩
 | x :: r, ys, ps, es, σ, β, R, h, hp => by
  unfold frzLs at h
  generalize h1 : frzL σ.h x = q1 at h
  obtain ⟨p1, y1, e1⟩ := q1
  simp only at h
  generalize h2 : frzLs (upds e1 σ.h) r = q2 at h
  obtain ⟨p2, y2, e2⟩ := q2
  simp only at h
  injection h with g1 g2
  injection g2 with g2 g3
  subst g1 g2 g3
  obtain ⟨β1, R1, a1, b1, c1⟩ := frzL_sound R h1 fun p hp' => hp p (List.mem_append_left _ hp')
  obtain ⟨β2, R2, a2, b2, c2⟩ := frzLs_sound (σ := { σ with h := upds e1 σ.h }) R1 h2 fun p hp' => hp p (List.mem_append_right _ hp')
  rw [upds_append]
  refine ⟨β2, R2, a1.trans a2, b1.trans b2, fun vs hvs => ?_⟩
  cases hvs with
  | cons hv hr => exact .cons (VL.evo a2 b2 (c1 _ hv)) (c2 _ (hr.mono fun _ _ _ h => VL.evo a1 b1 h))
theorem frzT_sound (R : Rel X β σ a w) {x y : TV} {ps : List Prop} {es : List (Nat × HO)} (h : frzT σ.h x = (ps, (y, es))) (hp : ∀ p ∈ ps, p) :
  ∃ β', Rel X β' { σ with h := upds es σ.h } a w ∧ Evo (Mt β (look σ.h)) (Mt β' (look (upds es σ.h))) w w ∧ BEvo β β' (dm (look σ.h)) (dm (look (upds es σ.h))) ∧
   ∀ v, VT w (Mt β (look σ.h)) β (dm (look σ.h)) x v → VT w (Mt β' (look (upds es σ.h))) β' (dm (look (upds es σ.h))) y v := by
 cases x with
 | one x =>
  simp only [frzT] at h
  rcases h1 : frzL σ.h x with ⟨p1, y1, e1⟩
  rw [h1] at h
  simp only at h
  injection h with g1 g2
  injection g2 with g2 g3
  subst g1 g2 g3
  exact frzL_sound R h1 hp
 | agg xs =>
  simp only [frzT] at h
  rcases h1 : frzLs σ.h xs with ⟨p1, y1, e1⟩
  rw [h1] at h
  simp only at h
  injection h with g1 g2
  injection g2 with g2 g3
  subst g1 g2 g3
  obtain ⟨β1, R1, a1, b1, c1⟩ := frzLs_sound R h1 hp
  exact ⟨β1, R1, a1, b1, fun v ⟨arr, e, hv⟩ => ⟨arr, e, c1 _ hv⟩⟩
theorem frzTs_sound : ∀ {xs ys : List TV} {ps : List Prop} {es : List (Nat × HO)} {σ : St} {β : Bt}, Rel X β σ a w → frzTs σ.h xs = (ps, (ys, es)) → (∀ p ∈ ps, p) →
  ∃ β', Rel X β' { σ with h := upds es σ.h } a w ∧ Evo (Mt β (look σ.h)) (Mt β' (look (upds es σ.h))) w w ∧ BEvo β β' (dm (look σ.h)) (dm (look (upds es σ.h))) ∧
   ∀ vs, All2 (VT w (Mt β (look σ.h)) β (dm (look σ.h))) xs vs → All2 (VT w (Mt β' (look (upds es σ.h))) β' (dm (look (upds es σ.h)))) ys vs
 | [], ys, ps, es, σ, β, R, h, _ => by
  injection h with h1 h2
  injection h2 with h2 h3
  subst h2 h3
  exact ⟨β, R, Evo.refl, BEvo.refl, fun _ h => h⟩
 | x :: r, ys, ps, es, σ, β, R, h, hp => by
  unfold frzTs at h
  generalize h1 : frzT σ.h x = q1 at h
  obtain ⟨p1, y1, e1⟩ := q1
  simp only at h
  generalize h2 : frzTs (upds e1 σ.h) r = q2 at h
  obtain ⟨p2, y2, e2⟩ := q2
  simp only at h
  injection h with g1 g2
  injection g2 with g2 g3
  subst g1 g2 g3
  obtain ⟨β1, R1, a1, b1, c1⟩ := frzT_sound R h1 fun p hp' => hp p (List.mem_append_left _ hp')
  obtain ⟨β2, R2, a2, b2, c2⟩ := frzTs_sound (σ := { σ with h := upds e1 σ.h }) R1 h2 fun p hp' => hp p (List.mem_append_right _ hp')
  rw [upds_append]
  refine ⟨β2, R2, a1.trans a2, b1.trans b2, fun vs hvs => ?_⟩
  cases hvs with
  | cons hv hr => exact .cons (VT.evo a2 b2 (c1 _ hv)) (c2 _ (hr.mono fun _ _ _ h => VT.evo a1 b1 h))
theorem frzA_sound (R : Rel X β σ a w) {x y : AV} {ps : List Prop} {es : List (Nat × HO)} (h : frzA σ.h x = (ps, (y, es))) (hp : ∀ p ∈ ps, p) :
  ∃ β', Rel X β' { σ with h := upds es σ.h } a w ∧ Evo (Mt β (look σ.h)) (Mt β' (look (upds es σ.h))) w w ∧ BEvo β β' (dm (look σ.h)) (dm (look (upds es σ.h))) ∧
   ∀ v, VA w (Mt β (look σ.h)) β (dm (look σ.h)) x v → VA w (Mt β' (look (upds es σ.h))) β' (dm (look (upds es σ.h))) y v := by
 cases x with
 | t x =>
  simp only [frzA] at h
  rcases h1 : frzT σ.h x with ⟨p1, y1, e1⟩
  rw [h1] at h
  simp only at h
  injection h with g1 g2
  injection g2 with g2 g3
  subst g1 g2 g3
  exact frzT_sound R h1 hp
 | nx b p c =>
  simp only [frzA] at h
  injection h with g1 g2
  injection g2 with g2 g3
  subst g1 g2 g3
  exact ⟨β, R, Evo.refl, BEvo.refl, fun v hv => hv⟩
 | tup xs =>
  simp only [frzA] at h
  rcases h1 : frzTs σ.h xs with ⟨p1, y1, e1⟩
  rw [h1] at h
  simp only at h
  injection h with g1 g2
  injection g2 with g2 g3
  subst g1 g2 g3
  obtain ⟨β1, R1, a1, b1, c1⟩ := frzTs_sound R h1 hp
  exact ⟨β1, R1, a1, b1, fun v ⟨arr, e, hv⟩ => ⟨arr, e, c1 _ hv⟩⟩
theorem good_vmakes (hL : LOk P L) (R : Rel X β σ a w) (hG : GOk a G) {o : Oper} {t : TypeId} {x y : Operand} (ho : o.op = .makeSlice t x y) {r : Res} (h : vMakeS L G σ t x y o.dst = some r) (hc : ∀ c ∈ r.c, c) : OpGood P X σ a w o r := by
 unfold vMakeS at h
 split at h
 ·rename_i n m hx hy
  split at h
  ·rename_i yt hyt
   split at h
   ·rename_i τ e by' hety
    split at h
    ·rename_i ye hye
     split at h
     ·rename_i v nm hv hn
      split at h
      ·rename_i hcond
       simp only [Bool.and_eq_true] at hcond
       have hs0 := Nat.le_of_ble_eq_true hcond.1
       have hs1 := Nat.le_of_ble_eq_true hcond.2
       replace hn := (rmFree_spec hn).1
       obtain rfl := Option.some.inj h
       have c1 : n = m := (hc _ (.head _) : m = n).symm
       have c2 : 0 ≤ n := hc _ (.tail _ (.head _))
       have c3 : n ≤ 1048576 := hc _ (.tail _ (.tail _ (.head _)))
       subst c1
       have vx := VT.int (opT_sound R hG hx)
       have vy := VT.int (opT_sound R hG hy)
       obtain ⟨hu, hτ, _, _, i, z, hi, hsz, hby, hz, hzs⟩ := (hL t yt hyt).ety τ e by' hety
       obtain ⟨z', hz1, _, hz3⟩ := (hL e ye hye).zero
       have hzz : z' = z := by
        have := hz1 w
        simp [zeroValue, typeInfo, hi, hz] at this
        exact this.symm
       subst hzz
       have he : sizeIs P e τ.size := by unfold sizeIs; simp [hi, hsz]
       obtain ⟨p1, p2⟩ := plainC_sound (w := w) (β := β) (M := Mt β (look σ.h)) (D := dm (look σ.h)) hv (wrapD_sound (hz3 w _))
       have hk : n = (n.toNat : Int) := (Int.toNat_of_nonneg c2).symm
       have hk2 : n.toNat ≤ 1048576 := Int.toNat_le.2 c3
       have hw : IntKind.i64.wrap n = n := wrap_i64 ⟨Int.le_trans (by decide) c2, Int.le_trans c3 (by decide)⟩
       have hb : by' * n.toNat ≤ 65536 * 1048576 := Nat.mul_le_mul hs1 hk2
       have hb2 : ((by' : Int) * n) ≤ 68719476736 := by
        rw [hk]
        have := Int.ofNat_le.2 hb
        rw [Int.natCast_mul] at this
        exact this
       have hb3 : n.toNat * by' ≤ 68719476736 := by rw [Nat.mul_comm]; exact hb
       have hzl : z'.cells.size = τ.size := hzs
       have hlen : (List.replicate n.toNat v).length = n.toNat := List.length_replicate
       have hz' : ∀ w, (zeroValue e).run P w = .ok z' w := hz1
       have arrsz : ((Array.range (n.toNat * τ.size)).map (fun q => (if n.toNat * τ.size = 0 then #[] else z'.cells)[q % (if n.toNat * τ.size = 0 then #[] else z'.cells).size]!)).size = n.toNat * τ.size := by simp
       obtain ⟨β', R', hv'⟩ := R.newVec (n := nm) (e := e) (l := List.replicate n.toNat v) (cs := ((Array.range (n.toNat * τ.size)).map (fun q => (if n.toNat * τ.size = 0 then #[] else z'.cells)[q % (if n.toNat * τ.size = 0 then #[] else z'.cells).size]!)).toList) (cap := n.toNat)
        (arr := (Array.range (n.toNat * τ.size)).map (fun q => (if n.toNat * τ.size = 0 then #[] else z'.cells)[q % (if n.toNat * τ.size = 0 then #[] else z'.cells).size]!))
        (w' := w.alloc (.cells ((Array.range (n.toNat * τ.size)).map (fun q => (if n.toNat * τ.size = 0 then #[] else z'.cells)[q % (if n.toNat * τ.size = 0 then #[] else z'.cells).size]!)) e)) ⟨rfl, rfl, rfl, rfl⟩ (fun o0 h => by rw [hn] at h; cases h) (fun o0 h => by rw [hn] at h; cases h)
        (by rw [hlen]; exact Nat.le_refl _) (by unfold maxLen; omega) (by rw [hlen]; simp) arrsz (by rw [hlen]; exact List.take_of_length_le (by simp))
        (fun i j u hi hj hu => by
         rw [hlen] at hi
         have hne : n.toNat * τ.size ≠ 0 := by
          have := Nat.mul_pos (show 0 < n.toNat by omega) hτ
          omega
         simp only [if_neg hne] at hu
         rw [rep_get hzl hi hj] at hu
         have := p2 j u hu
         have e1 : (List.replicate n.toNat v).getD i τ.d0 = v := by simp [List.getD, hi]
         rw [e1]; exact this)
       refine ⟨.value (.slice (some ⟨w.heap.size, 0, none⟩) n.toNat n.toNat), w.alloc (.cells ((Array.range (n.toNat * τ.size)).map (fun q => (if n.toNat * τ.size = 0 then #[] else z'.cells)[q % (if n.toNat * τ.size = 0 then #[] else z'.cells).size]!)) e), β', _, ?_, .inl rfl, R', ?_, by simp⟩
       ·have g1 : ¬ (n < 0) := by omega
        have g2 : ¬ ((by' : Int) * n > 2 ^ 48) := by omega
        have g3 : ¬ (n.toNat * by' > roomBytes) := by unfold roomBytes; omega
        have hti : ∀ w, (typeInfo e).run P w = .ok i w := fun w => by simp [typeInfo, hi]
        have d1 : decide (n < 0) = false := decide_eq_false g1
        have d2 : decide ((i.bytes : Int) * n > 2 ^ 48) = false := by rw [hby]; exact decide_eq_false g2
        have d3 : decide (n > n) = false := decide_eq_false (by omega)
        have d4 : ¬ (n.toNat * i.bytes > roomBytes) := by rw [hby]; exact g3
        simp only [execOp, ho, Sem.run_bind, Instr.makeSlice, run_underlying hu, Result.andThen_ok, vx, vy, asInt, asIntOf, hti, Sem.run_pure, hw, run_sizeOf he, askRoom, d1, d2, d3, if_neg d4, Bool.or_self, Bool.false_eq_true, if_false]
        by_cases h0 : n.toNat * τ.size = 0
        ·simp [h0, newRow]
        ·simp [h0, Sem.run_bind, hz', newRow]
       ·have e1 : n.toNat = (List.replicate n.toNat v).length := hlen.symm
        have := hv'
        rw [hlen] at this ⊢
        exact this
      ·cases h
     ·cases h
    ·cases h
   ·cases h
  ·cases h
 ·cases h
theorem good_vrows (hL : LOk P L) (R : Rel X β σ a w) (hG : GOk a G) {o : Oper} {t : TypeId} {len : Nat} {parts : Array (Nat × Operand)} (ho : o.op = .buildSlice t len parts) {r : Res} (h : vRows L G σ t len parts.toList o.dst = some r) : OpGood P X σ a w o r := by
 unfold vRows at h
 split at h
 ·rename_i y ps hy hps
  split at h
  ·rename_i τ e b hety
   split at h
   ·rename_i l hl
    split at h
    ·rename_i hcond
     simp only [Bool.and_eq_true, beq_iff_eq] at hcond
     obtain ⟨hcons, hlen, _, hmax⟩ := hcond
     have hmax := Nat.le_of_ble_eq_true hmax
     split at h
     ·rename_i n hn
      ·replace hn := (rmFree_spec hn).1
       obtain rfl := Option.some.inj h
       obtain ⟨hu, hτ, _, _, i, z, hi, hsz, _, hz, hzs⟩ := (hL t y hy).ety τ e b hety
       have he : sizeIs P e τ.size := by unfold sizeIs; simp [hi, hsz]
       have hz' : ∀ w, (zeroValue e).run P w = .ok z w := fun w => by simp [zeroValue, typeInfo, hi, hz]
       have hall := mapP_sound R hG hps
       generalize hqs : (parts.toList.map fun (i, x) => (i, a.eval x)) = qs at hall
       obtain ⟨hll, hrows⟩ := rowsOf_sound hl hall
       have hql : qs.length = len := by rw [← hall.length, hlen]
       have hspec : ∀ (k : Nat) (q : Nat × Value), qs[k]? = some q → q.1 = k ∧ q.2.cells.size = τ.size := by
        intro k q hq
        obtain ⟨p, hp, hpq, hv⟩ := hall.get' hq
        have h1 := consec_spec hcons k p hp
        exact ⟨by omega, (hrows k q hq).1⟩
       obtain ⟨arr', g1, g2⟩ := fill_rows τ.size qs 0 ((Array.range (len * τ.size)).map ((if len * τ.size = 0 then #[] else z.cells)[· % (if len * τ.size = 0 then #[] else z.cells).size]!)) (fun (k : Nat) (q : Nat × Value) hq => ⟨by have := (hspec k q hq).1; omega, (hspec k q hq).2⟩) (by simp [hql])
       simp only [Nat.zero_mul, List.take_zero, List.nil_append] at g2
       have hrowlen : ∀ r ∈ qs.map (·.2.cells.toList), r.length = τ.size := by
        intro r hr
        obtain ⟨q, hq, rfl⟩ := List.mem_map.1 hr
        obtain ⟨k, hk, hkq⟩ := List.mem_iff_getElem.1 hq
        simpa using (hspec k q (by rw [List.getElem?_eq_getElem hk, hkq])).2
       have hal : arr'.toList.length = l.length * τ.size := by rw [g2, flat_len τ.size _ hrowlen]; simp [hll]
       have hparts : parts.toList.map (fun x => (x.1, a.eval x.2)) = qs := hqs
       obtain ⟨β', R', hv⟩ := R.newVec (n := n) (e := e) (l := l) (cs := arr'.toList) (cap := l.length) (arr := arr') (w' := w.alloc (.cells arr' e)) ⟨rfl, rfl, rfl, rfl⟩ (fun o0 h => by rw [hn] at h; cases h) (fun o0 h => by rw [hn] at h; cases h) (Nat.le_refl _)
        (by
         have : l.length * 1 ≤ len * τ.size := by rw [hll, hql]; exact Nat.mul_le_mul_left _ (by omega)
         unfold maxLen
         omega) hal (by simpa using hal) (List.take_of_length_le (by omega)) (fun i j u hi hj hu => by
         rw [g2, flat_get τ.size _ hrowlen i j (by simpa using (by omega : i < qs.length)) hj] at hu
         have hi' : i < qs.length := by omega
         have h2 : (qs.map (·.2.cells.toList)).getD i [] = (qs[i]).2.cells.toList := by simp [List.getD, List.getElem?_eq_getElem hi']
         rw [h2] at hu
         exact (hrows i (qs[i]) (List.getElem?_eq_getElem hi')).2 j u (by simpa using hu))
       refine ⟨.value (.slice (some ⟨w.heap.size, 0, none⟩) len len), w.alloc (.cells arr' e), β', _, ?_, .inl rfl, R', ?_, by simp⟩
       ·simp only [execOp, ho, Sem.run_bind, Instr.buildSlice, run_underlying hu, Result.andThen_ok, run_sizeOf he]
        rw [if_neg (by omega)]
        by_cases h0 : len * τ.size = 0
        ·rw [if_pos h0] at g1
         have hq0 : qs = [] := List.eq_nil_of_length_eq_zero (by
          rcases Nat.mul_eq_zero.1 h0 with h | h
          ·omega
          ·omega)
         rw [hq0, h0] at g1
         simp [Instr.fill] at g1
         subst g1
         simp [hparts, h0, hq0, Instr.fill, newRow]
        ·rw [if_neg h0] at g1
         rw [if_neg h0]
         simp [Sem.run_bind, hz', hparts, g1, newRow]
       ·have e1 : len = l.length := by omega
        rw [e1]
        exact hv
     ·cases h
    ·cases h
   ·cases h
  ·cases h
 ·cases h

theorem good_vindex (hL : LOk P L) (R : Rel X β σ a w) (hG : GOk a G) {o : Oper} {t : TypeId} {p q : Operand} (ho : o.op = .indexAddr t p q) {r : Res} (h : vIndex L G σ t p q = some r) (hc : ∀ c ∈ r.c, c) : OpGood P X σ a w o r := by
 unfold vIndex at h
 split at h
 ·rename_i y n k kk j hy hp hq
  split at h
  ·rename_i τ e l sz hn hel
   split at h
   ·rename_i hsz
    subst hsz
    obtain rfl := Option.some.inj h
    obtain ⟨e', hu, he, hne⟩ := (hL t y hy).el τ.size hel
    have h0 : 0 ≤ j := hc _ (by simp)
    have h1 : j < (l.length : Int) := hc (j < l.length) (by simp)
    have h2 : k = l.length := hc (k = l.length) (by simp)
    have hqv := VT.int (opT_sound R hG hq)
    have hpv := opT_sound R hG hp
    generalize hev : a.eval p = pv at hpv
    cases hpv with
    | vr hs hk hov =>
     obtain ⟨ho1, hcase⟩ := vec_open R.hr hn hov (hk.trans h2)
     rcases hcase with ⟨rfl, _, hl⟩ | ⟨b, cap, arr, rfl, hb, hh, hcap, hmax, hsz, hval⟩
     ·subst hl; simp at h1; omega
     ·refine OpGood.pure R (v := .pointer (some ⟨b, j.toNat * τ.size, none⟩)) ?_ rfl (VL.vp ⟨hov.1, ⟨_, rfl⟩, _, ho1, by simp [hlen], fun _ => ⟨b, cap, rfl, rfl⟩⟩) (by simp)
      simp only [execOp, ho, Sem.run_bind, hev, hqv, Instr.indexAt, asIntOf, Sem.run_pure, Result.andThen_ok, run_underlying hu]
      rw [if_pos ⟨h0, h1⟩]
      simp [run_sizeOf he, Addr.add_lit]
   ·cases h
  ·rename_i τ e l jh oh bh mh sz hn hel
   split at h
   ·rename_i hsz
    subst hsz
    obtain rfl := Option.some.inj h
    obtain ⟨e', hu, he, hne⟩ := (hL t y hy).el τ.size hel
    have h0 : 0 ≤ j := hc _ (by simp)
    have h1 : j < (l.length : Int) := hc (j < l.length) (by simp)
    have h2 : k = l.length := hc (k = l.length) (by simp)
    have hqv := VT.int (opT_sound R hG hq)
    have hpv := opT_sound R hG hp
    generalize hev : a.eval p = pv at hpv
    cases hpv with
    | vr hs hk hov =>
     obtain ⟨ho1, b, cap, rfl⟩ := vh_open R.hr hn hov (hk.trans h2)
     refine OpGood.pure R (v := .pointer (some ⟨b, j.toNat * τ.size, none⟩)) ?_ rfl (VL.vp ⟨hov.1, ⟨_, rfl⟩, _, ho1, by simp [hlen], fun _ => ⟨b, cap, rfl, rfl⟩⟩) (by simp)
     simp only [execOp, ho, Sem.run_bind, hev, hqv, Instr.indexAt, asIntOf, Sem.run_pure, Result.andThen_ok, run_underlying hu]
     rw [if_pos ⟨h0, h1⟩]
     simp [run_sizeOf he, Addr.add_lit]
   ·cases h
  ·cases h
 ·cases h

theorem good_vfield (hL : LOk P L) (R : Rel X β σ a w) (hG : GOk a G) {o : Oper} {t : TypeId} {p : Operand} {i : Nat} (ho : o.op = .fieldAddr t p i) {r : Res} (h : vField L G σ t p i = some r) (hc : ∀ c ∈ r.c, c) : OpGood P X σ a w o r := by
 unfold vField at h
 split at h
 ·rename_i y n k sz j off wd hy hp
  split at h
  ·rename_i fo fsz τ e l hf hn
   split at h
   ·rename_i hle
    obtain rfl := Option.some.inj h
    have h2 : k = l.length := hc _ (by simp)
    have h3 : j < l.length := hc (j < l.length) (by simp)
    have hpv := opT_sound R hG hp
    generalize hev : a.eval p = pv at hpv
    cases hpv with
    | vp hvp =>
     obtain ⟨b, cap, arr, rfl, ho1, hb, hh, hcap, hmax, hsz, hval⟩ := vp_open R.hr hn hvp h2 h3
     refine OpGood.pure R (v := .pointer (some ⟨b, j * sz + (off + fo), none⟩)) ?_ rfl (VL.vp ⟨hvp.1, ⟨_, rfl⟩, _, ho1, by simp [hlen, h2], fun _ => ⟨b, cap, by rw [h2], rfl⟩⟩) (by simp)
     simp only [execOp, ho, Sem.run_bind, hev, run_fieldAt (hL t y hy) hf, Result.andThen_ok, Sem.run_pure, Addr.add_lit, Nat.add_assoc]
   ·cases h
  ·rename_i fo fsz τ e l jh oh bh mh hf hn
   split at h
   ·rename_i hle
    obtain rfl := Option.some.inj h
    have h2 : k = l.length := hc _ (by simp)
    have hpv := opT_sound R hG hp
    generalize hev : a.eval p = pv at hpv
    cases hpv with
    | vp hvp =>
     obtain ⟨b, cap, arr, rfl, ho1, hb, hh, hcap, hmax, hsz, hval⟩ := vph_open R.hr hn hvp h2
     refine OpGood.pure R (v := .pointer (some ⟨b, j * sz + (off + fo), none⟩)) ?_ rfl (VL.vp ⟨hvp.1, ⟨_, rfl⟩, _, ho1, by simp [hlen, h2], fun _ => ⟨b, cap, by rw [h2], rfl⟩⟩) (by simp)
     simp only [execOp, ho, Sem.run_bind, hev, run_fieldAt (hL t y hy) hf, Result.andThen_ok, Sem.run_pure, Addr.add_lit, Nat.add_assoc]
   ·cases h
  ·cases h
 ·cases h

theorem good_vload (hL : LOk P L) (R : Rel X β σ a w) (hG : GOk a G) {o : Oper} {t : TypeId} {p : Operand} (ho : o.op = .load t p) {r : Res} (h : vLoad L G σ t p = some r) (hc : ∀ c ∈ r.c, c) : OpGood P X σ a w o r := by
 unfold vLoad at h
 split at h
 ·rename_i y n k sz j off wd hy hp
  split at h
  ·rename_i τ e l hn
   split at h
   ·rename_i hsz
    obtain ⟨hsz, hle⟩ := hsz
    subst hsz
    split at h
    ·rename_i x hx
     obtain rfl := Option.some.inj h
     have h2 : k = l.length := hc _ (by simp)
     have h3 : j < l.length := hc (j < l.length) (by simp)
     have hpv := opT_sound R hG hp
     generalize hev : a.eval p = pv at hpv
     cases hpv with
     | vp hvp =>
      obtain ⟨b, cap, arr, rfl, ho1, hb, hh, hcap, hmax, hsz, hval⟩ := vp_open R.hr hn hvp h2 h3
      have hbd : j * τ.size + τ.size ≤ arr.size := by
       rw [hsz]
       have : (j + 1) * τ.size ≤ cap * τ.size := Nat.mul_le_mul_right _ (by omega)
       rw [Nat.add_mul, Nat.one_mul] at this
       omega
      have hlen : ((arr.toList.drop (j * τ.size + off)).take y.size).length = y.size := by simp; omega
      have hrun := run_loadVar (w := w) (P := P) (hL t y hy) (p := ⟨b, j * τ.size + off, none⟩) (vs := (arr.toList.drop (j * τ.size + off)).take y.size) hlen (fun i v hi => by
       have hil : i < y.size := by
        have := (List.getElem?_eq_some_iff.1 hi).1
        rw [List.length_take] at this; omega
       rw [List.getElem?_take, if_pos hil, List.getElem?_drop] at hi
       rw [Addr.add_lit]
       simpa [World.cell?, hh] using hi)
      refine OpGood.pure R (v := _) ?_ rfl (asTV_sound (All2.of_get (by rw [dcells_len, hlen]) fun i u v hu hv => ?_) hx) (by simp)
      ·simp only [execOp, ho, Instr.loadAt, Instr.sureAddr, hev, Sem.run_bind, Sem.run_pure, Result.andThen_ok, hrun]
      ·have hil : i < y.size := by
        have := (List.getElem?_eq_some_iff.1 hu).1
        rwa [dcells_len] at this
       rw [dcells_get _ _ _ _ hil] at hu
       injection hu with hu
       subst hu
       rw [List.getElem?_take, if_pos hil, List.getElem?_drop] at hv
       rw [Nat.zero_add]
       exact .d (hval j (off + i) v h3 (by omega) (by rw [← Nat.add_assoc]; simpa using hv))
    ·cases h
   ·cases h
  ·rename_i τ e l j0 off0 b0 m0 hn
   split at h
   ·rename_i hsz
    obtain ⟨hsz, rfl, hy1, hya⟩ := hsz
    subst hsz
    obtain rfl := Option.some.inj h
    have h2 : k = l.length := hc _ (by simp)
    have h3 : j < l.length := hc (j < l.length) (by simp)
    have h4 : j = j0 := hc (j = j0) (by simp)
    subst h4
    have hpv := opT_sound R hG hp
    generalize hev : a.eval p = pv at hpv
    cases hpv with
    | vp hvp =>
     obtain ⟨b, cap, arr, rfl, ho1, hb, hh, hcap, hmax, hsz, hval, ⟨_, hoff⟩, hhole⟩ := vph_open R.hr hn hvp h2
     have hbd : j * τ.size + τ.size ≤ arr.size := by
      rw [hsz]
      have : (j + 1) * τ.size ≤ cap * τ.size := Nat.mul_le_mul_right _ (by omega)
      rw [Nat.add_mul, Nat.one_mul] at this
      omega
     have hget := Array.getElem?_eq_getElem (xs := arr) (i := j * τ.size + off) (by omega)
     have hrun := run_loadVar (w := w) (P := P) (hL t y hy) (p := ⟨b, j * τ.size + off, none⟩) (vs := [arr[j * τ.size + off]'(by omega)]) hy1.symm (fun i v hi => by
      rw [Addr.add_lit]
      cases i with
      | zero =>
       simp only [List.getElem?_cons_zero] at hi
       injection hi with hi
       subst hi
       simp [World.cell?, hh]
      | succ i => simp at hi)
     refine OpGood.pure R (v := _) ?_ rfl (hhole _ hget) (by simp)
     simp only [execOp, ho, Instr.loadAt, Instr.sureAddr, hev, Sem.run_bind, Sem.run_pure, Result.andThen_ok, hrun, hya]
     rfl
   ·cases h
  ·cases h
 ·cases h

theorem splice_get {α : Type _} {A vs : List α} {b sz off q : Nat} (h : b + sz ≤ A.length) (ho : off + vs.length ≤ sz) (hq : q < sz) :
  (A.take (b + off) ++ (vs ++ A.drop (b + off + vs.length)))[b + q]? = (((A.drop b).take sz).take off ++ (vs ++ ((A.drop b).take sz).drop (off + vs.length)))[q]? := by
 have hb : (A.take b).length = b := by rw [List.length_take]; omega
 have hd : sz ≤ (A.drop b).length := by rw [List.length_drop]; omega
 rw [List.take_add, List.append_assoc, List.getElem?_append_right (by omega), hb, Nat.add_sub_cancel_left, Nat.add_assoc, ← List.drop_drop]
 generalize A.drop b = D at *
 have e1 : (D.take sz).take off = D.take off := by rw [List.take_take, Nat.min_eq_left (by omega)]
 have e2 : (D.take sz).drop (off + vs.length) = (D.drop (off + vs.length)).take (sz - (off + vs.length)) := by rw [List.drop_take]
 have hl : (D.take off).length = off := by rw [List.length_take]; omega
 have e3 : (D.take off ++ (vs ++ D.drop (off + vs.length))).take sz = D.take off ++ (vs ++ (D.drop (off + vs.length)).take (sz - (off + vs.length))) := by
  rw [List.take_append, List.take_append, hl, List.take_of_length_le (by omega), List.take_of_length_le (l := vs) (by omega)]
  congr 3
  omega
 rw [e1, e2, ← e3, List.getElem?_take, if_pos hq]

theorem good_vstore (hL : LOk P L) (R : Rel X β σ a w) (hG : GOk a G) {o : Oper} {t : TypeId} {p x : Operand} (ho : o.op = .store t p x) {r : Res} (h : vStore L G σ t p x = some r) (hc : ∀ c ∈ r.c, c) : OpGood P X σ a w o r := by
 unfold vStore at h
 split at h
 ·rename_i y n k sz j off wd v hy hp hx
  split at h
  ·rename_i hsz0
   split at h
   ·rename_i τ e l hn
    split at h
    ·rename_i cs hcs
     split at h
     ·rename_i u hu
      split at h
      ·rename_i hsz
       subst hsz
       obtain rfl := Option.some.inj h
       have h2 : k = l.length := hc _ (by simp)
       have h3 : j < l.length := hc (j < l.length) (by simp)
       have hpv := opT_sound R hG hp
       have hcells := VT.cells (nilT_sound (L := L) (t := t) (opT_sound R hG hx))
       generalize hev : a.eval p = pv at hpv
       cases hpv with
       | vp hvp =>
        obtain ⟨b, cap, arr, rfl, ho1, hb, hh, hcap, hmax, hsz, hval⟩ := vp_open R.hr hn hvp h2 h3
        have hbd : j * τ.size + τ.size ≤ arr.size := by
         rw [hsz]
         have : (j + 1) * τ.size ≤ cap * τ.size := Nat.mul_le_mul_right _ (by omega)
         rw [Nat.add_mul, Nat.one_mul] at this
         omega
        -- the element's cells, before and after
        have hold : All2 (VL w (Mt β (look σ.h)) β (dm (look σ.h))) (dcells (τ.enc (l.getD j τ.d0)) 0 τ.size) ((arr.toList.drop (j * τ.size)).take τ.size) := by
         refine All2.of_get (by rw [dcells_len]; simp; omega) fun i q z hq hz => ?_
         have hil : i < τ.size := by
          have := (List.getElem?_eq_some_iff.1 hq).1
          rwa [dcells_len] at this
         rw [dcells_get _ _ _ _ hil] at hq
         injection hq with hq
         subst hq
         rw [List.getElem?_take, if_pos hil, List.getElem?_drop] at hz
         rw [Nat.zero_add]
         exact .d (hval j i z h3 hil (by simpa using hz))
        obtain ⟨hle, hnew⟩ := setAt_all2 hold hcells hcs
        obtain ⟨hul, huv⟩ := plainC_sound hu hnew
        have hlen1 : ((arr.toList.drop (j * τ.size)).take τ.size).length = τ.size := by simp; omega
        rw [hlen1] at hle
        have hle' : j * τ.size + off + 0 + (a.eval x).cells.toList.length ≤ arr.size := by omega
        obtain ⟨w', g1, g2, g3, g4, g5, g6, g7⟩ := run_storeCells (P := P) (a.eval x).cells.toList w b (j * τ.size + off) 0 arr e hh hle' hcells.ones
        have hcl : (a.eval x).cells.toList.length = (a.eval x).cells.size := Array.length_toList
        have hlt := R.hr.lt n b (by rw [hn]; simp) (.inl hb)
        have hgetD : ∀ i, i < l.length → (l.set j u).getD i τ.d0 = if i = j then u else l.getD i τ.d0 := fun i hi => by
         rw [List.getD_eq_getElem?_getD, List.getD_eq_getElem?_getD, List.getElem?_set]
         by_cases e : j = i
         ·subst e; simp [hi]
         ·rw [if_neg e, if_neg (Ne.symm e)]
        have hsize : (arr.toList.take (j * τ.size + off + 0) ++ ((a.eval x).cells.toList ++ arr.toList.drop (j * τ.size + off + 0 + (a.eval x).cells.toList.length))).toArray.size = arr.size := by
         simp only [List.size_toArray, List.length_append, List.length_take, List.length_drop, Array.length_toList]
         omega
        obtain ⟨β', R', q1, q2, q3, q4⟩ := R.set n (.vec τ e (l.set j u)) (fun o0 h => by rw [hn] at h; injection h with h; subst h; rfl) (some b) (some (.slice (some ⟨b, 0, none⟩) l.length cap)) (w' := w') g5 g6 g7 (by omega)
         (fun q _ hq => g4 q fun e => hq _ hn (by rw [e]; exact hb))
         (fun o0 p h _ hm => by rw [hn] at h; injection h with h; subst h; exact absurd trivial hm) (fun q hq => by injection hq with hq; subst hq; exact ⟨by omega, .inl ⟨_, hn, hb, fun _ _ => trivial⟩⟩)
         (fun o0 _ => ⟨(fun h => by rw [ho1] at h; cases h), fun z hz => ⟨_, rfl, .inl (by rw [ho1] at hz; injection hz)⟩⟩)
         (fun β' p1 p2 hev2 hbe => .inr ⟨b, cap, _, by rw [List.length_set]; exact p2, p1, g2, by rw [List.length_set]; exact hcap, hmax, hsize.trans hsz, fun i q z hi hq hz => by
          rw [List.length_set] at hi
          rw [hgetD i hi]
          have hz' : (arr.toList.take (j * τ.size + off) ++ ((a.eval x).cells.toList ++ arr.toList.drop (j * τ.size + off + (a.eval x).cells.toList.length)))[i * τ.size + q]? = some z := by simpa using hz
          by_cases e : i = j
          ·rw [if_pos e]
           subst e
           refine (huv q z ?_).evo hev2
           rw [← hz']
           exact (splice_get (A := arr.toList) (b := i * τ.size) (sz := τ.size) (off := off) (by simpa using hbd) hle hq).symm
          ·rw [if_neg e]
           refine (hval i q z hi hq ?_).evo hev2
           rw [← Array.getElem?_toList, ← hz']
           have hdis : i * τ.size + q < j * τ.size ∨ (j + 1) * τ.size ≤ i * τ.size + q := by
            rcases Nat.lt_or_gt_of_ne e with e | e
            ·left
             have : (i + 1) * τ.size ≤ j * τ.size := Nat.mul_le_mul_right _ e
             rw [Nat.add_mul, Nat.one_mul] at this
             omega
            ·right
             have : (j + 1) * τ.size ≤ i * τ.size := Nat.mul_le_mul_right _ e
             omega
           rw [Nat.add_mul, Nat.one_mul] at hdis
           rcases hdis with hd | hd
           ·rw [List.getElem?_append_left (by simp; omega), List.getElem?_take, if_pos (by omega)]
           ·rw [List.getElem?_append_right (by simp; omega), List.getElem?_append_right (by simp; omega), List.getElem?_drop]
            congr 1
            simp; omega⟩)
        refine ⟨.skip, w', β', undef, ?_, .inr ⟨rfl, rfl⟩, R', ⟨#[], rfl, .nil⟩, by simp⟩
        have hsz' : (a.eval x).cells.size = y.size := by
         have := hcells.length; rw [hsz0] at this; simpa using this.symm
        simp only [execOp, ho, Sem.run_bind, Instr.storeAt, Instr.sureAddr, hev, Sem.run_pure, Result.andThen_ok, storeVar, run_sizeOf (hL t y hy).size, hsz']
        simp [g1]
      ·cases h
     ·split at h
      ·rename_i b0 m0 hvr
       split at h
       ·rename_i hsz
        obtain ⟨hsz, hoff⟩ := hsz
        subst hsz
        obtain rfl := Option.some.inj h
        have h2 : k = l.length := hc _ (by simp)
        have h3 : j < l.length := hc (j < l.length) (by simp)
        have hpv := opT_sound R hG hp
        have hcells := VT.cells (nilT_sound (L := L) (t := t) (opT_sound R hG hx))
        have hones := hcells.ones
        rw [hvr] at hcells hsz0
        have hone : y.size = 1 := hsz0.symm
        generalize hev : a.eval p = pv at hpv
        cases hpv with
        | vp hvp =>
         obtain ⟨b, cap, arr, rfl, ho1, hb, hh, hcap, hmax, hsz, hval⟩ := vp_open R.hr hn hvp h2 h3
         have hbd : j * τ.size + τ.size ≤ arr.size := by
          rw [hsz]
          have : (j + 1) * τ.size ≤ cap * τ.size := Nat.mul_le_mul_right _ (by omega)
          rw [Nat.add_mul, Nat.one_mul] at this
          omega
         generalize hxs : (a.eval x).cells.toList = xs at hcells hones
         obtain ⟨x0, rfl, hx0⟩ : ∃ x0, xs = [x0] ∧ VL w (Mt β (look σ.h)) β (dm (look σ.h)) (.vr b0 m0) x0 := by
          cases hcells with
          | cons g1 g2 => cases g2; exact ⟨_, rfl, g1⟩
         have hle' : j * τ.size + off + 0 + [x0].length ≤ arr.size := by simp only [List.length_singleton]; omega
         obtain ⟨w', g1, g2, g3, g4, g5, g6, g7⟩ := run_storeCells (P := P) [x0] w b (j * τ.size + off) 0 arr e hh hle' hones
         have hlt := R.hr.lt n b (by rw [hn]; simp) (.inl hb)
         have hset : (arr.toList.take (j * τ.size + off + 0) ++ ([x0] ++ arr.toList.drop (j * τ.size + off + 0 + [x0].length))) = arr.toList.set (j * τ.size + off) x0 := by
          rw [List.set_eq_take_append_cons_drop, if_pos (by simp; omega)]; rfl
         rw [hset] at g2
         obtain ⟨β', R', q1, q2, q3, q4⟩ := R.set n (.vh τ e l j off b0 m0) (fun o0 h => by rw [hn] at h; injection h with h; subst h; rfl) (some b) (some (.slice (some ⟨b, 0, none⟩) l.length cap)) (w' := w') g5 g6 g7 (by omega)
          (fun q _ hq => g4 q fun e => hq _ hn (by rw [e]; exact hb))
          (fun o0 p h _ hm => by rw [hn] at h; injection h with h; subst h; exact absurd trivial hm) (fun q hq => by injection hq with hq; subst hq; exact ⟨by omega, .inl ⟨_, hn, hb, fun _ _ => trivial⟩⟩)
          (fun o0 _ => ⟨(fun h => by rw [ho1] at h; cases h), fun z hz => ⟨_, rfl, .inl (by rw [ho1] at hz; injection hz)⟩⟩)
          (fun β' p1 p2 hev2 hbe => ⟨b, cap, _, p2, p1, g2, hcap, hmax, by simpa using hsz, fun i q z hi hq hne hz => by
           refine (hval i q z hi hq ?_).evo hev2
           have hz' : (arr.toList.set (j * τ.size + off) x0)[i * τ.size + q]? = some z := by simpa using hz
           rw [List.getElem?_set_ne] at hz'
           ·simpa using hz'
           ·intro e1
            rcases Nat.lt_trichotomy i j with e2 | e2 | e2
            ·have : (i + 1) * τ.size ≤ j * τ.size := Nat.mul_le_mul_right _ e2
             rw [Nat.add_mul, Nat.one_mul] at this
             omega
            ·subst e2; exact hne ⟨rfl, by omega⟩
            ·have : (j + 1) * τ.size ≤ i * τ.size := Nat.mul_le_mul_right _ e2
             rw [Nat.add_mul, Nat.one_mul] at this
             omega, ⟨h3, hoff⟩, fun u hu => by
           have hu' : (arr.toList.set (j * τ.size + off) x0)[j * τ.size + off]? = some u := by simpa using hu
           rw [List.getElem?_set_self (by simp; omega)] at hu'
           injection hu' with hu'
           subst hu'
           exact hx0.evo hev2 hbe⟩)
         refine ⟨.skip, w', β', undef, ?_, .inr ⟨rfl, rfl⟩, R', ⟨#[], rfl, .nil⟩, by simp⟩
         have hsz' : (a.eval x).cells.size = y.size := by rw [hone, ← Array.length_toList, hxs]; rfl
         simp only [execOp, ho, Sem.run_bind, Instr.storeAt, Instr.sureAddr, hev, Sem.run_pure, Result.andThen_ok, storeVar, run_sizeOf (hL t y hy).size, hsz', hxs]
         simp [g1]
       ·cases h
      ·cases h
    ·cases h
   ·cases h
  ·cases h
 ·cases h

theorem good_vcall {F : Fence} (hF : Wide F) {n : Nat} (hpr : X.b0.pr = P) (hΓ : ConOk P Γ) (R : Rel X β σ a w) (hG : GOk a G) {o : Oper} {f : Operand} {args : Array Operand} {ts : Array TypeId} (ho : o.op = .call { callee := .value f, args := args, argTypes := ts }) {fr : Nat}
  {r : Res} (h : vCall L Γ G σ f args.toList ts.toList fr = some r) (hc : ∀ c ∈ r.c, c) {next : Act → World → Prop} {Q : Exit → Act → World → Prop}
  (hn : ∀ v w' β', Rel X β' { σ with h := upds r.h σ.h } a w' → VA w' (Mt β' (look (upds r.h σ.h))) β' (dm (look (upds r.h σ.h))) r.v v → next (a.put o.dst v) w') :
  r.f = [] ∧ o.wpIn F n P a w next Q := by
 unfold vCall at h
 split at h
 ·rename_i r' hr'
  injection h with h; subst h
  exact good_call hF hpr hΓ R hG ho hr' hc hn
 ·split at h
  ·rename_i xs fid fi ca hxs hf
   split at h
   ·rename_i con ps ys es hcon hfz
    split at h
    ·rename_i cs rv up hr
     obtain rfl := Option.some.inj h
     refine ⟨rfl, ?_⟩
     obtain ⟨β1, R1, ev, be, hys⟩ := frzTs_sound R hfz fun p hp => hc p (List.mem_append_left _ hp)
     have hfv := opT_sound R hG hf
     generalize hev : a.eval f = fv at hfv
     cases hfv with
     | @clo _ _ _ vf vc h1 h2 =>
      have hall := (ptrs_sound (w := w) (M := Mt β1 (look (upds es σ.h))) (h1.mono fun _ _ _ h => h.evo be)).append ((hys _ (nilTs_sound (L := L) (ts := ts.toList) (stT_sound (mapT_sound R hG hxs)))).append (ptrs_sound (w := w) (M := Mt β1 (look (upds es σ.h))) (h2.mono fun _ _ _ h => h.evo be)))
      refine call_core hF hpr hΓ R1 ho hev hcon hall hr (fun c hc' => hc c (List.mem_append_right _ hc')) fun v w' β' R' hv => ?_
      simp only [upds_append] at hn
      exact hn v w' β' R' hv
    ·cases h
   ·cases h
  ·cases h

theorem good_vslice (hL : LOk P L) (R : Rel X β σ a w) (hG : GOk a G) {o : Oper} {t : TypeId} {x : Operand} {lo hi mx : Option Operand} (ho : o.op = .slice t x lo hi mx) {r : Res} (h : vSlice L G σ t x lo hi mx = some r) (hc : ∀ c ∈ r.c, c) : OpGood P X σ a w o r := by
 unfold vSlice at h
 split at h
 ·rename_i _ y n k hy hx
  split at h
  ·rename_i τ e l hn
   split at h
   ·rename_i sz p q hel hp hq
    split at h
    ·rename_i hsz
     subst hsz
     obtain rfl := Option.some.inj h
     obtain ⟨e', hu, he, hne⟩ := (hL t y hy).el τ.size hel
     have hk : k = l.length := hc _ (by simp)
     have h0 : 0 ≤ p := hc (0 ≤ p) (by simp)
     have h1 : p ≤ q := hc (p ≤ q) (by simp)
     have h2 : q ≤ (l.length : Int) := hc (q ≤ (l.length : Int)) (by simp)
     obtain ⟨β', R', _, _, hfr⟩ := R.freeze hn (by omega)
     obtain ⟨ad, cap, hev, hcap, hv⟩ := VD.cut (by have := hfr k _ hk (opT_sound R hG hx); cases this with | d h => exact h) (i := p.toNat) (j := q.toNat) (by omega) (by omega)
     refine ⟨.value (.slice (if cap = p.toNat then ad else ad.map (·.add (p.toNat * τ.size))) (q.toNat - p.toNat) (cap - p.toNat)), w, β', _, ?_, .inl rfl, R', VL.d hv, fun p hp => by cases hp⟩
     have hb : (Instr.sliceBounds true l.length cap (lo.map a.eval) (hi.map a.eval) none).run P w = .ok (p.toNat, q.toNat, cap) w := by
      refine run_sliceBounds ?_ ?_ h0 h1 (by omega)
      ·rcases bnd_sound R hG hq with ⟨rfl, rfl⟩ | ⟨oh, k, rfl, hoh⟩
       ·exact .inl ⟨rfl, rfl⟩
       ·exact .inr ⟨k, by simp [hoh]⟩
      ·rcases bnd_sound R hG hp with ⟨rfl, rfl⟩ | ⟨oh, k, rfl, hoh⟩
       ·exact .inl ⟨rfl, rfl⟩
       ·exact .inr ⟨k, by simp [hoh]⟩
     simp only [execOp, ho, Sem.run_bind, Instr.sliceAt, Instr.slice, run_underlying hu, Result.andThen_ok, hev, Option.map_none, hb, run_sizeOf he, Sem.run_pure]
    ·cases h
   ·cases h
  ·cases h
 ·cases h

theorem Rel.appendV (R : Rel X β σ a w) {t ty e b n : Nat} {τ : Ty} {l l' : List τ.T} {v vx : Value} {i : TypeInfo} {z : Value} (hu : P.underlying t = some (.slice e)) (hi : P.info? e = some i) (hsz : i.size = τ.size) (hby : i.bytes = b)
  (hz : i.zero = some z) (hzs : z.cells.size = τ.size) (hx : VD w (Mt β (look σ.h)) (.sl τ l') vx)
  (hst : (look σ.h n = none ∧ v = .slice none 0 0 ∧ l = []) ∨ (look σ.h n = some (.vec τ e l) ∧ OV β (dm (look σ.h)) n v ∧ hlen v = l.length)) (hbytes : (l.length + l'.length) * b ≤ 140737488355328) (hb0 : 0 < b) :
  ∃ v' w' β', (Builtin.append_ #[t, t] ty #[v, vx]).run P w = .ok v' w' ∧ Rel X β' { σ with h := (n, .vec τ e (l ++ l')) :: σ.h } a w' ∧
   VL w' (Mt β' (look ((n, HO.vec τ e (l ++ l')) :: σ.h))) β' (dm (look ((n, HO.vec τ e (l ++ l')) :: σ.h))) (.vr n (l ++ l').length) v' := by
 have hbig : l.length + l'.length ≤ 140737488355328 := Nat.le_trans (Nat.le_mul_of_pos_right _ hb0) hbytes
 obtain ⟨ad', cap', cs', hev', hcl', hnil', hone', hcell', hval'⟩ := hx.row
 have hst' : (look σ.h n = none ∧ v = .slice none 0 0 ∧ l = []) ∨ (look σ.h n = some (.vec τ e l) ∧ β.o n = some v ∧ ((v = .slice none 0 0 ∧ β n = none ∧ l = []) ∨ ∃ b cap arr, v = .slice (some ⟨b, 0, none⟩) l.length cap ∧ β n = some b ∧ w.heap[b]? = some (.cells arr e (0, 0)) ∧ l.length ≤ cap ∧ cap ≤ maxLen ∧ arr.size = cap * τ.size ∧
   ∀ i j u, i < l.length → j < τ.size → arr[i * τ.size + j]? = some u → VD w (Mt β (look σ.h)) (τ.enc (l.getD i τ.d0) j) u)) := by
  rcases hst with h | ⟨h1, h2, h3⟩
  ·exact .inl h
  ·obtain ⟨g1, g2⟩ := vec_open R.hr h1 h2 h3
   exact .inr ⟨h1, g1, g2⟩
 have hbd : ∀ i j, i < l.length → j < τ.size → i * τ.size + j < l.length * τ.size := fun i j hi hj => by
  have : (i + 1) * τ.size ≤ l.length * τ.size := Nat.mul_le_mul_right _ hi
  rw [Nat.add_mul, Nat.one_mul] at this
  omega
 obtain ⟨ad, cap, cs, hev, hcl, hnil, hcell, hval, hcap0, hcapmax⟩ : ∃ (ad : Option Addr) (cap : Nat) (cs : List Value), v = .slice ad l.length cap ∧ cs.length = l.length * τ.size ∧ (ad = none → l = [] ∧ cap = 0) ∧
   (∀ a, ad = some a → ∀ j u, cs[j]? = some u → w.cell? (a.add j) = some u) ∧ (∀ i j u, i < l.length → j < τ.size → cs[i * τ.size + j]? = some u → VD w (Mt β (look σ.h)) (τ.enc (l.getD i τ.d0) j) u) ∧ l.length ≤ cap ∧ cap ≤ maxLen := by
  have nilc : v = .slice none 0 0 → l = [] → ∃ (ad : Option Addr) (cap : Nat) (cs : List Value), v = .slice ad l.length cap ∧ cs.length = l.length * τ.size ∧ (ad = none → l = [] ∧ cap = 0) ∧
   (∀ a, ad = some a → ∀ j u, cs[j]? = some u → w.cell? (a.add j) = some u) ∧ (∀ i j u, i < l.length → j < τ.size → cs[i * τ.size + j]? = some u → VD w (Mt β (look σ.h)) (τ.enc (l.getD i τ.d0) j) u) ∧ l.length ≤ cap ∧ cap ≤ maxLen := fun h1 h2 => by
   subst h2
   exact ⟨none, 0, [], h1, by simp, fun _ => ⟨rfl, rfl⟩, (fun a h => by cases h), (fun i j u h => absurd h (Nat.not_lt_zero _)), Nat.le_refl _, Nat.zero_le _⟩
  rcases hst' with ⟨_, h1, h2⟩ | ⟨_, _, ⟨h1, _, h2⟩ | ⟨b, cap, arr, h1, h2, h3, h4, h5, h6, h7⟩⟩
  ·exact nilc h1 h2
  ·exact nilc h1 h2
  ·have hle : l.length * τ.size ≤ arr.size := by rw [h6]; exact Nat.mul_le_mul_right _ h4
   refine ⟨some ⟨b, 0, none⟩, cap, arr.toList.take (l.length * τ.size), h1, by simp; omega, (fun h => by cases h), fun a ha j u hu => ?_, fun i j u hi hj hu => h7 i j u hi hj ?_, h4, h5⟩
   ·injection ha with ha; subst ha
    rw [List.getElem?_take] at hu
    split at hu
    ·rw [Addr.add_lit, Nat.zero_add]
     simp only [World.cell?, h3]
     simpa using hu
    ·cases hu
   ·rw [List.getElem?_take, if_pos (hbd i j hi hj)] at hu
    simpa using hu
 have stay : l' = [] → (Builtin.append_ #[t, t] ty #[v, vx]).run P w = .ok v w → ∃ v' w' β', (Builtin.append_ #[t, t] ty #[v, vx]).run P w = .ok v' w' ∧ Rel X β' { σ with h := (n, .vec τ e (l ++ l')) :: σ.h } a w' ∧
   VL w' (Mt β' (look ((n, HO.vec τ e (l ++ l')) :: σ.h))) β' (dm (look ((n, HO.vec τ e (l ++ l')) :: σ.h))) (.vr n (l ++ l').length) v' := by
  intro hl' hrun
  subst hl'
  rw [List.append_nil]
  rcases hst with ⟨h1, rfl, rfl⟩ | ⟨h1, h2, h3⟩
  ·obtain ⟨β', R', hv', _⟩ := R.room h1 true τ e
   exact ⟨_, w, β', hrun, R', hv'⟩
  ·obtain ⟨β', R', g1, g2, g3⟩ := R.again h1 rfl
   exact ⟨v, w, β', hrun, R', .vr ⟨_, _, _, hev⟩ h3 (h2.evo g3)⟩
 have hnew : (cs ++ cs').length = (l ++ l').length * τ.size := by rw [List.length_append, hcl, hcl', List.length_append, Nat.add_mul]
 have hvals := row_append hcl hval hval'
 have hml : l.length + l'.length ≤ maxLen := by unfold maxLen; omega
 have grow : ∀ old, old < l.length + l'.length → (∀ o0, look σ.h n = some o0 → ∃ u, β.o n = some u ∧ hlen u < (l ++ l').length) →
   (Builtin.append_ #[t, t] ty #[v, vx]).run P w = .ok (.slice (some ⟨w.heap.size, 0, none⟩) (l.length + l'.length) (grownCap w (l.length + l'.length) old e))
    (w.drew.alloc (.cells (cs.toArray ++ cs'.toArray ++ Builtin.zeroCells z.cells (grownCap w (l.length + l'.length) old e - (l.length + l'.length))) e)) →
   ∃ v' w' β', (Builtin.append_ #[t, t] ty #[v, vx]).run P w = .ok v' w' ∧ Rel X β' { σ with h := (n, .vec τ e (l ++ l')) :: σ.h } a w' ∧
   VL w' (Mt β' (look ((n, HO.vec τ e (l ++ l')) :: σ.h))) β' (dm (look ((n, HO.vec τ e (l ++ l')) :: σ.h))) (.vr n (l ++ l').length) v' := by
  intro old hold hex hrun
  have hob0 : ∀ o0, look σ.h n = some o0 → o0.isOb = false := fun o0 ho => by
   rcases hst with ⟨h1, _⟩ | ⟨h1, _⟩
   ·rw [h1] at ho; cases ho
   ·rw [h1] at ho; injection ho with ho; subst ho; rfl
  have hge := grownCap_ge w (l.length + l'.length) old e
  have hcm := grownCap_le_maxLen w (l.length + l'.length) old e hml
  rw [← List.length_append] at hrun hge hcm
  obtain ⟨β', R', hv'⟩ := R.newVec (n := n) (e := e) (l := l ++ l') (cs := cs ++ cs') (cap := grownCap w (l ++ l').length old e)
   (arr := cs.toArray ++ cs'.toArray ++ Builtin.zeroCells z.cells (grownCap w (l ++ l').length old e - (l ++ l').length))
   (w' := w.drew.alloc (.cells (cs.toArray ++ cs'.toArray ++ Builtin.zeroCells z.cells (grownCap w (l ++ l').length old e - (l ++ l').length)) e)) ⟨rfl, rfl, rfl, rfl⟩ hob0 hex hge hcm hnew
   (by
    simp only [Array.size_append, List.size_toArray, size_zeroCells, hzs, hcl, hcl', ← Nat.add_mul]
    rw [← List.length_append]
    congr 1
    omega)
   (by
    simp only [Array.toList_append, List.append_assoc]
    rw [← List.append_assoc, ← hnew]
    exact List.take_left) hvals
  exact ⟨_, _, β', hrun, R', hv'⟩
 cases ad' with
 | none =>
  obtain ⟨rfl, rfl⟩ := hnil' rfl
  refine stay rfl ?_
  rw [hev, hev']
  exact run_append_nn t ty e i hu hi ad l.length cap hcap0
 | some a' =>
  have hc' : ∀ j u, cs'[j]? = some u → w.cell? (a'.add j) = some u := fun j u h => (hcell' a' rfl j u h).1
  cases ad with
  | none =>
   obtain ⟨rfl, rfl⟩ := hnil rfl
   have hcs : cs = [] := List.eq_nil_of_length_eq_zero (by simpa using hcl)
   subst hcs
   have hev0 : v = .slice none 0 0 := hev
   by_cases hm : l' = []
   ·refine stay hm ?_
    subst hm
    rw [hev0, hev']
    have : cs' = [] := List.eq_nil_of_length_eq_zero (by simpa using hcl')
    simp [Builtin.append_, run_underlying hu, sizeOf, typeInfo, hi, Builtin.lenOf, Builtin.firstCells, loadCells, loadCellsFrom]
   ·have hm0 : 0 < l'.length := List.length_pos_iff.2 hm
    have hr := run_append_nil (P := P) w t ty e i z hu hi hz a' l'.length cap' cs' (by rw [hcl', hsz]) hc' hm0 (by omega) (by rw [hby]; simp at hbytes; omega)
    refine grow 0 (by simp; omega) (fun o0 ho => ?_) ?_
    ·rcases hst' with ⟨h1, _⟩ | ⟨h1, h2, _⟩
     ·rw [h1] at ho; cases ho
     ·exact ⟨v, h2, by rw [hev0]; simp [hlen]; omega⟩
    ·rw [hev0, hev', hr]
     simp
  | some ad =>
   rcases hst' with ⟨_, h2, _⟩ | ⟨h1, h2, ⟨h3, _⟩ | ⟨k, cap2, arr, g0, g1, g2, g3, g4, g5, _⟩⟩
   ·rw [hev] at h2; cases h2
   ·rw [hev] at h3; cases h3
   ·have e1 : (.slice (some ⟨k, 0, none⟩) l.length cap2 : Value) = .slice (some ad) l.length cap := g0.symm.trans hev
    injection e1 with e1 e2 e3
    injection e1 with e1
    subst e1 e3
    have hc0 : ∀ j u, cs[j]? = some u → w.cell? ((⟨k, 0, none⟩ : Addr).add j) = some u := fun j u h => hcell _ rfl j u h
    by_cases hroom : l.length + l'.length ≤ cap2
    ·have hfit : l.length * τ.size + cs'.length ≤ arr.size := by rw [hcl', g5, ← Nat.add_mul]; exact Nat.mul_le_mul_right _ hroom
     have hr := run_append_room (P := P) w t ty e i hu hi k l.length cap2 arr g2 a' l'.length cap' cs' (by rw [hcl', hsz]) hc' hone' hroom (by rw [hsz]; exact hfit)
     rw [hsz] at hr
     have htake : arr.toList.take (l.length * τ.size) = cs := by
      refine List.ext_getElem? fun j => ?_
      rw [List.getElem?_take]
      split
      ·rename_i hj
       have hj' : j < cs.length := by omega
       have := hc0 j _ (List.getElem?_eq_getElem hj')
       rw [Addr.add_lit, Nat.zero_add] at this
       simp only [World.cell?, g2] at this
       rw [List.getElem?_eq_getElem hj']
       simpa using this
      ·rw [List.getElem?_eq_none (by omega)]
     rw [htake] at hr
     obtain ⟨w', hw'⟩ : ∃ w', w.setRow k (cs ++ cs' ++ arr.toList.drop (l.length * τ.size + cs'.length)).toArray = w' := ⟨_, rfl⟩
     have hat : w'.heap[k]? = some (.cells (cs ++ cs' ++ arr.toList.drop (l.length * τ.size + cs'.length)).toArray e (0, 0)) := by rw [← hw']; exact setRow_heap w k arr _ e _ g2
     have hoth : ∀ j, j ≠ k → w'.heap[j]? = w.heap[j]? := fun j hj => by rw [← hw']; exact setRow_other w k j _ hj
     have hwsz : w'.heap.size = w.heap.size := by rw [← hw']; simp [World.setRow]
     have hosz : w'.os = w.os ∧ w'.tape = w.tape ∧ w'.output = w.output := by rw [← hw']; exact ⟨rfl, rfl, rfl⟩
     have hlt := R.hr.lt n k (by rw [h1]; simp) (.inl g1)
     rw [hw'] at hr
     have hasz : (cs ++ cs' ++ arr.toList.drop (l.length * τ.size + cs'.length)).toArray.size = cap2 * τ.size := by
      simp only [List.size_toArray, List.length_append, List.length_drop, Array.length_toList]
      omega
     have hbd2 : ∀ i j, i < (l ++ l').length → j < τ.size → i * τ.size + j < (cs ++ cs').length := fun i j hi hj => by
      rw [hnew]
      have : (i + 1) * τ.size ≤ (l ++ l').length * τ.size := Nat.mul_le_mul_right _ hi
      rw [Nat.add_mul, Nat.one_mul] at this
      omega
     obtain ⟨β', R', q1, q2, q3, q4⟩ := R.set n (.vec τ e (l ++ l')) (fun o0 h => by rw [h1] at h; injection h with h; subst h; rfl) (some k) (some (.slice (some ⟨k, 0, none⟩) (l ++ l').length cap2)) (w' := w') hosz.1 hosz.2.1 hosz.2.2 (by omega)
      (fun j _ hj => hoth j fun e => hj _ h1 (by rw [e]; exact g1))
      (fun o0 p ho hb hm => by rw [h1] at ho; injection ho with ho; subst ho; exact absurd trivial hm)
      (fun j hj => by
       injection hj with hj; subst hj
       exact ⟨by omega, .inl ⟨_, h1, g1, fun _ _ => trivial⟩⟩)
      (fun o0 _ => ⟨(fun h => by rw [h2] at h; cases h), fun u hu => by
       rw [h2] at hu; injection hu with hu; subst hu
       refine ⟨_, rfl, ?_⟩
       rw [hev]
       by_cases hm : l' = []
       ·subst hm; left; rw [List.append_nil]
       ·right
        have := List.length_pos_iff.2 hm
        simp only [hlen, List.length_append]; omega⟩)
      (fun β' p1 p2 hev2 hbe => .inr ⟨k, cap2, _, p2, p1, hat, by rw [List.length_append]; exact hroom, g4, hasz, fun i j u hi hj hu => (hvals i j u hi hj (by
       have hu' : (cs ++ cs' ++ arr.toList.drop (l.length * τ.size + cs'.length))[i * τ.size + j]? = some u := by simpa using hu
       rwa [List.getElem?_append_left (hbd2 i j hi hj)] at hu')).evo hev2⟩)
     refine ⟨_, w', β', by rw [hev, hev']; exact hr, R', ?_⟩
     have e : (.slice (some ⟨k, 0, none⟩) (l.length + l'.length) cap2 : Value) = .slice (some ⟨k, 0, none⟩) (l ++ l').length cap2 := by rw [List.length_append]
     rw [e]
     exact .vr ⟨_, _, _, rfl⟩ rfl ⟨by simp [dm, look_cons], _, q2, Nat.le_refl _, fun _ => rfl⟩
    ·have hr := run_append_grow (P := P) w t ty e i z hu hi hz ⟨k, 0, none⟩ l.length cap2 cs (by rw [hcl, hsz]) hc0 a' l'.length cap' cs' (by rw [hcl', hsz]) hc' (by omega) (by omega)
      (growslice_fits (by omega) (by rw [hby]; exact hbytes))
     refine grow cap2 (by omega) (fun o0 _ => ⟨v, h2, ?_⟩) (by rw [hev, hev']; exact hr)
     rw [hev, List.length_append]; simp only [hlen]; omega

theorem good_vappend (hL : LOk P L) (R : Rel X β σ a w) {o : Oper} {args : Array Operand} {ts : Array TypeId} {p q : Operand} {s x : TV} (ho : o.op = .call { callee := .builtin .append, args := args, argTypes := ts }) (hargs : args.toList = [p, q])
  (hs : VT w (Mt β (look σ.h)) β (dm (look σ.h)) s (a.eval p)) (hx : VT w (Mt β (look σ.h)) β (dm (look σ.h)) x (a.eval q)) {r : Res} (h : vAppend L (look σ.h) ts.toList o.dst s x = some r) (hc : ∀ c ∈ r.c, c) : OpGood P X σ a w o r := by
 have hargs' : args = #[p, q] := by rw [← Array.toArray_toList (xs := args), hargs]
 unfold vAppend at h
 split at h
 ·rename_i t t' hts
  split at h
  ·rename_i htt
   subst htt
   have hts' : ts = #[t, t] := by rw [← Array.toArray_toList (xs := ts), hts]
   have hexec : ∀ {v : Value} {w' : World}, (Builtin.append_ #[t, t] o.type #[a.eval p, a.eval q]).run P w = .ok v w' → (execOp a.eval o).run P w = .ok (.value v) w' := fun hr => by
    simp only [execOp, ho, hargs', hts', resolve, invoke, builtin, Sem.run_bind, Sem.run_pure, Result.andThen_ok, List.map_toArray, List.map_cons, List.map_nil, hr]
   split at h
   ·rename_i y hy
    split at h
    ·rename_i τ e b x' hety hxst
     obtain ⟨hu, hτ, _, hb0, i, z, hi, hsz, hby, hz, hzs⟩ := (hL t y hy).ety τ e b hety
     have hxv : VD w (Mt β (look σ.h)) x' (a.eval q) := by
      have := TV.st_sound hx
      rw [hxst] at this
      cases this with | d h => exact h
     split at h
     ·rename_i l' n k hl'
      split at h
      ·rename_i σ' e' l hn
       split at h
       ·rename_i hh hsame
        subst hh
        split at h
        ·rename_i hes
         subst hes
         obtain rfl := Option.some.inj h
         have hk : k = l.length := hc _ (by simp)
         have hbytes : (l.length + l'.length) * b ≤ 140737488355328 := hc ((l.length + l'.length) * b ≤ 140737488355328) (by simp)
         cases hs with
         | vr hsv hkk hov =>
          obtain ⟨v', w', β', r1, r2, r3⟩ := R.appendV (ty := o.type) hu hi hsz hby hz hzs (asL_sound hl' hxv) (.inr ⟨hn, hov, hkk.trans hk⟩) hbytes hb0
          rw [List.length_append] at r3
          exact ⟨_, w', β', v', hexec r1, .inl rfl, r2, r3, fun p hp => by cases hp⟩
        ·cases h
       ·cases h
      ·cases h
     ·rename_i l' s' hl'
      split at h
      ·rename_i d hnil hd
       split at h
       ·rename_i hn
        obtain rfl := Option.some.inj h
        have hbytes : l'.length * b ≤ 140737488355328 := hc _ (by simp)
        cases hs with
        | d hs =>
         have hv0 : a.eval p = .slice none 0 0 := by
          generalize a.eval p = vp at hs
          unfold isNil at hnil
          split at hnil
          ·cases hs with
           | nil => rfl
           | sl _ h0 => exact absurd h0 (Nat.lt_irrefl _)
          ·cases hnil
         obtain ⟨v', w', β', r1, r2, r3⟩ := R.appendV (ty := o.type) (n := rm d) (e := e) (l := []) hu hi hsz hby hz hzs (asL_sound hl' hxv) (.inl ⟨hn, hv0, rfl⟩) (by simpa using hbytes) hb0
         exact ⟨_, w', β', v', hexec r1, .inl rfl, r2, r3, fun p hp => by cases hp⟩
       ·cases h
      ·cases h
     ·cases h
    ·cases h
   ·cases h
  ·cases h
 ·cases h

theorem vr_len (H : HR β (look σ.h) w) {n k : Nat} {v : Value} (h : VL w (Mt β (look σ.h)) β (dm (look σ.h)) (.vr n k) v) : (∃ a cap, v = .slice a k cap) ∧ k ≤ maxLen := by
 cases h with
 | vr hs hk ho =>
  obtain ⟨a, len, cap, rfl⟩ := hs
  have hk' : len = k := hk
  subst hk'
  refine ⟨⟨a, cap, rfl⟩, ?_⟩
  obtain ⟨hd, u, hu, hle, _⟩ := ho
  cases hn : look σ.h n with
  | none => exact absurd hn hd
  | some o =>
   have hb := H.blk n o hn
   cases o with
   | cells b => obtain ⟨_, _, _, h0, _⟩ := hb; rw [h0] at hu; cases hu
   | mp => obtain ⟨_, _, _, h0, _⟩ := hb; rw [h0] at hu; cases hu
   | fm => obtain ⟨_, _, _, h0, _⟩ := hb; rw [h0] at hu; cases hu
   | it => obtain ⟨_, h0, _⟩ := hb; rw [h0] at hu; cases hu
   | dead => obtain ⟨_, h0, h1⟩ := hb; rw [h0] at hu; injection hu with hu; subst hu; exact Nat.le_trans hle h1
   | vh τ e q =>
    obtain ⟨_, c, _, h0, _, _, h3, h4, _⟩ := hb
    rw [h0] at hu; injection hu with hu; subst hu
    exact Nat.le_trans hle (Nat.le_trans h3 h4)
   | ob => obtain ⟨h0, _⟩ := hb; rw [h0] at hu; cases hu
   | gr e sz q =>
    rcases hb with ⟨h0, _⟩ | ⟨_, c, _, h0, _, _, h3, h4, _⟩
    ·rw [h0] at hu; injection hu with hu; subst hu
     exact Nat.le_trans hle (Nat.zero_le _)
    ·rw [h0] at hu; injection hu with hu; subst hu
     exact Nat.le_trans hle (Nat.le_trans h3 h4)
   | vec τ e q =>
    rcases hb with ⟨h0, _⟩ | ⟨_, c, _, h0, _, _, h3, h4, _⟩
    ·rw [h0] at hu; injection hu with hu; subst hu
     exact Nat.le_trans hle (Nat.zero_le _)
    ·rw [h0] at hu; injection hu with hu; subst hu
     exact Nat.le_trans hle (Nat.le_trans h3 h4)
   | frz τ e q =>
    rcases hb with ⟨h0, _⟩ | ⟨_, c, _, h0, _, _, h3, h4, _⟩
    ·rw [h0] at hu; injection hu with hu; subst hu
     exact Nat.le_trans hle (Nat.zero_le _)
    ·rw [h0] at hu; injection hu with hu; subst hu
     exact Nat.le_trans hle (Nat.le_trans h3 h4)
theorem good_vlen (hL : LOk P L) (R : Rel X β σ a w) (hG : GOk a G) {o : Oper} {args : Array Operand} {ts : Array TypeId} (ho : o.op = .call { callee := .builtin .len, args := args, argTypes := ts }) {n k t : Nat} {y : Lay} {s : Nat}
  (hx : mapT (opT G σ) args.toList = some [.one (.vr n k)]) (hts : ts.toList = [t]) (hy : L t = some y) (hel : y.el = some s) : OpGood P X σ a w o { v := .t (.one (li .i64 k)), f := [(k : Int) ≤ 9223372036854775807] } := by
 have hall := mapT_sound R hG hx
 obtain ⟨v, hv, hx⟩ := hall.one_left
 have hvs' : args.map a.eval = #[v] := by rw [← Array.toArray_toList (xs := args.map a.eval), Array.toList_map, hv]
 have hts' : ts = #[t] := by rw [← Array.toArray_toList (xs := ts), hts]
 obtain ⟨e, hu, _, _⟩ := (hL t y hy).el s hel
 obtain ⟨⟨ad, c, rfl⟩, hle⟩ := vr_len R.hr hx
 refine OpGood.pure R (v := .int .i64 k) ?_ rfl (VT.lit rfl) ?_
 ·simp [execOp, ho, resolve, invoke, builtin, hvs', hts', Builtin.len_, run_underlying hu, goInt]
 ·intro p hp
  simp only [List.mem_singleton] at hp
  rw [hp]
  unfold maxLen at hle
  omega
end
end Go.Sy
namespace Go.Sy
variable {P : Program} {L : Nat → Option Lay} {Γ : Nat → Option Con} {F : Fence} {n : Nat}

theorem All_iff : ∀ {ps : List Prop}, All ps ↔ ∀ p ∈ ps, p
 | [] => ⟨fun _ p hp => (by cases hp), fun _ => trivial⟩
 | [p] => ⟨fun h q hq => by rw [List.mem_singleton.1 hq]; exact h, fun h => h p (List.mem_singleton.2 rfl)⟩
 | p :: q :: r => ⟨fun h x hx => by
   rcases List.mem_cons.1 hx with e | hx
   ·rw [e]; exact h.1
   ·exact All_iff.1 h.2 x hx, fun h => ⟨h p (List.mem_cons_self ..), All_iff.2 fun x hx => h x (List.mem_cons_of_mem _ hx)⟩⟩

section
variable {X : Cx} {β : Bt} {σ : St} {a : Act} {w : World} {G : List (Nat × Bool)}

theorem wp_of_good (hF : Wide F) {o : Oper} {r : Res} {next : Act → World → Prop} {Q : Exit → Act → World → Prop} (hd : ∀ c, o.op ≠ .defer c) (h : OpGood P X σ a w o r)
  (hn : ∀ v w' β', Rel X β' { σ with h := upds r.h σ.h } a w' → VA w' (Mt β' (look (upds r.h σ.h))) β' (dm (look (upds r.h σ.h))) r.v v → (∀ p ∈ r.f, p) → next (a.put o.dst v) w') :
  o.wpIn F n P a w next Q := by
 obtain ⟨nx, w', β', v, hrun, hnx, hR, hva, hf⟩ := h
 refine ⟨fun _ _ => hF.fn _, ?_⟩
 rw [Oper.semAt_eq _ _ _ hd, hrun]
 rcases hnx with rfl | ⟨rfl, rfl⟩
 ·exact hn _ _ _ hR hva hf
 ·exact hn _ _ _ hR hva hf

/-! a loop over a function is handed something -/
theorem All2.cons_left {α : Type _} {β : Type _} {R : α → β → Prop} {x : α} {xs : List α} {m : List β} (h : All2 R (x :: xs) m) : ∃ y ys, m = y :: ys ∧ R x y ∧ All2 R xs ys := by
 cases h with
 | cons h1 h2 => exact ⟨_, _, rfl, h1, h2⟩
theorem unargs_sound {M : CM} {D : Nat → Prop} : ∀ {sg : List Ty} {xs : List TV} {x : (tpl sg).T} {vals : List Value}, unargs sg xs = some x → All2 (VT w M β D) xs vals → ArgsOk w M sg x vals := by
 intro sg
 induction sg with
 | nil =>
  intro xs x vals h h2
  cases xs with
  | nil => cases h2; rfl
  | cons => cases h
 | cons a r ih =>
  intro xs x vals h h2
  cases xs with
  | nil => cases h
  | cons y ys =>
   obtain ⟨u, us, rfl, h1, h3⟩ := h2.cons_left
   simp only [unargs] at h
   split at h
   ·rename_i p q hp hq
    obtain rfl := Option.some.inj h
    exact ⟨_, _, rfl, arg1_sound hp h1, ih hq h3⟩
   ·cases h
theorem ArgsOk.less {M M' : CM} (h : ∀ k off, M' k off → M k off) : ∀ {sg : List Ty} {x : (tpl sg).T} {vals : List Value}, ArgsOk w M sg x vals → ArgsOk w M' sg x vals := by
 intro sg
 induction sg with
 | nil => intro x vals hv; exact hv
 | cons a r ih =>
  intro x vals hv
  obtain ⟨v, vs, h1, h2, h3⟩ := hv
  exact ⟨v, vs, h1, h2.evo (Evo.less h), ih h3⟩

theorem Rel.yield (R : Rel X β σ a w) (hpr : X.b0.pr = P) {m : Nat} {sg : List Ty} {hist : List (tpl sg).T} {go : Lp (tpl sg).T} (hm : look σ.h m = some (.ob sg hist go)) {x : (tpl sg).T} {vals : List Value}
  (hargs : ArgsOk w (Mt β (look σ.h)) sg x vals) (hl : liveX go hist x) :
  ∃ k, β m = some k ∧ YieldAt Fence.wide 0 P k vals.toArray w fun e w' => e = .returned (.bool (go (hist ++ [x]))) ∧ ∃ β', Rel X β' { σ with h := (m, .ob sg (hist ++ [x]) go) :: σ.h } a w' := by
 have hmm : look σ.h m ≠ none := by rw [hm]; simp
 obtain ⟨h0, k, hk, hy, hJ⟩ := R.hr.blk m _ hm
 rw [R.be.pr.trans hpr] at hy
 refine ⟨k, hk, ?_⟩
 have hdis := dis_of R.hr.m0 R.hr.lt R.hr.fresh R.hr.inj hm rfl
 have hIlt : ∀ q off, (Mt β (look σ.h) q off ∧ ¬ β.ym m q off) → q < w.heap.size := fun q off h => by
  rcases h.1 with h | ⟨n', o', h1, h2⟩
  ·exact R.hr.m0 q off h
  ·exact R.hr.lt n' q (by rw [h1]; simp) (h2.elim (fun h => .inl h.1) fun h => .inr ⟨off, h⟩)
 have hcall := hy.call hist (β.ym m) _ w x vals hJ hIlt (fun q off off' h => (hdis q off h.1).2 off' h.2) hl (hargs.less fun q off h => h.elim (fun h => .inr ⟨m, _, hm, .inr h⟩) fun h => h.1)
 obtain ⟨fn, tmps, asg, bd, hrun, hround⟩ := hcall
 refine ⟨fn, tmps, asg, bd, hrun, hround.mono fun e w' ⟨he, Y', hJ', hchg, hY1, hY2, hY3⟩ => ⟨he, ?_⟩⟩
 let β' : Bt := ⟨β.b, β.o, β.m, fun n => if n = m then Y' else β.ym n, β.yj, β.pr⟩
 have hym : β'.ym m = Y' := by simp [β']
 have hyo : ∀ n, n ≠ m → β'.ym n = β.ym n := fun n hn => by simp [β', hn]
 have hln : look ((m, HO.ob sg (hist ++ [x]) go) :: σ.h) m = some (.ob sg (hist ++ [x]) go) := by rw [look_cons, if_pos rfl]
 have hlo : ∀ n, n ≠ m → look ((m, HO.ob sg (hist ++ [x]) go) :: σ.h) n = look σ.h n := fun n hn => by rw [look_cons, if_neg (Ne.symm hn)]
 have hin : ∀ n, look ((m, HO.ob sg (hist ++ [x]) go) :: σ.h) n ≠ none → look σ.h n ≠ none := fun n hn => by
  by_cases h : n = m
  ·subst h; exact hmm
  ·rw [hlo n h] at hn; exact hn
 have hbe : BEvo β β' (dm (look σ.h)) (dm (look ((m, HO.ob sg (hist ++ [x]) go) :: σ.h))) :=
  ⟨fun n hn => by
   unfold dm at hn ⊢
   by_cases h : n = m
   ·subst h; rw [hln]; simp
   ·rw [hlo n h]; exact hn, fun n _ h => ⟨h, rfl, rfl⟩, fun n u _ h => ⟨u, h, .inl rfl⟩, rfl⟩
 -- the blocks of a name: elder ones, or new ones
 have hbk : ∀ n q, bk β' n q → bk β n q ∨ (n = m ∧ w.heap.size ≤ q) := fun n q h => by
  by_cases hn : n = m
  ·subst hn
   rcases h with h | ⟨off, h⟩
   ·exact .inl (.inl h)
   ·rw [hym] at h
    rcases hY1 q off h with ⟨off', h'⟩ | h'
    ·exact .inl (.inr ⟨off', h'⟩)
    ·exact .inr ⟨rfl, h'⟩
  ·unfold bk at h ⊢
   rw [hyo n hn] at h
   exact .inl h
 have hMold : ∀ q off, β.ym m q off → Mt β (look σ.h) q off := fun q off h => .inr ⟨m, _, hm, .inr h⟩
 have hev : Evo (Mt β (look σ.h)) (Mt β' (look ((m, HO.ob sg (hist ++ [x]) go) :: σ.h))) w w' := by
  refine ⟨hchg.size, fun p hp hn => hchg.cell p hp fun h => hn (hMold _ _ h), fun q off hq hn hn' => hn ?_, fun q hq hn => hchg.blk q hq fun off h => hn off (hMold _ _ h), hchg.sys⟩
  rcases hn' with h | ⟨n, o, h1, h2⟩
  ·exact .inl h
  ·by_cases hn : n = m
   ·subst hn
    rw [hln] at h1; injection h1 with h1; subst h1
    rcases h2 with ⟨_, h2⟩ | h2
    ·exact h2.elim
    ·rw [hym] at h2
     exact hMold _ _ (hY2 q off hq h2)
   ·rw [hlo n hn] at h1
    rw [hyo n hn] at h2
    exact .inr ⟨n, o, h1, h2⟩
 have hfresh : ∀ n q off, look ((m, HO.ob sg (hist ++ [x]) go) :: σ.h) n ≠ none → bk β' n q → ¬ β'.m q off := fun n q off hn hq hM => by
  rcases hbk n q hq with h | ⟨_, h⟩
  ·exact R.hr.fresh n q off (hin n hn) h hM
  ·have := R.hr.m0 q off hM; omega
 have hinj : ∀ n n' q, look ((m, HO.ob sg (hist ++ [x]) go) :: σ.h) n ≠ none → look ((m, HO.ob sg (hist ++ [x]) go) :: σ.h) n' ≠ none → bk β' n q → bk β' n' q → n = n' := fun n n' q hn hn' h1 h2 => by
  rcases hbk n q h1 with g1 | ⟨e1, g1⟩ <;> rcases hbk n' q h2 with g2 | ⟨e2, g2⟩
  ·exact R.hr.inj n n' q (hin n hn) (hin n' hn') g1 g2
  ·have := R.hr.lt n q (hin n hn) g1; omega
  ·have := R.hr.lt n' q (hin n' hn') g2; omega
  ·rw [e1, e2]
 have hm0 : ∀ q off, β'.m q off → q < w'.heap.size := fun q off h => Nat.lt_of_lt_of_le (R.hr.m0 q off h) hchg.size
 have hlt' : ∀ n q, look ((m, HO.ob sg (hist ++ [x]) go) :: σ.h) n ≠ none → bk β' n q → q < w'.heap.size := fun n q hn hq => by
  by_cases h : n = m
  ·subst h
   rcases hq with h | ⟨off, h⟩
   ·exact Nat.lt_of_lt_of_le (R.hr.lt n q hmm (.inl h)) hchg.size
   ·rw [hym] at h; exact hY3 q off h
  ·rcases hbk n q hq with h' | ⟨h', _⟩
   ·exact Nat.lt_of_lt_of_le (R.hr.lt n q (hin n hn) h') hchg.size
   ·exact absurd h' h
 refine ⟨β', R.evo hev hbe (fun _ _ h => h) (fun q hq hd => ?_) ?_ (fun n q hn hq => ?_) ?_⟩
 ·have hlt : q < w.heap.size := (Array.getElem?_eq_some_iff.1 hd).1
  rw [hchg.blk q hlt fun off h => R.hr.fresh m q 0 hmm (.inr ⟨off, h⟩) hq]
  exact hd
 ·refine ⟨hchg.sys.1.trans R.fr.os, hchg.sys.2.1.trans R.fr.tape, hchg.sys.2.2.trans R.fr.output, Nat.le_trans R.fr.size hchg.size, fun q hq hB => ?_⟩
  rw [hchg.blk q (Nat.lt_of_lt_of_le hq R.fr.size) fun off h => ?_, R.fr.block q hq hB]
  rcases R.own m q hmm (.inr ⟨off, h⟩) with h | h
  ·exact hB h
  ·omega
 ·rcases hbk n q hq with h | ⟨_, h⟩
  ·exact R.own n q (hin n hn) h
  ·exact .inr (Nat.le_trans R.fr.size h)
 ·refine ⟨hm0, hlt', hfresh, hinj, fun n o hn ho => ?_, fun n o hn => ?_, R.hr.gl.evo hev⟩
  ·by_cases h : n = m
   ·subst h; rw [hln] at hn; injection hn with hn; subst hn; cases ho
   ·rw [hlo n h] at hn
    rw [hyo n h]
    exact R.hr.ye n o hn ho
  ·by_cases h : n = m
   ·subst h
    rw [hln] at hn; injection hn with hn; subst hn
    refine ⟨h0, k, hk, by show YOk β.pr _ _ _ _; rw [R.be.pr.trans hpr]; exact hy, ?_⟩
    rw [hym]
    refine hy.stay _ _ _ _ _ _ hJ' ⟨Nat.le_refl _, fun _ _ _ => rfl, fun _ _ _ => rfl, rfl, rfl, rfl⟩ (fun q off hq => ?_) (fun q off off' hq h => ?_)
    ·rcases hq with ⟨hq, hn⟩
     rcases hq with hq | ⟨n', o', h1, h2⟩
     ·refine .inl ⟨.inl hq, fun h => R.hr.fresh n q off hmm (.inr ⟨off, h⟩) hq⟩
     ·by_cases h' : n' = n
      ·subst h'
       rw [hln] at h1; injection h1 with h1; subst h1
       rcases h2 with ⟨_, h2⟩ | h2
       ·exact h2.elim
       ·rw [hym] at h2; exact absurd h2 hn
      ·rw [hlo n' h'] at h1
       rw [hyo n' h'] at h2
       refine .inl ⟨.inr ⟨n', o', h1, h2⟩, fun h => h' ?_⟩
       exact R.hr.inj n' n q (by rw [h1]; simp) hmm (h2.elim (fun h => .inl h.1) fun h => .inr ⟨off, h⟩) (.inr ⟨off, h⟩)
    ·have := (dis_of hm0 hlt' hfresh hinj hln rfl q off hq.1).2 off' (by rw [hym]; exact hq.2)
     rw [hym] at this
     exact this h
   ·have hn' := hn
    rw [hlo n h] at hn
    refine (R.hr.blk n o hn).evo hev hbe rfl rfl (hyo n h) rfl (fun q hq => ?_) (fun hob => dis_of hm0 hlt' hfresh hinj hn' hob)
    exact hchg.blk q (R.hr.lt n q (by rw [hn]; simp) hq) fun off h' => h (R.hr.inj n m q (by rw [hn]; simp) hmm hq (.inr ⟨off, h'⟩))

theorem roundIn_of_wide {F : Fence} (hF : Wide F) {n l : Nat} {f : FuncId} {tmps : Array Value} {assign body : Code} {R : Ending → World → Prop} (h : RoundIn Fence.wide 0 P l f tmps assign body w R) : RoundIn F n P l f tmps assign body w R := by
 obtain ⟨_, h⟩ := h
 refine ⟨hF.fn f, fun c cs hr => ?_⟩
 obtain ⟨e, w', h1, h2⟩ := h c cs (room_wide _)
 refine ⟨e, w', h1, ?_⟩
 have hI : Machine.fenced P F = Machine.fenced P Fence.wide := by
  funext m
  unfold Machine.fenced Fence.room
  simp only [hF.dp, hF.al, Fence.wide]
  simp [hF.fn]
 rw [hI]
 exact h2

theorem good_yield (hF : Wide F) (hpr : X.b0.pr = P) (R : Rel X β σ a w) (hG : GOk a G) {o : Oper} {f : Operand} {args : Array Operand} {ts : Array TypeId} (ho : o.op = .call { callee := .value f, args := args, argTypes := ts })
  {r : Res} (h : aYield G σ f args.toList = some r) (hc : ∀ c ∈ r.c, c) {next : Act → World → Prop} {Q : Exit → Act → World → Prop}
  (hn : ∀ v w' β', Rel X β' { σ with h := upds r.h σ.h } a w' → VA w' (Mt β' (look (upds r.h σ.h))) β' (dm (look (upds r.h σ.h))) r.v v → (∀ p ∈ r.f, p) → next (a.put o.dst v) w') :
  o.wpIn F n P a w next Q := by
 unfold aYield at h
 split at h
 ·rename_i m hf
  split at h
  ·rename_i sg hist go xs hm hxs
   split at h
   ·rename_i x hx
    obtain rfl := Option.some.inj h
    obtain ⟨k, hk, fn, tmps, asg, bd, hrun, hround⟩ := R.yield hpr hm (unargs_sound hx (stT_sound (mapT_sound R hG hxs))) (hc _ (by simp))
    have hfv := opT_sound R hG hf
    generalize hev : a.eval f = fv at hfv
    cases hfv with
    | @yl _ k' _ _ h3 =>
     obtain rfl : k' = k := Option.some.inj (h3.symm.trans hk)
     refine ⟨fun _ _ => hF.fn _, ?_⟩
     rw [semAt_call ho]
     have hrun' : (execOp a.eval o).run P w = .ok (.round k' fn tmps asg bd) w := by
      have ha : args.map a.eval = (args.toList.map a.eval).toArray := by rw [← Array.toList_map]
      simp only [execOp, ho, resolve, hev, Deferred.ofValue, Sem.run_bind, Sem.run_pure, Result.andThen_ok, invoke, ha]
      simp only [List.append_toArray]
      simpa using hrun
     rw [hrun']
     refine ⟨(fun h => by rw [hF.dp] at h; cases h), (roundIn_of_wide hF hround).mono ?_⟩
     rintro e w' ⟨rfl, β', R'⟩
     exact hn _ w' β' R' (VT.lit rfl) (by simp)
   ·cases h
  ·cases h
 ·cases h

theorem aop0_sound (hF : Wide F) (hpr : X.b0.pr = P) (hL : LOk P L) (hΓ : ConOk P Γ) (R : Rel X β σ a w) (hG : GOk a G) {o : Oper} {r : Res} (h : aop0 L Γ G σ o = some r) (hc : ∀ c ∈ r.c, c) {next : Act → World → Prop} {Q : Exit → Act → World → Prop}
  (hn : ∀ v w' β', Rel X β' { σ with h := upds r.h σ.h } a w' → VA w' (Mt β' (look (upds r.h σ.h))) β' (dm (look (upds r.h σ.h))) r.v v → (∀ p ∈ r.f, p) → next (a.put o.dst v) w') :
  o.wpIn F n P a w next Q := by
 unfold aop0 at h
 split at h
 ·rename_i x ho
  split at h
  ·rename_i r' hr
   obtain rfl := Option.some.inj h
   exact wp_of_good hF (by simp [ho]) (good_nil R (.inl ho) hr) hn
  ·split at h
   ·rename_i v hv
    obtain rfl := Option.some.inj h
    exact wp_of_good hF (by simp [ho]) (good_move R hG (.inl ho) hv) hn
   ·cases h
 ·rename_i x ho
  split at h
  ·rename_i r' hr
   obtain rfl := Option.some.inj h
   exact wp_of_good hF (by simp [ho]) (good_nil R (.inr ho) hr) hn
  ·split at h
   ·rename_i v hv
    obtain rfl := Option.some.inj h
    exact wp_of_good hF (by simp [ho]) (good_move R hG (.inr ho) hv) hn
   ·cases h
 ·rename_i ho; exact wp_of_good hF (by simp [ho]) (good_pick R hG ho h) hn
 ·rename_i ho; exact wp_of_good hF (by simp [ho]) (good_alloc hL R ho h) hn
 ·rename_i ho; exact wp_of_good hF (by simp [ho]) (good_box R hG ho h) hn
 ·rename_i ho; exact wp_of_good hF (by simp [ho]) (good_build hL R hG ho h) hn
 ·rename_i ho; exact wp_of_good hF (by simp [ho]) (good_rows hL R hG ho h) hn
 ·rename_i ho; exact wp_of_good hF (by simp [ho]) (good_load hL R hG ho h) hn
 ·rename_i ho; exact wp_of_good hF (by simp [ho]) (good_store hL R hG ho h) hn
 ·rename_i ho
  split at h
  ·rename_i r' hr
   obtain rfl := Option.some.inj h
   exact wp_of_good hF (by simp [ho]) (good_binW R hG ho hr hc) hn
  ·split at h
   ·rename_i r' hr
    obtain rfl := Option.some.inj h
    exact wp_of_good hF (by simp [ho]) (good_bin R hG ho hr hc) hn
   ·split at h
    ·rename_i r' hr
     obtain rfl := Option.some.inj h
     exact wp_of_good hF (by simp [ho]) (good_binB hL R hG ho hr) hn
    ·split at h
     ·rename_i r' hr
      injection h with h; subst h
      exact wp_of_good hF (by simp [ho]) (good_binAgg hL R hG ho hr) hn
     ·exact wp_of_good hF (by simp [ho]) (good_binN hL R hG ho h) hn
 ·rename_i ho; exact wp_of_good hF (by simp [ho]) (good_un R hG ho h) hn
 ·rename_i ho; exact wp_of_good hF (by simp [ho]) (good_nilck R hG ho h) hn
 ·rename_i ho
  split at h
  ·rename_i r' hr
   obtain rfl := Option.some.inj h
   exact wp_of_good hF (by simp [ho]) (good_conv hL R hG ho hr hc) hn
  ·split at h
   ·rename_i r' hr
    obtain rfl := Option.some.inj h
    exact wp_of_good hF (by simp [ho]) (good_convS hL R hG ho hr hc) hn
   ·exact wp_of_good hF (by simp [ho]) (good_convB hL R hG ho h hc) hn
 ·rename_i ho; exact wp_of_good hF (by simp [ho]) (good_idx hL R hG ho h hc) hn
 ·rename_i ho; exact wp_of_good hF (by simp [ho]) (good_range hL R hG ho h) hn
 ·rename_i ho; exact wp_of_good hF (by simp [ho]) (good_next R hG ho h) hn
 ·rename_i ho; exact wp_of_good hF (by simp [ho]) (good_func R hG ho h) hn
 ·rename_i ho; exact wp_of_good hF (by simp [ho]) (good_field hL R hG ho h) hn
 ·rename_i ho; exact wp_of_good hF (by simp [ho]) (good_index hL R hG ho h hc) hn
 ·rename_i ho; exact wp_of_good hF (by simp [ho]) (good_slice hL R hG ho h hc) hn
 ·rename_i ho; exact wp_of_good hF (by simp [ho]) (good_extract R hG ho h hc) hn
 ·rename_i ho; exact wp_of_good hF (by simp [ho]) (good_make R ho h) hn
 ·rename_i ho; exact wp_of_good hF (by simp [ho]) (good_makes hL R hG ho h hc) hn
 ·rename_i ho; exact wp_of_good hF (by simp [ho]) (good_look2 hL R hG ho h hc) hn
 ·rename_i ho; exact wp_of_good hF (by simp [ho]) (good_upd2 hL R hG (.inl ho) h hc) hn
 ·rename_i ho; exact wp_of_good hF (by simp [ho]) (good_upd2 hL R hG (.inr ho) h hc) hn
 ·rename_i ho
  split at h
  ·rename_i r' hr
   obtain rfl := Option.some.inj h
   exact (hc False (aNilF_false _ hr)).elim
  split at h
  ·rename_i r' hr
   obtain rfl := Option.some.inj h
   exact good_yield hF hpr R hG ho hr hc hn
  ·have h0 := (good_call (F := F) hF (n := n) hpr hΓ R hG ho h hc (next := fun _ _ => True) (Q := Q) (fun _ _ _ _ _ => trivial)).1
   exact (good_call hF hpr hΓ R hG ho h hc (fun v w' β' hR hv => hn v w' β' hR hv (by rw [h0]; simp))).2
 ·rename_i ho; exact wp_of_good hF (by simp [ho]) (good_builtin hL R hG ho h hc) hn
 ·cases h

theorem aopV_sound (hF : Wide F) (hpr : X.b0.pr = P) (hL : LOk P L) (hΓ : ConOk P Γ) (R : Rel X β σ a w) (hG : GOk a G) {o : Oper} {r : Res} (hV : isV L G σ o = true) (h : aopV L Γ G σ o = some r) (hc : ∀ c ∈ r.c, c) {next : Act → World → Prop} {Q : Exit → Act → World → Prop}
  (hn : ∀ v w' β', Rel X β' { σ with h := upds r.h σ.h } a w' → VA w' (Mt β' (look (upds r.h σ.h))) β' (dm (look (upds r.h σ.h))) r.v v → (∀ p ∈ r.f, p) → next (a.put o.dst v) w') :
  o.wpIn F n P a w next Q := by
 unfold aopV at h
 split at h
 ·rename_i x ho
  unfold isV at hV
  simp only [ho, Bool.and_eq_true] at hV
  exact wp_of_good hF (by simp [ho]) (good_vnil R (.inl ho) hV.1 h) hn
 ·rename_i x ho
  unfold isV at hV
  simp only [ho, Bool.and_eq_true] at hV
  exact wp_of_good hF (by simp [ho]) (good_vnil R (.inr ho) hV.1 h) hn
 ·rename_i ho; exact wp_of_good hF (by simp [ho]) (good_valloc hL R ho h) hn
 ·rename_i ho; exact wp_of_good hF (by simp [ho]) (good_vbuild hL R hG ho h) hn
 ·rename_i ho; exact wp_of_good hF (by simp [ho]) (good_vrows hL R hG ho h) hn
 ·rename_i ho; exact wp_of_good hF (by simp [ho]) (good_vmakes hL R hG ho h hc) hn
 ·rename_i ho; exact wp_of_good hF (by simp [ho]) (good_vload hL R hG ho h hc) hn
 ·rename_i ho; exact wp_of_good hF (by simp [ho]) (good_vstore hL R hG ho h hc) hn
 ·rename_i ho; exact wp_of_good hF (by simp [ho]) (good_vfield hL R hG ho h hc) hn
 ·rename_i ho; exact wp_of_good hF (by simp [ho]) (good_vindex hL R hG ho h hc) hn
 ·rename_i ho; exact wp_of_good hF (by simp [ho]) (good_vslice hL R hG ho h hc) hn
 ·rename_i args ts ho
  split at h
  ·rename_i s x hxs
   have hall := mapT_sound R hG hxs
   match hl : args.toList with
   | [p, q] =>
    rw [hl] at hall
    cases hall with
    | cons h1 h2 => cases h2 with
     | cons h2 _ => exact wp_of_good hF (by simp [ho]) (good_vappend hL R ho hl h1 h2 h hc) hn
   | [] => rw [hl] at hxs; cases hxs
   | [_] => have := hall.length; rw [hl] at this; simp at this
   | _ :: _ :: _ :: _ => have := hall.length; rw [hl] at this; simp at this
  ·cases h
 ·rename_i args ts ho
  split at h
  ·rename_i n' k t hxs hts
   split at h
   ·rename_i y hy
    split at h
    ·rename_i s hel
     obtain rfl := Option.some.inj h
     exact wp_of_good hF (by simp [ho]) (good_vlen hL R hG ho hxs hts hy hel) hn
    ·cases h
   ·cases h
  ·cases h
 ·rename_i ho
  have h0 := (good_vcall (F := F) hF (n := n) hpr hΓ R hG ho h hc (next := fun _ _ => True) (Q := Q) (fun _ _ _ _ _ => trivial)).1
  exact (good_vcall hF hpr hΓ R hG ho h hc (fun v w' β' hR hv => hn v w' β' hR hv (by rw [h0]; simp))).2
 ·cases h
theorem aop_sound (hF : Wide F) (hpr : X.b0.pr = P) (hL : LOk P L) (hΓ : ConOk P Γ) (R : Rel X β σ a w) (hG : GOk a G) {o : Oper} {r : Res} (h : aop L Γ G σ o = some r) (hc : ∀ c ∈ r.c, c) {next : Act → World → Prop} {Q : Exit → Act → World → Prop}
  (hn : ∀ v w' β', Rel X β' { σ with h := upds r.h σ.h } a w' → VA w' (Mt β' (look (upds r.h σ.h))) β' (dm (look (upds r.h σ.h))) r.v v → (∀ p ∈ r.f, p) → next (a.put o.dst v) w') :
  o.wpIn F n P a w next Q := by
 unfold aop at h
 split at h
 ·rename_i hV; exact aopV_sound hF hpr hL hΓ R hG hV h hc hn
 ·exact aop0_sound hF hpr hL hΓ R hG h hc hn

/-! guards -/
theorem boolOf_sound {M : CM} {D : Nat → Prop} {x : TV} {b : Bool} {v : Value} (h : boolOf x = some b) (hv : VT w M β D x v) : v = .bool b := by
 unfold boolOf at h
 split at h
 ·obtain rfl := Option.some.inj h; exact VT.bool hv
 ·cases h

theorem undef_bool (b : Bool) : undef ≠ Value.bool b := by simp [undef]

theorem guards_sound (R : Rel X β σ a w) : ∀ {G : List (Nat × Bool)} {gs : List Prop}, guards σ G = some gs →
  (All gs → GOk a G) ∧ (∀ t b r, G = (t, b) :: r → (a.tmps.getD t undef = .bool b → ∀ p ∈ gs, p))
 | [], gs, h => by
  obtain rfl := Option.some.inj h
  exact ⟨fun _ t b hh => by simp [has] at hh, fun t b r hh => by cases hh⟩
 | [(t, q)], gs, h => by
  unfold guards at h
  simp only at h
  split at h
  ·cases h
  ·split at h
   ·rename_i x hx
    split at h
    ·rename_i b hb
     obtain rfl := Option.some.inj h
     have hv := boolOf_sound hb (R.sl _ _ hx).2
     refine ⟨fun hall t' b' hh => ?_, fun t' b' r hh hv' => ?_⟩
     ·simp only [has, Bool.or_false, Bool.and_eq_true, beq_iff_eq] at hh
      obtain ⟨rfl, rfl⟩ := hh
      rw [hv]
      have : b = q := hall
      rw [this]
     ·cases hh
      rw [hv] at hv'
      intro p hp
      simp only [List.mem_singleton] at hp
      rw [hp]
      injection hv'
    ·cases h
   ·cases h
 | (t, q) :: (t', q') :: r, gs, h => by
  unfold guards at h
  simp only at h
  split at h
  ·rename_i g v x hx
   split at h
   ·rename_i hgv
    simp only [Bool.and_eq_true, beq_iff_eq] at hgv
    obtain ⟨rfl, rfl⟩ := hgv
    split at h
    ·rename_i b l hb hl
     obtain rfl := Option.some.inj h
     obtain ⟨ih1, ih2⟩ := guards_sound R hl
     have hd := (R.gd _ _ _ _ hx).2
     refine ⟨fun hall t1 b1 hh => ?_, fun t1 b1 r1 hh hv' => ?_⟩
     ·have hall' := All_iff.1 hall
      have hrest : GOk a ((g, v) :: r) := ih1 (All_iff.2 fun p hp => hall' p (by simp [hp]))
      simp only [has, Bool.or_eq_true, Bool.and_eq_true, beq_iff_eq] at hh
      rcases hh with ⟨rfl, rfl⟩ | hh
      ·have hbq : b = q := hall' _ (List.mem_cons_self ..)
       have hg : a.tmps.getD g undef = .bool v := hrest _ _ (by simp [has])
       rcases hd with ⟨_, hd⟩ | ⟨hd, _⟩
       ·rw [boolOf_sound hb hd, hbq]
       ·exact absurd hg hd
      ·exact hrest _ _ (by simpa [has] using hh)
     ·cases hh
      rcases hd with ⟨hg, hd⟩ | ⟨_, hd⟩
      ·have := boolOf_sound hb hd
       rw [this] at hv'
       intro p hp
       rcases List.mem_cons.1 hp with rfl | hp
       ·injection hv'
       ·exact ih2 _ _ _ rfl hg p hp
      ·rw [hd] at hv'
       exact absurd hv' (undef_bool _)
    ·cases h
   ·cases h
  ·cases h

theorem gbool_cons (σ : St) (t : Nat) (w : Bool) (q : Nat × Bool) (r : List (Nat × Bool)) : gbool σ ((t, w) :: q :: r) = match look σ.g t with
  | some (_, _, x) => match boolOf x, gbool σ (q :: r) with
   | some b, some c => some ((b == w) && c)
   | _, _ => none
  | none => none := rfl
theorem guards_cons (σ : St) (t : Nat) (w : Bool) (t' : Nat) (w' : Bool) (r : List (Nat × Bool)) : guards σ ((t, w) :: (t', w') :: r) = match look σ.g t with
  | some (g, v, x) => if g == t' && v == w' then
    match boolOf x, guards σ ((t', w') :: r) with
    | some b, some l => some ((b = w) :: l)
    | _, _ => none
   else none
  | none => none := rfl
theorem guards_bool (R : Rel X β σ a w) : ∀ {G : List (Nat × Bool)} {gs : List Prop} {c : Bool}, guards σ G = some gs → gbool σ G = some c → (c = true ↔ All gs)
 | [], gs, c, h, hc => by
  obtain rfl := Option.some.inj h
  obtain rfl := Option.some.inj hc
  exact ⟨fun _ => trivial, fun _ => rfl⟩
 | [(t, q)], gs, c, h, hc => by
  unfold guards at h
  unfold gbool at hc
  simp only at h hc
  split at h
  ·cases h
  ·rename_i hg
   rw [hg] at hc
   simp only at hc
   split at h
   ·rename_i x hx
    rw [hx] at hc
    simp only at hc
    split at h
    ·rename_i b hb
     rw [hb] at hc
     obtain rfl := Option.some.inj h
     obtain rfl := Option.some.inj hc
     simp [All]
    ·cases h
   ·cases h
 | (t, q) :: (t', q') :: r, gs, c, h, hc => by
  rw [guards_cons] at h
  rw [gbool_cons] at hc
  split at h
  ·rename_i g v x hx
   rw [hx] at hc
   split at h
   ·split at h
    ·rename_i b l hb hl
     simp only [hb] at hc
     split at hc
     ·rename_i b' c' hb' hc'
      injection hb' with hb'
      subst hb'
      obtain rfl := Option.some.inj h
      obtain rfl := Option.some.inj hc
      have ih := guards_bool R hl hc'
      rw [Bool.and_eq_true, ih]
      cases l with
      | nil => simp [All]
      | cons p l => simp [All]
     ·cases hc
    ·cases h
   ·cases h
  ·cases h
theorem Rel.congrH (R : Rel X β σ a w) {h' : List (Nat × HO)} (e : look h' = look σ.h) : Rel X β { σ with h := h' } a w := by
 refine ⟨R.tn, R.df, R.fr, ?_, ?_, R.bm, ?_, ?_, ?_, ?_⟩
 ·simp only [e]; exact R.own
 ·simp only [e]; exact R.be
 ·simp only [e]; exact R.hr
 ·simp only [e]; exact R.ev
 ·simp only [e]; exact R.sl
 ·simp only [e]; exact R.gd
theorem look_same {h : List (Nat × HO)} {n : Nat} {o : HO} (e : look h n = some o) : look ((n, o) :: h) = look h := by
 funext k
 rw [look_cons]
 split
 ·rename_i hk; rw [← hk, e]
 ·rfl
theorem gupd1_true {old : Option HO} {new o : HO} {ps : List Prop} (h : gupd1 true old new = some (ps, o)) (hp : ∀ p ∈ ps, p) : o = new := by
 unfold gupd1 at h
 split at h
 ·injection h with h; injection h with h1 h2; rw [← h2]; rfl
 ·rename_i e sz l e' sz' l'
  split at h
  ·rename_i hc
   obtain ⟨rfl, rfl⟩ := hc
   injection h with h; injection h with h1 h2; rw [← h2]; rfl
  ·cases h
 ·injection h with h; injection h with h1 h2
  have := hp _ (by rw [← h1]; exact List.mem_singleton.2 rfl)
  rw [← h2, this]
 ·split at h
  ·rename_i hs
   injection h with h; injection h with h1 h2
   have := hp _ (by rw [← h1]; exact List.mem_singleton.2 rfl)
   rw [← h2, this, hs.1, hs.2.1]
  ·cases h
 ·split at h
  ·rename_i hty _
   subst hty
   split at h
   ·rename_i hs
    injection h with h; injection h with h1 h2
    have := hp _ (by rw [← h1]; exact List.mem_singleton.2 rfl)
    rw [← h2, hs.1, ← this]
   ·cases h
  ·cases h
 ·split at h
  ·rename_i e _
   subst e
   injection h with h; injection h with h1 h2
   rw [← h2]
   have := hp _ (by rw [← h1]; exact List.mem_singleton.2 rfl)
   simp only at this
   rw [this]; rfl
  ·cases h
 ·cases h
theorem gupd1_false {old : Option HO} {new o : HO} {ps : List Prop} (h : gupd1 false old new = some (ps, o)) : old = some o ∨ (old = none ∧ ∃ e sz, o = .gr e sz 0) ∨ (∃ e sz l, old = some (.gr e sz l) ∧ o = .dead (l * sz)) ∨ (∃ τ e l, old = some (.vec τ e l) ∧ 0 < τ.size ∧ o = .gr e τ.size l.length) ∨ (∃ τ e l, old = some (.vec τ e l) ∧ 0 < τ.size ∧ o = .frz τ e l) := by
 unfold gupd1 at h
 split at h
 ·injection h with h; injection h with h1 h2; exact .inr (.inl ⟨rfl, _, _, h2.symm⟩)
 ·split at h
  ·injection h with h; injection h with h1 h2; rw [← h2]; exact .inl rfl
  ·cases h
 ·injection h with h; injection h with h1 h2; exact .inr (.inr (.inl ⟨_, _, _, rfl, h2.symm⟩))
 ·split at h
  ·rename_i hs
   injection h with h; injection h with h1 h2; exact .inr (.inr (.inr (.inl ⟨_, _, _, rfl, Nat.le_of_ble_eq_true hs.2.2, h2.symm⟩)))
  ·cases h
 ·split at h
  ·split at h
   ·rename_i hs
    injection h with h; injection h with h1 h2; exact .inr (.inr (.inr (.inr ⟨_, _, _, rfl, Nat.le_of_ble_eq_true hs.2, h2.symm⟩)))
   ·cases h
  ·cases h
 ·split at h
  ·injection h with h; injection h with h1 h2; rw [← h2]; exact .inl rfl
  ·cases h
 ·cases h

theorem getD_put {a : Act} {d : Nat} {v : Value} {t : Nat} (hd : d < a.tmps.size) : (a.put (some d) v).tmps.getD t undef = if t = d then v else a.tmps.getD t undef := by
 simp only [Act.put, Array.getD_eq_getD_getElem?, Array.getElem?_setIfInBounds]
 by_cases h : d = t
 ·subst h; simp [hd]
 ·have h' : ¬ t = d := fun e => h e.symm
  simp [h, h']

theorem gfree_spec : ∀ {g : List (Nat × (Nat × Bool × TV))} {d : Nat}, gfree d g = true → look g d = none ∧ ∀ t q b x, look g t = some (q, b, x) → q ≠ d
 | [], _, _ => ⟨rfl, fun _ _ _ _ h => by cases h⟩
 | (t, (q, b, x)) :: r, d, h => by
  simp only [gfree, Bool.and_eq_true, bne_iff_ne, ne_eq] at h
  obtain ⟨h1, h2, h3⟩ := h
  obtain ⟨i1, i2⟩ := gfree_spec h3
  refine ⟨by rw [look_cons, if_neg h1]; exact i1, fun t' q' b' x' hl => ?_⟩
  rw [look_cons] at hl
  split at hl
  ·injection hl with hl; injection hl with hl; rw [← hl]; exact h2
  ·exact i2 _ _ _ _ hl

theorem Rel.put (R : Rel X β σ a w) {d : Nat} {v : AV} {u : Value} (hd : d < X.N) (hg : gfree d σ.g = true) (hv : VA w (Mt β (look σ.h)) β (dm (look σ.h)) v u) :
  Rel X β { σ with s := (d, v) :: σ.s } (a.put (some d) u) w := by
 have hd' : d < a.tmps.size := by rw [R.tn]; exact hd
 obtain ⟨g1, g2⟩ := gfree_spec hg
 refine ⟨by simp [Act.put, R.tn], R.df, R.fr, R.own, R.be, R.bm, R.hr, R.ev, fun t x h => ?_, fun t g b x h => ?_⟩
 ·simp only [look_cons] at h
  rw [getD_put hd']
  by_cases hdt : d = t
  ·subst hdt
   simp at h
   subst h
   exact ⟨hd, by simpa using hv⟩
  ·rw [if_neg hdt] at h
   rw [if_neg (fun e => hdt e.symm)]
   exact R.sl t x h
 ·have hgd : g ≠ d := g2 _ _ _ _ h
  have htd : t ≠ d := fun e => by rw [e, g1] at h; cases h
  rw [getD_put hd', getD_put hd', if_neg hgd, if_neg htd]
  exact R.gd t g b x h

theorem Rel.putG (R : Rel X β σ a w) {d t : Nat} {b : Bool} {v : TV} {u : Value} (hd : d < X.N) (hg : gfree d σ.g = true) (hs : look σ.s d = none) (hdt : d ≠ t)
  (hv : (a.tmps.getD t undef = .bool b ∧ VT w (Mt β (look σ.h)) β (dm (look σ.h)) v u) ∨ (a.tmps.getD t undef ≠ .bool b ∧ u = undef)) :
  Rel X β { σ with g := (d, (t, b, v)) :: σ.g } (a.put (some d) u) w := by
 have hd' : d < a.tmps.size := by rw [R.tn]; exact hd
 obtain ⟨g1, g2⟩ := gfree_spec hg
 refine ⟨by simp [Act.put, R.tn], R.df, R.fr, R.own, R.be, R.bm, R.hr, R.ev, fun t' x h => ?_, fun t' g b' x h => ?_⟩
 ·have : t' ≠ d := fun e => by rw [e] at h; simp only at h; rw [hs] at h; cases h
  rw [getD_put hd', if_neg this]
  exact R.sl t' x h
 ·simp only [look_cons] at h
  by_cases hdt' : d = t'
  ·subst hdt'
   simp at h
   obtain ⟨rfl, rfl, rfl⟩ := h
   rw [getD_put hd', getD_put hd', if_pos rfl, if_neg (fun e => hdt e.symm)]
   exact ⟨hd, hv⟩
  ·rw [if_neg hdt'] at h
   rw [getD_put hd', getD_put hd', if_neg (g2 _ _ _ _ h), if_neg (fun e => hdt' e.symm)]
   exact R.gd t' g b' x h

theorem wanted_iff {ops : Array Oper} {o : Oper} {j : Nat} {b : Bool} {t : Nat} {oj : Oper} (ho : o.guard = some (j, b)) (hj : ops[j]? = some oj) (ht : oj.dst = some t) (hts : t < a.tmps.size) :
  Region.wanted o (yielded ops a.tmps) = true ↔ a.tmps.getD t undef = .bool b := by
 simp only [Region.wanted, ho, yielded, hj, ht, Option.bind_some, beq_iff_eq]
 rw [Array.getD_eq_getD_getElem?, Array.getElem?_eq_getElem hts]
 simp only [Option.getD_some]
 constructor
 ·intro h
  split at h
  ·rename_i b' hb
   injection hb with hb
   injection h with h
   rw [hb, h]
  ·cases h
 ·intro h; rw [h]

theorem ands_cds {gs : List Prop} {r : Res} {v : VC} (h : (VC.ands (cds gs r) v).holds) : (All gs → (∀ c ∈ r.c, c) ∧ ((∀ p ∈ r.f, p) → v.holds)) ∧ (gs ≠ [] → (All gs → ∀ p ∈ r.f, p) → v.holds) := by
 unfold cds at h
 split at h
 ·refine ⟨fun _ => ?_, fun h => absurd rfl h⟩
  have key : ∀ (cs : List Prop) (u : VC), (VC.ands (cs.map Cd.ob) u).holds → (∀ c ∈ cs, c) ∧ u.holds := by
   intro cs
   induction cs with
   | nil => intro u h; exact ⟨by simp, h⟩
   | cons c cs ih =>
    intro u h
    obtain ⟨h1, h2⟩ := h
    obtain ⟨h3, h4⟩ := ih u h2
    exact ⟨fun x hx => by rcases List.mem_cons.1 hx with rfl | hx; exact h1; exact h3 x hx, h4⟩
  have keyf : ∀ (cs : List Prop) (u : VC), (VC.ands (cs.map Cd.fact) u).holds → (∀ c ∈ cs, c) → u.holds := by
   intro cs
   induction cs with
   | nil => intro u h _; exact h
   | cons c cs ih => intro u h hc; exact ih u (h (hc c (by simp))) (fun x hx => hc x (by simp [hx]))
  have app : ∀ (cs ds : List Cd) (u : VC), VC.ands (cs ++ ds) u = VC.ands cs (VC.ands ds u) := by
   intro cs
   induction cs with
   | nil => intro ds u; rfl
   | cons c cs ih => intro ds u; cases c <;> simp [VC.ands, ih]
  rw [app] at h
  obtain ⟨h1, h2⟩ := key _ _ h
  exact ⟨h1, keyf _ _ h2⟩
 ·have h1 : (∀ c ∈ r.c, All gs → c) ∧ (VC.ands (match r.f with | [] => [] | fs => [.fact (All gs → All fs)]) v).holds := by
   split at h
   ·rename_i hr; rw [hr]; exact ⟨by simp, h⟩
   ·obtain ⟨h1, h2⟩ := h
    exact ⟨fun c hc hg => All_iff.1 (h1 hg) c hc, h2⟩
  have h2 : (All gs → ∀ p ∈ r.f, p) → v.holds := by
   have := h1.2
   split at this
   ·intro _; exact this
   ·intro hf; exact this fun hg => All_iff.2 (hf hg)
  exact ⟨fun hg => ⟨fun c hc => h1.1 c hc hg, fun hf => h2 fun _ => hf⟩, fun _ => h2⟩

theorem chain_cons {ops : List Oper} {o : Oper} {t : Nat} {b : Bool} {r : List (Nat × Bool)} (h : chain ops 10 o.guard = (t, b) :: r) : ∃ j oj, o.guard = some (j, b) ∧ ops[j]? = some oj ∧ oj.dst = some t := by
 unfold chain at h
 split at h
 ·rename_i h0; cases h0
 ·cases h
 ·rename_i k j b' _ hg
  split at h
  ·rename_i oj hj
   split at h
   ·rename_i t' ht
    injection h with h1 h2
    injection h1 with h3 h4
    subst h3 h4
    exact ⟨j, oj, hg, hj, ht⟩
   ·cases h
  ·cases h

theorem step_sound (hF : Wide F) (hpr : X.b0.pr = P) (hL : LOk P L) (hΓ : ConOk P Γ) (R : Rel X β σ a w) {ops : Array Oper} {o : Oper} {cs : List Cd} {σ' : St} {v : VC} (h : astep L Γ X.N ops.toList o σ = some (cs, σ')) (hv : (VC.ands cs v).holds)
  {next : Act → World → Prop} {Q : Exit → Act → World → Prop} (hn : ∀ a' w' β', Rel X β' σ' a' w' → v.holds → next a' w') :
  if Region.wanted o (yielded ops a.tmps) then o.wpIn F n P a w next Q else (∀ f, o.about P w a.eval = some f → F.fn f) ∧ next (a.put o.dst undef) w := by
 unfold astep at h
 split at h
 ·cases h
 rename_i hchk
 split at h
 ·cases h
 ·rename_i gs hgs
  obtain ⟨hg1, hg2⟩ := guards_sound R hgs
  split at h
  ·cases h
  ·rename_i r hr
   split at h
   ·-- no slot, no guard
    rename_i hdst hch
    have hgn : o.guard = none := by
     cases hgd : o.guard with
     | none => rfl
     | some g => rw [hgd, ← hgd, hch] at hchk; simp [hgd] at hchk
    injection h with h; injection h with h1 h2; subst h1 h2
    rw [hch] at hgs hr
    obtain rfl := Option.some.inj hgs
    have hh := (ands_cds hv).1 trivial
    have hw : Region.wanted o (yielded ops a.tmps) = true := by simp [Region.wanted, hgn]
    rw [if_pos hw]
    have hr : aop L Γ [] σ o = some r := by unfold aopG at hr; split at hr <;> first | (injection hr with hr; rw [← hr]; assumption) | cases hr
    refine aop_sound hF hpr hL hΓ R (by rw [hch] at hg1; exact hg1 trivial) hr hh.1 fun u w' β' hR _ hf => ?_
    rw [hdst]
    exact hn _ _ _ hR (hh.2 hf)
   ·cases h
   ·-- a slot, no guard
    rename_i d hdst hch
    split at h
    ·rename_i hfree
     simp only [Bool.and_eq_true, decide_eq_true_eq] at hfree
     have hgn : o.guard = none := by
      cases hgd : o.guard with
      | none => rfl
      | some g => rw [hgd, ← hgd, hch] at hchk; simp [hgd] at hchk
     injection h with h; injection h with h1 h2; subst h1 h2
     rw [hch] at hgs hr
     obtain rfl := Option.some.inj hgs
     have hh := (ands_cds hv).1 trivial
     have hw : Region.wanted o (yielded ops a.tmps) = true := by simp [Region.wanted, hgn]
     rw [if_pos hw]
     have hr : aop L Γ [] σ o = some r := by unfold aopG at hr; split at hr <;> first | (injection hr with hr; rw [← hr]; assumption) | cases hr
     refine aop_sound hF hpr hL hΓ R (by rw [hch] at hg1; exact hg1 trivial) hr hh.1 fun u w' β' hR hva hf => ?_
     rw [hdst]
     exact hn _ _ _ (hR.put hfree.2 hfree.1 hva) (hh.2 hf)
    ·cases h
   ·-- a slot, under a guard
    rename_i d t b rest hdst hch
    split at h
    ·rename_i hfree
     simp only [Bool.and_eq_true, decide_eq_true_eq, bne_iff_ne, ne_eq] at hfree
     obtain ⟨hfree, hdt, hdN⟩ := hfree
     split at h
     ·rename_i x hx hs
      injection h with h; injection h with h1 h2; subst h1 h2
      have hr' := hr
      unfold aopG at hr'
      split at hr'
      case h_2 => cases hr'
      rename_i r0 hr0
      obtain ⟨j, oj, hgd, hj, ht⟩ := chain_cons hch
      have hjo : ops[j]? = some oj := by simpa using hj
      have htN : t < a.tmps.size := by
       by_cases htN : t < a.tmps.size
       ·exact htN
       ·exfalso
        rw [hch] at hgs
        unfold guards at hgs
        rw [R.tn] at htN
        cases rest with
        | nil =>
         simp only at hgs
         split at hgs
         ·cases hgs
         ·split at hgs
          ·rename_i y hy; exact htN (R.sl _ _ hy).1
          ·cases hgs
        | cons q rest =>
         simp only at hgs
         split at hgs
         ·rename_i y hy; exact htN (R.gd _ _ _ _ hy).1
         ·cases hgs
      have hwi := wanted_iff (a := a) hgd hjo ht htN
      have hgne : gs ≠ [] := by
       rw [hch] at hgs
       intro h0
       rw [h0] at hgs
       unfold guards at hgs
       cases rest with
       | nil =>
        simp only at hgs
        split at hgs
        ·cases hgs
        ·split at hgs
         ·split at hgs <;> simp at hgs
         ·cases hgs
       | cons q rest =>
        simp only at hgs
        split at hgs
        ·split at hgs
         ·split at hgs <;> simp at hgs
         ·cases hgs
        ·cases hgs
      by_cases hw : Region.wanted o (yielded ops a.tmps) = true
      ·rw [if_pos hw]
       have hall : All gs := All_iff.2 (hg2 t b rest hch (hwi.1 hw))
       have hh := (ands_cds hv).1 hall
       have hsame : r.h = r0.h ∧ r.v = r0.v ∧ r.f = r0.f ∧ ∀ c ∈ r0.c, c := by
        rw [hch] at hr'
        unfold gres at hr'
        split at hr'
        ·injection hr' with hr'; rw [hr']; exact ⟨rfl, rfl, rfl, hh.1⟩
        ·injection hr' with hr'; rw [hr']; exact ⟨rfl, rfl, rfl, hh.1⟩
        ·rename_i n o' hh1 _
         split at hr'
         ·rename_i c hc
          split at hr'
          ·rename_i ps o'' hgu
           injection hr' with hr'
           have hc1 := hh.1
           rw [← hr'] at hc1
           have hct : c = true := (guards_bool R (hch ▸ hgs) hc).2 hall
           subst hct
           have := gupd1_true hgu fun p hp => hc1 p (List.mem_append_right _ hp)
           subst this
           rw [← hr']
           exact ⟨hh1.symm, rfl, rfl, fun c hc => hc1 c (List.mem_append_left _ hc)⟩
          ·cases hr'
         ·cases hr'
        ·cases hr'
       refine aop_sound hF hpr hL hΓ R (hg1 hall) hr0 hsame.2.2.2 fun u w' β' hR hva hf => ?_
       rw [hdst]
       rw [← hsame.1] at hR hva
       rw [← hsame.2.1, hx] at hva
       exact hn _ _ _ (Rel.putG hR hdN hfree hs hdt (.inl ⟨hwi.1 hw, hva⟩)) (hh.2 (hsame.2.2.1 ▸ hf))
      ·rw [if_neg hw]
       refine ⟨fun f _ => hF.fn f, ?_⟩
       have hnw : a.tmps.getD t undef ≠ .bool b := fun h => hw (hwi.2 h)
       have hna : ¬ All gs := fun hall => hnw (hg1 hall t b (by rw [hch]; simp [has]))
       rw [hdst]
       obtain ⟨β', R'⟩ : ∃ β', Rel X β' { σ with h := upds r.h σ.h } a w := by
        rw [hch] at hr'
        unfold gres at hr'
        split at hr'
        ·rename_i hG; cases hG
        ·rename_i hh1 _
         injection hr' with hr'
         rw [← hr', hh1]
         exact ⟨β, R⟩
        ·rename_i n o' hh1 _
         split at hr'
         ·rename_i c hc
          split at hr'
          ·rename_i ps o'' hgu
           injection hr' with hr'
           have hcf : c = false := by
            cases c with
            | false => rfl
            | true => exact absurd ((guards_bool R (hch ▸ hgs) hc).1 rfl) hna
           subst hcf
           rw [← hr']
           rcases gupd1_false hgu with ho | ⟨ho, e, sz, rfl⟩ | ⟨e, sz, l, ho, rfl⟩ | ⟨τ, e, l, ho, hτ, rfl⟩ | ⟨τ, e, l, ho, hτ, rfl⟩
           ·exact ⟨β, R.congrH (look_same ho)⟩
           ·obtain ⟨β', R', _⟩ := R.nilOwn ho e sz
            exact ⟨β', R'⟩
           ·obtain ⟨β', R', _⟩ := R.kill ho
            exact ⟨β', R'⟩
           ·obtain ⟨β', R', _⟩ := R.freeze ho hτ
            exact ⟨β', R'⟩
           ·obtain ⟨β', R', _⟩ := R.freezeF ho hτ
            exact ⟨β', R'⟩
          ·cases hr'
         ·cases hr'
        ·cases hr'
       exact hn _ _ _ (R'.putG hdN hfree hs hdt (.inr ⟨hnw, rfl⟩)) ((ands_cds hv).2 hgne fun h => absurd h hna)
     ·cases h
    ·cases h

theorem ands_append : ∀ (cs ds : List Cd) (u : VC), VC.ands (cs ++ ds) u = VC.ands cs (VC.ands ds u)
 | [], _, _ => rfl
 | .ob _ :: cs, ds, u => by simp [VC.ands, ands_append cs]
 | .fact _ :: cs, ds, u => by simp [VC.ands, ands_append cs]

theorem steps_sound (hF : Wide F) (hpr : X.b0.pr = P) (hL : LOk P L) (hΓ : ConOk P Γ) {ops : Array Oper} {Q : Exit → Act → World → Prop} {v : VC} {σe : St} (hn : ∀ a' w' β', Rel X β' σe a' w' → v.holds → Q .normal a' w') :
  ∀ {l : List Oper} {cs : List Cd} {β : Bt} {σ : St} {a : Act} {w : World}, Rel X β σ a w → asteps L Γ X.N ops.toList l σ = some (cs, σe) → (VC.ands cs v).holds → wpListIn F n P ops Q l a w
 | [], cs, β, σ, a, w, R, h, hv => by
  injection h with h; injection h with h1 h2; subst h1 h2
  exact hn _ _ _ R hv
 | o :: l, cs, β, σ, a, w, R, h, hv => by
  unfold asteps at h
  split at h
  ·rename_i c1 σ1 h1
   split at h
   ·rename_i c2 σ2 h2
    injection h with h; injection h with e1 e2; subst e1 e2
    rw [ands_append] at hv
    exact step_sound hF hpr hL hΓ R h1 hv fun a' w' β' R' hv' => steps_sound hF hpr hL hΓ hn R' h2 hv'
   ·cases h
  ·cases h
end
end Go.Sy
namespace Go.Sy

/-! code to a tree of conditions -/
def VC.fcts : List Cd → VC → VC
 | [], v => v
 | .ob _ :: r, v => VC.fcts r v
 | .fact p :: r, v => .imp p (VC.fcts r v)

structure Ann : Type 1 where
 X : Type
 inv : X → Prop
 m : X → Nat
 s : X → List (Nat × AV)
 h : X → List (Nat × HO) := fun _ => []
 un : Option Nat := none

inductive It : Type 1
 | rn (m : Nat) (c : Code)
 | code (c : Code)
 | blk (id : Nat)
 | lend (A : Ann) (x : A.X) (hd : A.X → St)

def mem (l : List Nat) (k : Nat) : Bool :=
 match l with
 | [] => false
 | a :: r => a == k || mem r k

def keepS (keep : List Nat) : List (Nat × AV) → List Nat → List (Nat × AV)
 | [], _ => []
 | (k, v) :: r, seen => if mem keep k && !mem seen k then (k, v) :: keepS keep r (k :: seen) else keepS keep r (k :: seen)
def keepH : List (Nat × HO) → List Nat → List (Nat × HO)
 | [], _ => []
 | (k, v) :: r, seen => if !mem seen k then (k, v) :: keepH r (k :: seen) else keepH r seen

def dsts : Nat → Code → List Nat
 | 0, _ => []
 | n + 1, c => match c with
  | .region _ ops _ => ops.toList.filterMap (·.dst)
  | .seq a b => dsts n a ++ dsts n b
  | .cond _ a b => dsts n a ++ dsts n b
  | .block _ a => dsts n a
  | .loop a => dsts n a
  | .scope a => dsts n a
  | _ => []

def dropTo (id : Nat) : List It → Option (List It)
 | [] => none
 | .blk i :: r => if i == id then some r else dropTo id r
 | .code _ :: r => dropTo id r
 | .lend _ _ _ :: r => dropTo id r
 | .rn _ _ :: r => dropTo id r

def eqDV : DV → DV → List Prop
 | .lit (.int k a), .lit (.int k' b) => if k = k' then [a = b] else [False]
 | .lit (.bool a), .lit (.bool b) => [a = b]
 | .sl τ l, .sl σ m => match Ty.same τ σ with
  | some ⟨h⟩ => [(h ▸ l : List σ.T) = m]
  | none => [False]
 | x, y => [x = y]
def eqLV : LV → LV → List Prop
 | .d x, .d y => eqDV x y
 | .ptr n o, .ptr m q => if n = m ∧ o = q then [] else [False]
 | .own n x, .own m y => if n = m then eqDV x y else [False]
 | .mp n, .mp m => if n = m then [] else [False]
 | .yl n, .yl m => if n = m then [] else [False]
 | .vr n k, .vr m q => if n = m then [k = q] else [False]
 | x, y => [x = y]
def eqLVs : List LV → List LV → List Prop
 | [], [] => []
 | x :: r, y :: q => eqLV x y ++ eqLVs r q
 | _, _ => [False]
def eqTV : TV → TV → List Prop
 | .one x, .one y => eqLV x y
 | .agg x, .agg y => eqLVs x y
 | _, _ => [False]
def eqTVs : List TV → List TV → List Prop
 | [], [] => []
 | x :: r, y :: q => eqTV x y ++ eqTVs r q
 | _, _ => [False]
def eqAV : AV → AV → List Prop
 | .t x, .t y => eqTV x y
 | .tup x, .tup y => eqTVs x y
 | _, _ => [False]
def eqFM : List (Int × TV) → List (Int × TV) → List Prop
 | [], [] => []
 | (i, x) :: r, (j, y) :: q => (i = j) :: (eqTV x y ++ eqFM r q)
 | _, _ => [False]
def eqHO : HO → HO → List Prop
 | .cells a, .cells b => eqLVs a b
 | .gr e s a, .gr e' s' b => if e = e' ∧ s = s' then [a = b] else [False]
 | .ob sg h g, .ob sg' h' g' => match sgSame sg sg' with
  | some ⟨e⟩ => [(e ▸ h : List (tpl sg').T) = h', (e ▸ g : Lp (tpl sg').T) = g']
  | none => [False]
 | .mp κ ν l, .mp κ' ν' l' => match κ.same κ', ν.same ν' with
  | some ⟨h1⟩, some ⟨h2⟩ => [(h2 ▸ h1 ▸ l : List (κ'.T × ν'.T)) = l']
  | _, _ => [False]
 | .vec τ e l, .vec τ' e' l' => if e = e' then match τ.same τ' with
  | some ⟨h⟩ => [(h ▸ l : List τ'.T) = l']
  | none => [False]
  else [False]
 | .frz τ e l, .frz τ' e' l' => if e = e' then match τ.same τ' with
  | some ⟨h⟩ => [(h ▸ l : List τ'.T) = l']
  | none => [False]
  else [False]
 | .it q p, .it q' p' => [q = q', p = p']
 | .dead a, .dead b => [a = b]
 | .fm l, .fm m => eqFM l m
 | x, y => [x = y]
def coD : DV → DV → DV
 | .sl τ _, .sl .tu _ => .sl τ []
 | _, y => y
def coL : LV → LV → LV
 | .d w, .own _ x => .d (coD w x)
 | .d w, .d x => .d (coD w x)
 | _, y => y
def coLs : List LV → List LV → List LV
 | w :: ws, x :: xs => coL w x :: coLs ws xs
 | _, xs => xs
def coT : TV → TV → TV
 | .one w, .one x => .one (coL w x)
 | .agg ws, .agg xs => .agg (coLs ws xs)
 | _, y => y
def coTs : List TV → List TV → List TV
 | w :: ws, x :: xs => coT w x :: coTs ws xs
 | _, xs => xs
def coA : AV → AV → AV
 | .t w, .t x => .t (coT w x)
 | .tup ws, .tup xs => .tup (coTs ws xs)
 | _, y => y
def entS (σ : List (Nat × AV)) : List (Nat × AV) → List Prop
 | [] => []
 | (k, v) :: r => (match look σ k with | some u => eqAV (coA v u) v | none => [False]) ++ entS σ r
def entH (σ : List (Nat × HO)) : List (Nat × HO) → List Prop
 | [] => []
 | (k, v) :: r => (match look σ k with | some u => eqHO u v | none => [False]) ++ entH σ r

def dropS (ds : List Nat) : List (Nat × AV) → List (Nat × AV)
 | [] => []
 | (k, v) :: r => if mem ds k then dropS ds r else (k, v) :: dropS ds r
def dropH (ds : List (Nat × HO)) : List (Nat × HO) → List (Nat × HO)
 | [] => []
 | (k, v) :: r => match look ds k with
  | some _ => dropH ds r
  | none => (k, v) :: dropH ds r

def firstRegion : Nat → Code → Option Nat
 | 0, _ => none
 | n + 1, c => match c with
  | .region id _ _ => some id
  | .seq a b => match firstRegion n a with | some i => some i | none => firstRegion n b
  | .cond _ a b => match firstRegion n a with | some i => some i | none => firstRegion n b
  | .block _ a => firstRegion n a
  | .loop a => firstRegion n a
  | .scope a => firstRegion n a
  | _ => none

def ptrOk (h : List (Nat × HO)) (n : Nat) : Bool := match look h n with | some _ => true | none => false
def ptrsOk (h : List (Nat × HO)) : List (Nat × Nat) → Bool
 | [] => true
 | (n, _) :: r => ptrOk h n && ptrsOk h r
def lvOk (h : List (Nat × HO)) : LV → Bool
 | .ptr n _ => ptrOk h n
 | .clo _ a b => ptrsOk h a && ptrsOk h b
 | .own n _ => ptrOk h n
 | .mp n => ptrOk h n
 | .yl n => ptrOk h n
 | .vr n _ => ptrOk h n
 | .vp n _ _ _ _ _ => ptrOk h n
 | _ => true
def lvsOk (h : List (Nat × HO)) : List LV → Bool
 | [] => true
 | x :: r => lvOk h x && lvsOk h r
def tvOk (h : List (Nat × HO)) : TV → Bool
 | .one x => lvOk h x
 | .agg xs => lvsOk h xs
def tvsOk (h : List (Nat × HO)) : List TV → Bool
 | [] => true
 | x :: r => tvOk h x && tvsOk h r
def avOk (h : List (Nat × HO)) : AV → Bool
 | .t x => tvOk h x
 | .tup xs => tvsOk h xs
 | .nx _ _ _ => true
def slotsOk (h : List (Nat × HO)) : List (Nat × AV) → Bool
 | [] => true
 | (_, v) :: r => avOk h v && slotsOk h r
def heapOk (h : List (Nat × HO)) : List (Nat × HO) → Bool
 | [] => true
 | (_, o) :: r => lvsOk h o.body && heapOk h r

def dropN (d : Nat) : List (Nat × HO) → List (Nat × HO)
 | [] => []
 | (k, o) :: r => if k == d then dropN d r else (k, o) :: dropN d r
def allocs : List Oper → List Nat
 | [] => []
 | o :: r => match o.op, o.dst with
  | .alloc _, some d => d :: allocs r
  | _, _ => allocs r
inductive Ex | nm | rt | ex (id : Nat)
def Ex.code : Ex → Code
 | .nm => .skip
 | .rt => .ret
 | .ex id => .exit id
def Ex.exit : Ex → Exit
 | .nm => .normal
 | .rt => .ret
 | .ex id => .exit id
def Ex.same : Ex → Ex → Bool
 | .nm, .nm => true
 | .rt, .rt => true
 | .ex i, .ex j => i == j
 | _, _ => false

structure RAnn where
 sg : List Ty
 go : Lp (tpl sg).T
 inv : List (tpl sg).T → Prop := fun _ => True
 h : List (tpl sg).T → List (Nat × HO) := fun _ => []
 js : List (Ex × (List (tpl sg).T → Prop)) := []
 jh : List (tpl sg).T → List (Nat × HO) := h
 sp : Option (Nat × Nat × List Int) := none
 ty : Ty := .tu
 fz : List (Nat × Nat) := []
open Classical in
noncomputable def RAnn.one (A : RAnn) : RAnn := { A with h := fun hist => if live A.go hist then A.h hist else A.jh hist }
def exFind {α : Type} : List (Ex × α) → Ex → Option α
 | [], _ => none
 | (e, p) :: r, f => if e.same f then some p else exFind r f
def ry (i : Nat) : Nat := 90000 + i
def lvN : LV → List Nat
 | .ptr n _ => [n]
 | .clo _ a b => a.map (·.1) ++ b.map (·.1)
 | .own n _ => [n]
 | .mp n => [n]
 | .yl n => [n]
 | .vr n _ => [n]
 | .vp n _ _ _ _ _ => [n]
 | _ => []
def lvsN : List LV → List Nat
 | [] => []
 | x :: r => lvN x ++ lvsN r
def expN (h : List (Nat × HO)) : List Nat → List Nat
 | [] => []
 | n :: r => (match look h n with | some o => lvsN o.body | _ => []) ++ expN h r
def lentN (h : List (Nat × HO)) (ca : List (Nat × Nat)) : List Nat :=
 let a := ca.map (·.1)
 let b := expN h a
 a ++ (b ++ expN h b)
def selH (ln : List Nat) (q : Bool) : List (Nat × HO) → List (Nat × HO)
 | [] => []
 | (n, o) :: r => if mem ln n == q then (n, o) :: selH ln q r else selH ln q r
def namesIn (h : List (Nat × HO)) : List (Nat × HO) → Bool
 | [] => true
 | (n, _) :: r => ptrOk h n && namesIn h r
def okS (h : List (Nat × HO)) : List (Nat × AV) → List Nat → List (Nat × AV)
 | [], _ => []
 | (k, v) :: r, seen => if !mem seen k && avOk h v then (k, v) :: okS h r (k :: seen) else okS h r (k :: seen)
def pSlots : List Nat → (sg : List Ty) → (tpl sg).T → List (Nat × AV)
 | p :: ps, a :: r, x => (p, .t (tvOf a x.1)) :: pSlots ps r x.2
 | _, _, _ => []
def distinct : List Nat → Bool
 | [] => true
 | a :: r => !mem r a && distinct r
def below (N : Nat) : List Nat → Bool
 | [] => true
 | a :: r => Nat.blt a N && below N r

def frgt (q : Bool) (N : Nat) : List Nat → St → St
 | [], σ => σ
 | d :: r, σ => frgt q N r (match q && (Nat.blt d N && ptrOk σ.h d) with
  | true => match heapOk (dropN d σ.h) (dropN d σ.h) with
   | true => { s := okS (dropN d σ.h) σ.s [], g := [], h := dropN d σ.h }
   | false => σ
  | false => σ)
variable (L : Nat → Option Lay) (Γ : Nat → Option Con)

abbrev nl (α : Type) : List α := []
def slD (σ : St) (k : Nat) : DV := match look σ.s k with
 | some (.t (.one (.d x))) => x
 | some (.t (.one (.own _ x))) => x
 | _ => nilS
def clD (σ : St) (n i : Nat) : DV := match look σ.h n with
 | some (.cells b) => match b[i]? with
  | some (.d x) => x
  | some (.own _ x) => x
  | _ => nilS
 | _ => nilS
def dI : DV → Int
 | .lit (.int _ x) => x
 | _ => 0
def dB : DV → Bool
 | .lit (.bool x) => x
 | _ => false
def dL (τ : Ty) (x : DV) : List τ.T := match asL τ x with
 | some l => l
 | none => []
structure Fn : Type 1 where
 N : Nat
 keep : List Nat
 ann : Nat → St → Option Ann := fun _ _ => none
 draw : List Oper → St → Bool := fun _ _ => false
 rann : Nat → St → Option RAnn := fun _ _ => none
 rf : Bool := true

def splG (f : St → VC) (σ : St) (n j : Nat) (b : List LV) (x : Int) : List Int → VC
 | [] => f σ
 | v :: r => .both (.imp (x = v) (f { s := σ.s, g := [], h := (n, .cells (b.set j (.kn v))) :: σ.h })) (.imp (x ≠ v) (splG f σ n j b x r))
def splF (f : St → VC) (σ : St) (n j : Nat) : VC := match look σ.h n with
 | some (.cells b) => match b[j]? with
  | some (.vr k m) => match look σ.h k with
   | some (.vec τ e l) => match Nat.ble 1 τ.size with
    | true => .conj (m = l.length) (f { s := σ.s, g := [], h := (n, .cells (b.set j (.d (.sl τ l)))) :: (k, .frz τ e l) :: σ.h })
    | false => .ff
   | _ => .ff
  | _ => .ff
 | _ => .ff
def splFs (f : St → VC) : List (Nat × Nat) → St → VC
 | [], σ => f σ
 | (n, j) :: r, σ => splF (splFs f r) σ n j
def splS (A : RAnn) (f : St → VC) (σ : St) : VC := match A.sp with
 | none => f σ
 | some (n, j, vs) => match look σ.h n with
  | some (.cells b) => match b[j]? with
   | some (.d (.lit (.int .i64 x))) => splG f σ n j b x vs
   | some (.d (.sl .tu _)) => f { s := σ.s, g := [], h := (n, .cells (b.set j (.d (.sl A.ty [])))) :: σ.h }
   | some (.vr _ _) => splF f σ n j
   | _ => .ff
  | _ => .ff
def splV (q : Option RAnn) (f : St → VC) (σ : St) : VC := match q with
 | none => f σ
 | some A => splFs (splS A f) A.fz σ
def unkL : LV → LV
 | .kn v => .d (.lit (.int .i64 v))
 | x => x
def unkLs : List LV → List LV
 | [] => []
 | x :: r => unkL x :: unkLs r
def unkT : TV → TV
 | .one x => .one (unkL x)
 | .agg xs => .agg (unkLs xs)
def unkTs : List TV → List TV
 | [] => []
 | x :: r => unkT x :: unkTs r
def unkA : AV → AV
 | .t x => .t (unkT x)
 | .tup xs => .tup (unkTs xs)
 | x => x
def unkS : List (Nat × AV) → List (Nat × AV)
 | [] => []
 | (k, x) :: r => (k, unkA x) :: unkS r
def unkO : HO → HO
 | .cells b => .cells (unkLs b)
 | o => o
def unkH : List (Nat × HO) → List (Nat × HO)
 | [] => []
 | (k, x) :: r => (k, unkO x) :: unkH r
def unkSt (q : Option RAnn) (σ : St) : St := match q with
 | none => σ
 | some A => match A.sp with
  | none => σ
  | some _ => { s := unkS σ.s, g := [], h := unkH σ.h }
def vc (φ : Fn) (post : Ex → St → VC) : Nat → List It → St → VC
 | 0, _, _ => .ff
 | _ + 1, [], σ => post .nm σ
 | n + 1, .blk _ :: r, σ => vc φ post n r σ
 | _ + 1, .rn 0 _ :: _, _ => .ff
 | n + 1, .rn (m + 1) c :: r, σ => vc φ post n (.code c :: .rn m c :: r) σ
 | _ + 1, .lend A x hd :: _, σ => .ex fun x' => .conj (A.inv x') (.conj (A.m x' < A.m x) (VC.all (entS σ.s (hd x').s ++ entH σ.h (hd x').h)))
 | n + 1, .code c :: r, σ => match c with
  | .skip => vc φ post n r σ
  | .region id ops false => splV (φ.rann id σ) (fun σ0 => match asteps L Γ φ.N ops.toList ops.toList (frgt φ.rf φ.N (allocs ops.toList) σ0) with
   | some (cs, σ') => VC.ands cs (vc φ post n r (unkSt (φ.rann id σ) { s := keepS φ.keep σ'.s [], g := [], h := keepH σ'.h [] }))
   | none => .ff) σ
  | .region id ops true => splV (φ.rann id σ) (fun σ0 => match asteps L Γ φ.N ops.toList ops.toList (frgt φ.rf φ.N (allocs ops.toList) σ0) with
   | some (cs, σ') => if φ.draw ops.toList (frgt φ.rf φ.N (allocs ops.toList) σ0) then VC.obs cs (VC.fcts cs (vc φ post n r (unkSt (φ.rann id σ) { s := keepS φ.keep σ'.s [], g := [], h := keepH σ'.h [] }))) else .ff
   | none => .ff) σ
  | .seq a b => vc φ post n (.code a :: .code b :: r) σ
  | .cond c a b => match opT [] σ c with
   | some (.one (.d (.lit (.bool x)))) => .both (.imp (x = true) (vc φ post n (.code a :: r) σ)) (.imp (x = false) (vc φ post n (.code b :: r) σ))
   | _ => .ff
  | .block id b => vc φ post n (.code b :: .blk id :: r) σ
  | .exit id => match dropTo id r with
   | some r' => vc φ post n r' σ
   | none => post (.ex id) σ
  | .ret => post .rt σ
  | .rangeFunc g ps as bd => match φ.rf, firstRegion 20 (.seq as bd) with
   | true, some i => match φ.rann i σ, opT [] σ g with
    | some A, some (.one (.clo f [] ca)) => match Γ f with
     | some con => match con (.one (.yl (ry i)) :: ptrs ca) (look ((ry i, .ob A.sg [] A.go) :: selH (lentN σ.h ca) true σ.h)) 99000 with
      | some (cs, _, [(y, .ob sg' H go')]) => match sgSame sg' A.sg with
       | some ⟨e⟩ =>
        if (y == ry i && (!ptrOk σ.h (ry i) && (heapOk (selH (lentN σ.h ca) true σ.h) (selH (lentN σ.h ca) true σ.h) && ptrsOk (selH (lentN σ.h ca) true σ.h) ca))) &&
          (heapOk (selH (lentN σ.h ca) false σ.h) (selH (lentN σ.h ca) false σ.h) && (ps.size == A.sg.length && (distinct ps.toList && below φ.N ps.toList))) then
         VC.ands (cs.map .ob) (.conj ((e ▸ go' : Lp (tpl A.sg).T) = A.go) (.conj (A.inv []) (.both (VC.all (entH (selH (lentN σ.h ca) false σ.h) (A.h []))) (.both
          (.fa fun hist => .imp (A.inv hist) (if (namesIn (selH (lentN σ.h ca) false σ.h) (A.h hist) && heapOk (A.h hist ++ dropH (A.h hist) (selH (lentN σ.h ca) false σ.h)) (A.h hist)) && (namesIn (selH (lentN σ.h ca) false σ.h) (A.jh hist) && heapOk (A.jh hist ++ dropH (A.jh hist) (selH (lentN σ.h ca) false σ.h)) (A.jh hist)) then
           .fa fun x => .imp (liveX A.go hist x) (
            vc { φ with rf := false } (fun e1 σ1 => match e1 with
             | .nm => vc { φ with rf := false } (fun e2 σ2 => match e2 with
              | .nm => .conj (A.go (hist ++ [x]) = true) (.conj (A.inv (hist ++ [x])) (VC.all (entH σ2.h (A.h (hist ++ [x]) ++ dropH (A.h (hist ++ [x])) (selH (lentN σ.h ca) false σ.h)))))
              | e2 => match exFind A.js e2 with
               | some p => .conj (A.go (hist ++ [x]) = false) (.conj (A.inv (hist ++ [x])) (.conj (p (hist ++ [x])) (VC.all (entH σ2.h (A.jh (hist ++ [x]) ++ dropH (A.jh (hist ++ [x])) (selH (lentN σ.h ca) false σ.h))))))
               | none => .ff) n [.code bd] σ1
             | _ => .ff) n [.code as]
             { s := pSlots ps.toList A.sg x ++ dropS ps.toList (okS (selH (lentN σ.h ca) false σ.h) σ.s []), g := [], h := A.h hist ++ dropH (A.h hist) (selH (lentN σ.h ca) false σ.h) }) else .ff))
          (.imp (A.inv (e ▸ H)) (.both
           (.imp (live A.go (e ▸ H)) (vc φ post n r { s := σ.s, g := [], h := A.h (e ▸ H) ++ dropH (A.h (e ▸ H)) σ.h }))
           (A.js.foldr (fun q v => .both (.imp (¬ live A.go (e ▸ H)) (.imp (q.2 (e ▸ H)) (vc φ post n (.code q.1.code :: r) { s := σ.s, g := [], h := A.jh (e ▸ H) ++ dropH (A.jh (e ▸ H)) σ.h }))) v) .tt)))))))
        else .ff
       | none => .ff
      | _ => .ff
     | none => .ff
    | _, _ => .ff
   | _, _ => .ff
  | .loop b => match firstRegion 20 b with
   | some i => match φ.ann i σ with
    | some A => match A.un with
     | some m => vc φ post n (.rn m b :: r) σ
     | none => .both (.ex fun x => .conj (A.inv x) (VC.all (entS σ.s (A.s x) ++ entH σ.h (A.h x))))
      (.fa fun x => .imp (A.inv x) (if slotsOk (A.h x ++ dropH (A.h x) σ.h) (A.s x) && heapOk (A.h x ++ dropH (A.h x) σ.h) (A.h x) then
       vc φ post n (.code b :: .lend A x (fun x => { s := A.s x ++ dropS (dsts 20 b) σ.s, g := [], h := A.h x ++ dropH (A.h x) σ.h }) :: r)
        { s := A.s x ++ dropS (dsts 20 b) σ.s, g := [], h := A.h x ++ dropH (A.h x) σ.h } else .ff))
    | none => .ff
   | none => .ff
  | _ => .ff

def resOf (σ : St) : List ResultVar → Option (List TV)
 | [] => some []
 | .tmp t :: r => match look σ.s t, resOf σ r with
  | some (.t x), some xs => some (x :: xs)
  | _, _ => none
 | .cell a t :: r => match look σ.s a, L t, resOf σ r with
  | some (.t q), some y, some xs => match loadFrom σ y q with
   | some x => some (x :: xs)
   | none => none
  | _, _, _ => none
def resAV : List TV → AV
 | [x] => .t x
 | xs => .tup xs
def args0 : Nat → List TV → List (Nat × AV)
 | _, [] => []
 | i, x :: r => (i, .t x) :: args0 (i + 1) r
def postOf (rs : List ResultVar) (r : AV) (σ : St) : VC := match resOf L σ rs with
 | some xs => match frzA σ.h (resAV xs) with
  | (ps, (y, _)) => VC.all (ps ++ eqAV (coA r y) r)
 | none => .ff
def vcFn (φ : Fn) (rs : List ResultVar) (c : Code) (args : List TV) (r : AV) : VC :=
 vc L Γ φ (fun e σ => match e with | .ex _ => .ff | _ => postOf L rs r σ) 4000 [.code c] { s := args0 0 args, g := [], h := [] }
end Go.Sy
namespace Go.Sy
variable {P : Program} {L : Nat → Option Lay} {Γ : Nat → Option Con} {F : Fence} {n : Nat}

theorem VC.all_holds : ∀ {ps : List Prop}, (VC.all ps).holds → ∀ p ∈ ps, p
 | [], _, p, hp => by cases hp
 | [q], h, p, hp => by rw [List.mem_singleton.1 hp]; exact h
 | q :: r :: s, h, p, hp => by
  rcases List.mem_cons.1 hp with e | hp
  ·rw [e]; exact h.1
  ·exact VC.all_holds h.2 p hp

theorem eqDV_sound {x y : DV} (h : ∀ p ∈ eqDV x y, p) : x = y := by
 unfold eqDV at h
 split at h
 ·split at h
  ·rename_i hk
   subst hk
   have := h _ (List.mem_singleton.2 rfl)
   rw [this]
  ·exact (h _ (List.mem_singleton.2 rfl)).elim
 ·have := h _ (List.mem_singleton.2 rfl)
  rw [this]
 ·split at h
  ·rename_i hh _
   subst hh
   have := h _ (List.mem_singleton.2 rfl)
   rw [← this]
  ·exact (h _ (List.mem_singleton.2 rfl)).elim
 ·exact h _ (List.mem_singleton.2 rfl)
theorem eqLV_sound {x y : LV} (h : ∀ p ∈ eqLV x y, p) : x = y := by
 unfold eqLV at h
 split at h
 ·rw [eqDV_sound h]
 ·split at h
  ·rename_i hk
   rw [hk.1, hk.2]
  ·exact (h _ (List.mem_singleton.2 rfl)).elim
 ·split at h
  ·rename_i hk
   rw [hk, eqDV_sound h]
  ·exact (h _ (List.mem_singleton.2 rfl)).elim
 ·split at h
  ·rename_i hk
   rw [hk]
  ·exact (h _ (List.mem_singleton.2 rfl)).elim
 ·split at h
  ·rename_i hk
   rw [hk]
  ·exact (h _ (List.mem_singleton.2 rfl)).elim
 ·split at h
  ·rename_i hk
   have := h _ (List.mem_singleton.2 rfl)
   rw [hk, this]
  ·exact (h _ (List.mem_singleton.2 rfl)).elim
 ·exact h _ (List.mem_singleton.2 rfl)
theorem eqLVs_sound : ∀ {x y : List LV}, (∀ p ∈ eqLVs x y, p) → x = y
 | [], [], _ => rfl
 | x :: r, y :: q, h => by
  simp only [eqLVs, List.mem_append] at h
  rw [eqLV_sound fun p hp => h p (.inl hp), eqLVs_sound fun p hp => h p (.inr hp)]
 | [], _ :: _, h => (h _ (List.mem_singleton.2 rfl)).elim
 | _ :: _, [], h => (h _ (List.mem_singleton.2 rfl)).elim
theorem eqTV_sound {x y : TV} (h : ∀ p ∈ eqTV x y, p) : x = y := by
 unfold eqTV at h
 split at h
 ·rw [eqLV_sound h]
 ·rw [eqLVs_sound h]
 ·exact (h _ (List.mem_singleton.2 rfl)).elim
theorem eqTVs_sound : ∀ {x y : List TV}, (∀ p ∈ eqTVs x y, p) → x = y
 | [], [], _ => rfl
 | x :: r, y :: q, h => by
  simp only [eqTVs, List.mem_append] at h
  rw [eqTV_sound fun p hp => h p (.inl hp), eqTVs_sound fun p hp => h p (.inr hp)]
 | [], _ :: _, h => (h _ (List.mem_singleton.2 rfl)).elim
 | _ :: _, [], h => (h _ (List.mem_singleton.2 rfl)).elim
theorem eqAV_sound {x y : AV} (h : ∀ p ∈ eqAV x y, p) : x = y := by
 unfold eqAV at h
 split at h
 ·rw [eqTV_sound h]
 ·rw [eqTVs_sound h]
 ·exact (h _ (List.mem_singleton.2 rfl)).elim
theorem eqFM_sound : ∀ {x y : List (Int × TV)}, (∀ p ∈ eqFM x y, p) → x = y
 | [], [], _ => rfl
 | (i, x) :: r, (j, y) :: q, h => by
  simp only [eqFM, List.mem_cons, List.mem_append] at h
  rw [h _ (.inl rfl), eqTV_sound fun p hp => h p (.inr (.inl hp)), eqFM_sound fun p hp => h p (.inr (.inr hp))]
 | [], _ :: _, h => (h _ (List.mem_singleton.2 rfl)).elim
 | _ :: _, [], h => (h _ (List.mem_singleton.2 rfl)).elim
theorem eqHO_sound {x y : HO} (h : ∀ p ∈ eqHO x y, p) : x = y := by
 unfold eqHO at h
 split at h
 ·rw [eqLVs_sound h]
 ·split at h
  ·rename_i hk
   have := h _ (List.mem_singleton.2 rfl)
   rw [hk.1, hk.2, this]
  ·exact (h _ (List.mem_singleton.2 rfl)).elim
 ·split at h
  ·rename_i e _
   subst e
   have h1 := h _ (List.mem_cons_self ..)
   have h2 := h _ (List.mem_cons_of_mem _ (List.mem_singleton.2 rfl))
   rw [← h1, ← h2]
  ·exact (h _ (List.mem_singleton.2 rfl)).elim
 ·split at h
  ·rename_i e1 e2 _ _
   subst e1 e2
   have := h _ (List.mem_singleton.2 rfl)
   rw [← this]
  ·exact (h _ (List.mem_singleton.2 rfl)).elim
 ·split at h
  ·rename_i he
   split at h
   ·rename_i e1 _
    subst e1
    have := h _ (List.mem_singleton.2 rfl)
    rw [← this, he]
   ·exact (h _ (List.mem_singleton.2 rfl)).elim
  ·exact (h _ (List.mem_singleton.2 rfl)).elim
 ·split at h
  ·rename_i he
   split at h
   ·rename_i e1 _
    subst e1
    have := h _ (List.mem_singleton.2 rfl)
    rw [← this, he]
   ·exact (h _ (List.mem_singleton.2 rfl)).elim
  ·exact (h _ (List.mem_singleton.2 rfl)).elim
 ·have h1 := h _ (List.mem_cons_self ..)
  have h2 := h _ (List.mem_cons_of_mem _ (List.mem_singleton.2 rfl))
  rw [h1, h2]
 ·rw [h _ (List.mem_singleton.2 rfl)]
 ·rw [eqFM_sound h]
 ·exact h _ (List.mem_singleton.2 rfl)

section
variable {w : World} {M : CM} {β : Bt} {D : Nat → Prop}
theorem coD_sound {c x : DV} {v : Value} (h : VD w M x v) : VD w M (coD c x) v := by
 unfold coD
 split
 ·cases h with
  | nil => exact .nil
  | sl _ h0 => exact absurd h0 (Nat.lt_irrefl _)
 ·exact h
theorem coL_sound {c x : LV} {v : Value} (h : VL w M β D x v) : VL w M β D (coL c x) v := by
 unfold coL
 split
 ·cases h with | own h _ => exact .d (coD_sound h)
 ·cases h with | d h => exact .d (coD_sound h)
 ·exact h
theorem coLs_sound : ∀ {cs xs : List LV} {vs : List Value}, All2 (VL w M β D) xs vs → All2 (VL w M β D) (coLs cs xs) vs
 | _ :: _, _ :: _, _, .cons h r => .cons (coL_sound h) (coLs_sound r)
 | [], _, _, h => h
 | _ :: _, [], _, h => h
theorem coT_sound {c x : TV} {v : Value} (h : VT w M β D x v) : VT w M β D (coT c x) v := by
 unfold coT
 split
 ·exact coL_sound h
 ·obtain ⟨arr, h1, h2⟩ := h; exact ⟨arr, h1, coLs_sound h2⟩
 ·exact h
theorem coTs_sound : ∀ {cs xs : List TV} {vs : List Value}, All2 (VT w M β D) xs vs → All2 (VT w M β D) (coTs cs xs) vs
 | _ :: _, _ :: _, _, .cons h r => .cons (coT_sound h) (coTs_sound r)
 | [], _, _, h => h
 | _ :: _, [], _, h => h
theorem coA_sound {c x : AV} {v : Value} (h : VA w M β D x v) : VA w M β D (coA c x) v := by
 unfold coA
 split
 ·exact coT_sound h
 ·obtain ⟨arr, h1, h2⟩ := h; exact ⟨arr, h1, coTs_sound h2⟩
 ·exact h
theorem coA_none (u : AV) : coA (.tup []) u = u := by
 cases u with
 | t => rfl
 | tup xs => cases xs <;> rfl
 | nx => rfl
end

theorem look_mem {β : Type _} : ∀ {l : List (Nat × β)} {k : Nat} {v : β}, look l k = some v → (k, v) ∈ l
 | (a, x) :: r, k, v, h => by
  rw [look_cons] at h
  split at h
  ·rename_i e; subst e; injection h with h; subst h; exact List.mem_cons_self ..
  ·exact List.mem_cons_of_mem _ (look_mem h)
theorem look_append {β : Type _} : ∀ (l m : List (Nat × β)) (k : Nat), look (l ++ m) k = match look l k with | some y => some y | none => look m k
 | [], m, k => by simp [look]
 | (a, x) :: l, m, k => by
  rw [List.cons_append, look_cons, look_cons]
  split
  ·rfl
  ·exact look_append l m k

theorem entS_sound : ∀ {l : List (Nat × AV)} {σ : List (Nat × AV)}, (∀ p ∈ entS σ l, p) → ∀ k v, (k, v) ∈ l → ∃ c u, look σ k = some u ∧ v = coA c u
 | (a, x) :: r, σ, h, k, v, hm => by
  simp only [entS, List.mem_append] at h
  rcases List.mem_cons.1 hm with e | hm
  ·injection e with e1 e2
   subst e1 e2
   cases hl : look σ k with
   | none => rw [hl] at h; exact (h _ (.inl (List.mem_singleton.2 rfl))).elim
   | some u => rw [hl] at h; exact ⟨v, u, rfl, (eqAV_sound fun p hp => h p (.inl hp)).symm⟩
  ·exact entS_sound (fun p hp => h p (.inr hp)) k v hm
theorem entH_sound : ∀ {l : List (Nat × HO)} {σ : List (Nat × HO)}, (∀ p ∈ entH σ l, p) → ∀ k v, (k, v) ∈ l → look σ k = some v
 | (a, x) :: r, σ, h, k, v, hm => by
  simp only [entH, List.mem_append] at h
  rcases List.mem_cons.1 hm with e | hm
  ·injection e with e1 e2
   subst e1 e2
   cases hl : look σ k with
   | none => rw [hl] at h; exact (h _ (.inl (List.mem_singleton.2 rfl))).elim
   | some u => rw [hl] at h; rw [eqHO_sound fun p hp => h p (.inl hp)]
  ·exact entH_sound (fun p hp => h p (.inr hp)) k v hm

theorem mem_iff : ∀ {l : List Nat} {k : Nat}, mem l k = true ↔ k ∈ l
 | [], _ => by simp [mem]
 | a :: r, k => by
  simp only [mem, Bool.or_eq_true, beq_iff_eq, List.mem_cons]
  rw [mem_iff (l := r)]
  exact ⟨fun h => h.imp (fun e => e.symm) id, fun h => h.imp (fun e => e.symm) id⟩

theorem keepS_sub {keep : List Nat} : ∀ {l : List (Nat × AV)} {seen : List Nat} {k : Nat} {v : AV}, look (keepS keep l seen) k = some v → k ∉ seen ∧ look l k = some v
 | [], _, _, _, h => by cases h
 | (a, x) :: r, seen, k, v, h => by
  simp only [keepS] at h
  split at h
  ·rename_i hc
   simp only [Bool.and_eq_true, Bool.not_eq_true'] at hc
   rw [look_cons] at h
   split at h
   ·rename_i e
    subst e
    exact ⟨fun hm => by rw [mem_iff.2 hm] at hc; exact absurd hc.2 (by simp), by rw [look_cons, if_pos rfl]; exact h⟩
   ·rename_i e
    obtain ⟨h1, h2⟩ := keepS_sub h
    simp only [List.mem_cons, not_or] at h1
    exact ⟨h1.2, by rw [look_cons, if_neg e]; exact h2⟩
  ·obtain ⟨h1, h2⟩ := keepS_sub h
   simp only [List.mem_cons, not_or] at h1
   exact ⟨h1.2, by rw [look_cons, if_neg (fun e => h1.1 e.symm)]; exact h2⟩
theorem keepH_eq : ∀ {l : List (Nat × HO)} {seen : List Nat} {k : Nat}, k ∉ seen → look (keepH l seen) k = look l k
 | [], _, _, _ => rfl
 | (a, x) :: r, seen, k, h => by
  simp only [keepH]
  split
  ·rw [look_cons, look_cons]
   split
   ·rfl
   ·rename_i e; exact keepH_eq (by simp only [List.mem_cons, not_or]; exact ⟨fun h => e h.symm, h⟩)
  ·rename_i hc
   have hm : a ∈ seen := mem_iff.1 (by simpa using hc)
   rw [look_cons, if_neg (fun e => h (by rw [← e]; exact hm))]
   exact keepH_eq h
theorem keepH_nil (l : List (Nat × HO)) : look (keepH l []) = look l := by
 funext k; exact keepH_eq (by simp)

/-! pointers lead to blocks of the state -/
section
variable {w : World} {M M' : CM} {β : Bt} {h h' : List (Nat × HO)}
theorem ptrOk_iff {k : Nat} : ptrOk h k = true ↔ dm (look h) k := by
 unfold ptrOk dm
 cases look h k <;> simp
theorem ptrsOk_of {ps : List (Nat × Nat)} {vs : List Value} (hv : All2 (PV β (dm (look h))) ps vs) : ptrsOk h ps = true := by
 induction hv with
 | nil => rfl
 | @cons q v _ _ h1 _ ih =>
  obtain ⟨k, hd, _⟩ := h1
  simp [ptrsOk, ih, ptrOk_iff.2 hd]
theorem lvOk_of {x : LV} {v : Value} (hv : VL w M β (dm (look h)) x v) : lvOk h x = true := by
 cases hv with
 | d => rfl
 | ptr h1 => obtain ⟨k, hd, _⟩ := h1; exact ptrOk_iff.2 hd
 | dptr => rfl
 | clo h1 h2 => simp [lvOk, ptrsOk_of h1, ptrsOk_of h2]
 | own _ h => exact ptrOk_iff.2 h.1
 | mp h => exact ptrOk_iff.2 h
 | yl h => exact ptrOk_iff.2 h
 | vr _ _ h => exact ptrOk_iff.2 h.1
 | vp h => exact ptrOk_iff.2 h.1
 | nn => rfl
 | kn => rfl
theorem lvsOk_of {xs : List LV} {vs : List Value} (hv : All2 (VL w M β (dm (look h))) xs vs) : lvsOk h xs = true := by
 induction hv with
 | nil => rfl
 | cons h1 _ ih => simp [lvsOk, ih, lvOk_of h1]
theorem tvOk_of {x : TV} {v : Value} (hv : VT w M β (dm (look h)) x v) : tvOk h x = true := by
 cases x with
 | one x => exact lvOk_of hv
 | agg xs => obtain ⟨arr, _, hv⟩ := hv; exact lvsOk_of hv
theorem tvsOk_of {xs : List TV} {vs : List Value} (hv : All2 (VT w M β (dm (look h))) xs vs) : tvsOk h xs = true := by
 induction hv with
 | nil => rfl
 | cons h1 _ ih => simp [tvsOk, ih, tvOk_of h1]
theorem avOk_of {x : AV} {v : Value} (hv : VA w M β (dm (look h)) x v) : avOk h x = true := by
 cases x with
 | t x => exact tvOk_of hv
 | tup xs => obtain ⟨arr, _, hv⟩ := hv; exact tvsOk_of hv
 | nx => rfl

theorem PV.re {q : Nat × Nat} {v : Value} {D : Nat → Prop} (hv : PV β D q v) (ho : ptrOk h' q.1 = true) : PV β (dm (look h')) q v := by
 obtain ⟨k, _, h1, h2⟩ := hv
 exact ⟨k, ptrOk_iff.1 ho, h1, h2⟩
theorem PVs.re {ps : List (Nat × Nat)} {vs : List Value} {D : Nat → Prop} (hv : All2 (PV β D) ps vs) (ho : ptrsOk h' ps = true) : All2 (PV β (dm (look h'))) ps vs := by
 induction hv with
 | nil => exact .nil
 | cons h1 _ ih =>
  simp only [ptrsOk, Bool.and_eq_true] at ho
  exact .cons (h1.re ho.1) (ih ho.2)
theorem VL.re {x : LV} {v : Value} {D : Nat → Prop} (e : Evo M M' w w) (hv : VL w M β D x v) (ho : lvOk h' x = true) : VL w M' β (dm (look h')) x v := by
 cases hv with
 | d h => exact .d (h.evo e)
 | ptr h => exact .ptr (h.re ho)
 | dptr vs hb hM hc hv => exact .dptr vs hb (fun j hj => e.mt _ _ hb (hM j hj)) hc (fun j hj => (hv j hj).evo e)
 | clo h1 h2 =>
  simp only [lvOk, Bool.and_eq_true] at ho
  exact .clo (PVs.re h1 ho.1) (PVs.re h2 ho.2)
 | own h h1 => exact .own (h.evo e) ⟨ptrOk_iff.1 ho, h1.2⟩
 | mp h1 h2 h3 => exact .mp (ptrOk_iff.1 ho) h2 h3
 | yl h1 h2 h3 => exact .yl (ptrOk_iff.1 ho) h2 h3
 | vr hs hk h => exact .vr hs hk (h.to (ptrOk_iff.1 ho) rfl)
 | vp h => exact .vp (h.to (ptrOk_iff.1 ho) rfl)
 | nn h hs => exact .nn (h.evo e) hs
 | kn => exact .kn
theorem VLs.re {xs : List LV} {vs : List Value} {D : Nat → Prop} (e : Evo M M' w w) (hv : All2 (VL w M β D) xs vs) (ho : lvsOk h' xs = true) : All2 (VL w M' β (dm (look h'))) xs vs := by
 induction hv with
 | nil => exact .nil
 | cons h1 _ ih =>
  simp only [lvsOk, Bool.and_eq_true] at ho
  exact .cons (h1.re e ho.1) (ih ho.2)
theorem VT.re {x : TV} {v : Value} {D : Nat → Prop} (e : Evo M M' w w) (hv : VT w M β D x v) (ho : tvOk h' x = true) : VT w M' β (dm (look h')) x v := by
 cases x with
 | one x => exact VL.re e hv ho
 | agg xs => obtain ⟨arr, rfl, hv⟩ := hv; exact ⟨arr, rfl, VLs.re e hv ho⟩
theorem VTs.re {xs : List TV} {vs : List Value} {D : Nat → Prop} (e : Evo M M' w w) (hv : All2 (VT w M β D) xs vs) (ho : tvsOk h' xs = true) : All2 (VT w M' β (dm (look h'))) xs vs := by
 induction hv with
 | nil => exact .nil
 | cons h1 _ ih =>
  simp only [tvsOk, Bool.and_eq_true] at ho
  exact .cons (VT.re e h1 ho.1) (ih ho.2)
theorem VA.re {x : AV} {v : Value} {D : Nat → Prop} (e : Evo M M' w w) (hv : VA w M β D x v) (ho : avOk h' x = true) : VA w M' β (dm (look h')) x v := by
 cases x with
 | t x => exact VT.re e hv ho
 | tup xs => obtain ⟨arr, rfl, hv⟩ := hv; exact ⟨arr, rfl, VTs.re e hv ho⟩
 | nx => exact hv
end

theorem lvsOk_app {h : List (Nat × HO)} : ∀ {xs ys : List LV}, lvsOk h (xs ++ ys) = true ↔ lvsOk h xs = true ∧ lvsOk h ys = true
 | [], ys => by simp [lvsOk]
 | x :: xs, ys => by simp only [List.cons_append, lvsOk, Bool.and_eq_true, lvsOk_app, and_assoc]
theorem tvOk_cells {h : List (Nat × HO)} (x : TV) : tvOk h x = lvsOk h x.cells := by
 cases x with
 | one x => simp [tvOk, TV.cells, lvsOk]
 | agg xs => rfl
theorem fm_ok {h : List (Nat × HO)} : ∀ {l : List (Int × TV)}, lvsOk h (HO.fm l).body = true → ∀ p ∈ l, tvOk h p.2 = true
 | q :: l, ho, p, hp => by
  have e : (HO.fm (q :: l)).body = q.2.cells ++ (HO.fm l).body := rfl
  rw [e, lvsOk_app] at ho
  rcases List.mem_cons.1 hp with rfl | hp
  ·rw [tvOk_cells]; exact ho.1
  ·exact fm_ok ho.2 p hp
theorem fm_ok_of {h : List (Nat × HO)} : ∀ {l : List (Int × TV)}, (∀ p ∈ l, tvOk h p.2 = true) → lvsOk h (HO.fm l).body = true
 | [], _ => rfl
 | q :: l, ho => by
  have e : (HO.fm (q :: l)).body = q.2.cells ++ (HO.fm l).body := rfl
  rw [e, lvsOk_app, ← tvOk_cells]
  exact ⟨ho q List.mem_cons_self, fm_ok_of fun p hp => ho p (List.mem_cons_of_mem _ hp)⟩
theorem All2.mono_mem {α β : Type} {R S : α → β → Prop} : ∀ {l : List α} {m : List β}, All2 R l m → (∀ a b, a ∈ l → R a b → S a b) → All2 S l m
 | _, _, .nil, _ => .nil
 | _, _, .cons h1 h2, f => .cons (f _ _ List.mem_cons_self h1) (h2.mono_mem fun a b ha => f a b (List.mem_cons_of_mem _ ha))
theorem All2.left {α β : Type} {R : α → β → Prop} : ∀ {l : List α} {m : List β}, All2 R l m → ∀ a ∈ l, ∃ b, R a b
 | _, _, .cons h1 h2, a, ha => by
  rcases List.mem_cons.1 ha with rfl | ha
  ·exact ⟨_, h1⟩
  ·exact h2.left a ha
section
variable {X : Cx} {β : Bt} {σ : St} {a : Act} {w : World}

theorem HOR.re {M M' : CM} {n : Nat} {o : HO} {D : Nat → Prop} {h' : List (Nat × HO)} (h : HOR w M β D n o) (hM : ∀ k off, M' k off → M k off) (ok : lvsOk h' o.body = true)
  (hdis : o.isOb = true → ∀ q off, M q off → q < w.heap.size ∧ ∀ off', ¬ β.ym n q off → ¬ β.ym n q off') : HOR w M' β (dm (look h')) n o := by
 have e : Evo M M' w w := Evo.less hM
 cases o with
 | cells b =>
  obtain ⟨k, arr, t, e0, e1, e2, e3⟩ := h
  exact ⟨k, arr, t, e0, e1, e2, VLs.re e e3 ok⟩
 | gr t sz len => exact h
 | mp κ ν l =>
  obtain ⟨k, es, clock, h0, h1, h2, h3⟩ := h
  exact ⟨k, es, clock, h0, h1, h2, h3.mono fun _ _ _ h => ⟨h.1.evo e, h.2.evo e⟩⟩
 | fm l =>
  obtain ⟨k, es, clock, h0, h1, h2, h3⟩ := h
  exact ⟨k, es, clock, h0, h1, h2, h3.mono_mem fun p _ hp h => ⟨h.1.evo e, VT.re e h.2 (fm_ok ok p hp)⟩⟩
 | it q p => exact h
 | dead n => exact h
 | vh τ t l =>
  obtain ⟨k, cap, arr, h0, h1, h2, h3, h4, h5, h6, h7, h8⟩ := h
  exact ⟨k, cap, arr, h0, h1, h2, h3, h4, h5, fun i j u hi hj hne hu => (h6 i j u hi hj hne hu).evo e, h7, fun u hu => by cases VLs.re e (.cons (h8 u hu) .nil) ok with | cons h1 _ => exact h1⟩
 | vec τ t l =>
  rcases h with h | ⟨k, cap, arr, h0, h1, h2, h3, h4, h5, h6⟩
  ·exact .inl h
  ·exact .inr ⟨k, cap, arr, h0, h1, h2, h3, h4, h5, fun i j u hi hj hu => (h6 i j u hi hj hu).evo e⟩
 | frz τ t l =>
  rcases h with h | ⟨k, cap, arr, h0, h1, h2, h3, h4, h5, h6⟩
  ·exact .inl h
  ·exact .inr ⟨k, cap, arr, h0, h1, h2, h3, h4, h5, fun i j u hi hj hu => (h6 i j u hi hj hu).evo e⟩
 | ob sg hist go =>
  obtain ⟨h0, k, h1, h2, h3⟩ := h
  exact ⟨h0, k, h1, h2, h2.stay _ _ _ _ _ _ h3 ⟨Nat.le_refl _, fun _ _ _ => rfl, fun _ _ _ => rfl, rfl, rfl, rfl⟩ (fun q off hq => .inl ⟨hM q off hq.1, hq.2⟩) (fun q off off' hq => (hdis rfl q off (hM q off hq.1)).2 off' hq.2)⟩

theorem VL.any {w' : World} {M M' : CM} {β' : Bt} {D D' : Nat → Prop} {x : LV} {v : Value} (e : Evo M M' w w') (hv : VL w M β D x v) (ho : lvOk [] x = true) : VL w' M' β' D' x v := by
 cases hv with
 | d h => exact .d (h.evo e)
 | ptr h => cases ho
 | dptr vs hb hM hc hv =>
  refine .dptr vs (Nat.lt_of_lt_of_le hb e.size) (fun j hj => e.mt _ _ hb (hM j hj)) (fun j hj => ?_) (fun j hj => (hv j hj).evo e)
  rw [e.cell _ (by rw [add_block]; exact hb) (by rw [add_block, add_off]; exact hM j hj)]
  exact hc j hj
 | @clo f fi ca vf vc h1 h2 =>
  simp only [lvOk, Bool.and_eq_true] at ho
  cases h1 with
  | nil => cases h2 with
   | nil => exact VL.clo (vf := []) (vc := []) .nil .nil
   | cons => exact absurd ho.2 (by simp [ptrsOk, ptrOk, look])
  | cons => exact absurd ho.1 (by simp [ptrsOk, ptrOk, look])
 | own => cases ho
 | mp => cases ho
 | yl => cases ho
 | vr => cases ho
 | vp => cases ho
 | nn h hs => exact .nn (h.evo e) hs
 | kn => exact .kn
theorem VLs.any {w' : World} {M M' : CM} {β' : Bt} {D D' : Nat → Prop} {xs : List LV} {vs : List Value} (e : Evo M M' w w') (hv : All2 (VL w M β D) xs vs) (ho : lvsOk [] xs = true) : All2 (VL w' M' β' D') xs vs := by
 induction hv with
 | nil => exact .nil
 | cons h1 _ ih =>
  simp only [lvsOk, Bool.and_eq_true] at ho
  exact .cons (h1.any e ho.1) (ih ho.2)
theorem VT.any {w' : World} {M M' : CM} {β' : Bt} {D D' : Nat → Prop} {x : TV} {v : Value} (e : Evo M M' w w') (hv : VT w M β D x v) (ho : tvOk [] x = true) : VT w' M' β' D' x v := by
 cases x with
 | one x => exact VL.any e hv ho
 | agg xs => obtain ⟨arr, rfl, hv⟩ := hv; exact ⟨arr, rfl, VLs.any e hv ho⟩
theorem VTs.any {w' : World} {M M' : CM} {β' : Bt} {D D' : Nat → Prop} {xs : List TV} {vs : List Value} (e : Evo M M' w w') (hv : All2 (VT w M β D) xs vs) (ho : tvsOk [] xs = true) : All2 (VT w' M' β' D') xs vs := by
 induction hv with
 | nil => exact .nil
 | cons h1 _ ih =>
  simp only [tvsOk, Bool.and_eq_true] at ho
  exact .cons (VT.any e h1 ho.1) (ih ho.2)
theorem VA.any {w' : World} {M M' : CM} {β' : Bt} {D D' : Nat → Prop} {x : AV} {v : Value} (e : Evo M M' w w') (hv : VA w M β D x v) (ho : avOk [] x = true) : VA w' M' β' D' x v := by
 cases x with
 | t x => exact VT.any e hv ho
 | tup xs => obtain ⟨arr, rfl, hv⟩ := hv; exact ⟨arr, rfl, VTs.any e hv ho⟩
 | nx => exact hv

theorem Rel.weaken (R : Rel X β σ a w) {s' : List (Nat × AV)} {h' : List (Nat × HO)} (hs : ∀ k v, look s' k = some v → ∃ c u, look σ.s k = some u ∧ v = coA c u) (hh : ∀ k o, look h' k = some o → look σ.h k = some o)
  (hb : ∀ n, X.D0 n → look h' n ≠ none) (ok1 : ∀ k v, look s' k = some v → avOk h' v = true) (ok2 : ∀ k o, look h' k = some o → lvsOk h' o.body = true) : Rel X β { s := s', g := [], h := h' } a w := by
 have hd : ∀ n, look h' n ≠ none → look σ.h n ≠ none := by
  intro n hn
  cases ho : look h' n with
  | none => exact absurd ho hn
  | some o => rw [hh n o ho]; simp
 have hM : ∀ k off, Mt β (look h') k off → Mt β (look σ.h) k off := fun k off hm' => by
  rcases hm' with h | ⟨n, o, h1, h2⟩
  ·exact .inl h
  ·exact .inr ⟨n, o, hh n o h1, h2⟩
 have ev : Evo (Mt β (look σ.h)) (Mt β (look h')) w w := Evo.less hM
 refine ⟨R.tn, R.df, R.fr, fun n k hn hk => R.own n k (hd n hn) hk, ⟨hb, R.be.b, R.be.o, R.be.pr⟩, R.bm, ⟨R.hr.m0, fun n k hn hk => R.hr.lt n k (hd n hn) hk, fun n k off hn hk => R.hr.fresh n k off (hd n hn) hk,
  fun n m k hn hm => R.hr.inj n m k (hd n hn) (hd m hm), fun n o ho => R.hr.ye n o (hh n o ho), fun n o ho => (R.hr.blk n o (hh n o ho)).re hM (ok2 n o ho) fun hob => dis_of R.hr.m0 R.hr.lt R.hr.fresh R.hr.inj (hh n o ho) hob, R.hr.gl.evo ev⟩, R.ev.trans ev, fun t v h => ?_, fun t g b x h => by cases h⟩
 obtain ⟨c, u, h1, rfl⟩ := hs t v h
 exact ⟨(R.sl t u h1).1, VA.re ev (coA_sound (R.sl t u h1).2) (ok1 t _ h)⟩

theorem Rel.ok1 (R : Rel X β σ a w) {k : Nat} {v : AV} (h : look σ.s k = some v) : avOk σ.h v = true := avOk_of (R.sl k v h).2
theorem Rel.ok2 (R : Rel X β σ a w) {k : Nat} {o : HO} (h : look σ.h k = some o) : lvsOk σ.h o.body = true := by
 have hb := R.hr.blk k _ h
 cases o with
 | cells b => obtain ⟨_, _, _, _, _, _, h3⟩ := hb; exact lvsOk_of h3
 | fm l =>
  obtain ⟨_, _, _, _, _, _, h3⟩ := hb
  exact fm_ok_of fun p hp => by obtain ⟨_, _, h⟩ := h3.left p hp; exact tvOk_of h
 | vh τ t l j off =>
  obtain ⟨k, cap, arr, h0, h1, h2, h3, h4, h5, h6, h7, h8⟩ := hb
  obtain ⟨u, hu⟩ : ∃ u, arr[j * τ.size + off]? = some u := by
   have h9 : (j + 1) * τ.size ≤ l.length * τ.size := Nat.mul_le_mul_right _ h7.1
   have h10 : l.length * τ.size ≤ cap * τ.size := Nat.mul_le_mul_right _ h3
   rw [Nat.add_mul, Nat.one_mul] at h9
   exact ⟨_, Array.getElem?_eq_getElem (by rw [h5]; omega)⟩
  exact lvsOk_of (.cons (h8 u hu) .nil)
 | _ => rfl

theorem ok_congr {h h' : List (Nat × HO)} (e : ∀ n, look h n ≠ none → look h' n ≠ none) : (∀ n, ptrOk h n = true → ptrOk h' n = true) := fun n hn => ptrOk_iff.2 (e n (ptrOk_iff.1 hn))
theorem ptrsOk_mono {h h' : List (Nat × HO)} (e : ∀ n, ptrOk h n = true → ptrOk h' n = true) : ∀ {ps : List (Nat × Nat)}, ptrsOk h ps = true → ptrsOk h' ps = true
 | [], _ => rfl
 | q :: r, hp => by simp only [ptrsOk, Bool.and_eq_true] at hp ⊢; exact ⟨e _ hp.1, ptrsOk_mono e hp.2⟩
theorem lvOk_mono {h h' : List (Nat × HO)} (e : ∀ n, ptrOk h n = true → ptrOk h' n = true) {x : LV} (hx : lvOk h x = true) : lvOk h' x = true := by
 cases x with
 | d => rfl
 | ptr n o => exact e n hx
 | dptr => rfl
 | clo f a b => simp only [lvOk, Bool.and_eq_true] at hx ⊢; exact ⟨ptrsOk_mono e hx.1, ptrsOk_mono e hx.2⟩
 | own n _ => exact e n hx
 | mp n => exact e n hx
 | yl n => exact e n hx
 | vr n _ => exact e n hx
 | vp n _ _ _ _ _ => exact e n hx
 | nn => rfl
 | kn => rfl
theorem lvsOk_mono {h h' : List (Nat × HO)} (e : ∀ n, ptrOk h n = true → ptrOk h' n = true) : ∀ {xs : List LV}, lvsOk h xs = true → lvsOk h' xs = true
 | [], _ => rfl
 | q :: r, hp => by simp only [lvsOk, Bool.and_eq_true] at hp ⊢; exact ⟨lvOk_mono e hp.1, lvsOk_mono e hp.2⟩
theorem tvOk_mono {h h' : List (Nat × HO)} (e : ∀ n, ptrOk h n = true → ptrOk h' n = true) {x : TV} (hx : tvOk h x = true) : tvOk h' x = true := by
 cases x with
 | one x => exact lvOk_mono e hx
 | agg xs => exact lvsOk_mono e hx
theorem tvsOk_mono {h h' : List (Nat × HO)} (e : ∀ n, ptrOk h n = true → ptrOk h' n = true) : ∀ {xs : List TV}, tvsOk h xs = true → tvsOk h' xs = true
 | [], _ => rfl
 | q :: r, hp => by simp only [tvsOk, Bool.and_eq_true] at hp ⊢; exact ⟨tvOk_mono e hp.1, tvsOk_mono e hp.2⟩
theorem avOk_mono {h h' : List (Nat × HO)} (e : ∀ n, ptrOk h n = true → ptrOk h' n = true) {x : AV} (hx : avOk h x = true) : avOk h' x = true := by
 cases x with
 | t x => exact tvOk_mono e hx
 | tup xs => exact tvsOk_mono e hx
 | nx => rfl

theorem Rel.clean (R : Rel X β σ a w) (keep : List Nat) : Rel X β { s := keepS keep σ.s [], g := [], h := keepH σ.h [] } a w := by
 have hk : ∀ n, ptrOk σ.h n = true → ptrOk (keepH σ.h []) n = true := fun n hn => by rw [ptrOk_iff] at hn ⊢; rw [keepH_nil]; exact hn
 refine R.weaken (fun k v h => ⟨.tup [], v, (keepS_sub h).2, (coA_none v).symm⟩) (fun k o h => by rw [keepH_nil] at h; exact h) (fun m hm => by rw [keepH_nil]; exact R.be.d m hm) (fun k v h => avOk_mono hk (R.ok1 (keepS_sub h).2)) (fun k b h => lvsOk_mono hk (R.ok2 (by rw [keepH_nil] at h; exact h)))

theorem slotsOk_sound {h : List (Nat × HO)} : ∀ {l : List (Nat × AV)} {k : Nat} {v : AV}, slotsOk h l = true → (k, v) ∈ l → avOk h v = true
 | (a, x) :: r, k, v, hs, hm => by
  simp only [slotsOk, Bool.and_eq_true] at hs
  rcases List.mem_cons.1 hm with e | hm
  ·injection e with e1 e2; subst e2; exact hs.1
  ·exact slotsOk_sound hs.2 hm
theorem heapOk_sound {h : List (Nat × HO)} : ∀ {l : List (Nat × HO)} {k : Nat} {o : HO}, heapOk h l = true → (k, o) ∈ l → lvsOk h o.body = true
 | (a, c) :: r, k, o, hs, hm => by
  simp only [heapOk, Bool.and_eq_true] at hs
  rcases List.mem_cons.1 hm with e | hm
  ·injection e with e1 e2; subst e2; exact hs.1
  ·exact heapOk_sound hs.2 hm

theorem dropS_sub {ds : List Nat} : ∀ {l : List (Nat × AV)} {k : Nat} {v : AV}, look (dropS ds l) k = some v → look l k = some v
 | [], _, _, h => by cases h
 | (a, x) :: r, k, v, h => by
  simp only [dropS] at h
  by_cases hc : mem ds a = true
  ·rw [if_pos hc] at h
   have h1 := dropS_sub h
   rw [look_cons]
   split
   ·rename_i e
    subst e
    exfalso
    have : ∀ (l : List (Nat × AV)), look (dropS ds l) a = none := by
     intro l
     induction l with
     | nil => rfl
     | cons y l ih =>
      obtain ⟨b, y⟩ := y
      simp only [dropS]
      split
      ·exact ih
      ·rename_i hb
       rw [look_cons, if_neg (fun e => by rw [e] at hb; exact hb hc)]
       exact ih
    rw [this] at h
    cases h
   ·exact h1
  ·rw [if_neg hc] at h
   rw [look_cons] at h ⊢
   split at h
   ·rename_i e; rw [if_pos e]; exact h
   ·rename_i e; rw [if_neg e]; exact dropS_sub h
theorem dropH_sub {ds : List (Nat × HO)} : ∀ {l : List (Nat × HO)} {k : Nat}, look ds k = none → look (dropH ds l) k = look l k
 | [], _, _ => rfl
 | (a, x) :: r, k, h => by
  simp only [dropH]
  split
  ·rename_i y hy
   rw [look_cons, if_neg (fun e => by rw [e, h] at hy; cases hy)]
   exact dropH_sub h
  ·rw [look_cons, look_cons]
   split
   ·rfl
   ·exact dropH_sub h

abbrev headOf (A : Ann) (ds : List Nat) (σ : St) (x : A.X) : St := { s := A.s x ++ dropS ds σ.s, g := [], h := A.h x ++ dropH (A.h x) σ.h }
end
end Go.Sy
