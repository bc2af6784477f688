/- Tempos and what they take: the plain laws. No program in sight. -/
import Derived.Test.YtjghgdccaakfmaaTp
namespace Go.RatLaw
open Go.Sy
set_option linter.unusedVariables false
set_option linter.unusedSimpArgs false
theorem isTm_iff {n d : Int} : isTm n d = true ↔ vld n d = true ∧ 0 < n ∧ n ≤ 10 * d ∧ Int.tmod 60 d = 0 := by
  unfold isTm; simp [Bool.and_eq_true, and_assoc]
theorem isTm_div {n d : Int} (h : isTm n d = true) : 0 < d ∧ d * Int.tdiv 60 d = 60 := by
  have ⟨h1, h2, h3, h4⟩ := isTm_iff.1 h
  have := vld_iff.1 h1
  refine ⟨by omega, ?_⟩
  have := Int.mul_tdiv_add_tmod 60 d
  omega
theorem scl_eq {n d : Int} (h : isTm n d = true) : sclT n d = n * Int.tdiv 60 d := by unfold sclT; rw [if_pos h]
theorem scl_mul {n d : Int} (h : isTm n d = true) : sclT n d * d = 60 * n := by
  have := (isTm_div h).2
  rw [scl_eq h]; grind
theorem scl_bd {n d : Int} (h : isTm n d = true) : 1 ≤ sclT n d ∧ sclT n d ≤ 600 := by
  have h0 := isTm_div h
  have ⟨h1, h2, h3, h4⟩ := isTm_iff.1 h
  have e := scl_mul h
  have hd := h0.1
  constructor
  · by_cases q : 1 ≤ sclT n d
    · exact q
    · have : sclT n d * d ≤ 0 * d := Int.mul_le_mul_of_nonneg_right (by omega) (by omega)
      omega
  · by_cases q : sclT n d ≤ 600
    · exact q
    · have : 601 * d ≤ sclT n d * d := Int.mul_le_mul_of_nonneg_right (by omega) (by omega)
      omega
theorem scl_neg {n d : Int} : decide (sclT n d < 0) = !isTm n d := by
  by_cases h : isTm n d = true
  · have := scl_bd h
    rw [h]; simp; omega
  · simp only [Bool.not_eq_true] at h
    unfold sclT
    rw [h]; simp
theorem tmLast_succ {l : List T3} {x : Nat} : tmLast l (x + 1) = (l.getD x t30).1 := by simp [tmLast]
theorem tms_step {nb : Int} {l : List T3} {x : Nat} (h : x < l.length) : tmsFrom nb (tmLast l x) (l.drop x) = (!tmBad nb (tmLast l x) (l.getD x t30) && tmsFrom nb (tmLast l (x + 1)) (l.drop (x + 1))) := by
  rw [dropG t30 h, tmsFrom, tmLast_succ]
theorem tms_end {nb : Int} {l : List T3} {x : Nat} (h : ¬ x < l.length) : tmsFrom nb (tmLast l x) (l.drop x) = true := by
  rw [List.drop_eq_nil_of_le (by omega)]; rfl
theorem tms_mem {nb : Int} : ∀ {l : List T3} {last : Int}, tmsFrom nb last l = true → l.Pairwise (fun x y => x.1 < y.1) ∧ ∀ x ∈ l, last < x.1 ∧ x.1 < nb ∧ isTm x.2.1 x.2.2 = true
  | [], last, _ => ⟨.nil, fun _ h => by cases h⟩
  | x :: l, last, h => by
    simp only [tmsFrom, tmBad, Bool.and_eq_true, Bool.not_eq_true', Bool.or_eq_false_iff, decide_eq_false_iff_not, Bool.not_eq_false'] at h
    have ih := tms_mem h.2
    refine ⟨List.pairwise_cons.2 ⟨fun y hy => (ih.2 y hy).1, ih.1⟩, fun y hy => ?_⟩
    rcases List.mem_cons.1 hy with rfl | hy
    · exact ⟨by omega, by omega, h.1.1.1⟩
    · have := ih.2 y hy
      exact ⟨by omega, this.2⟩
theorem okTm_iff {bars : List Bar} {l : List T3} : okTm bars l = true ↔ okBars bars = true ∧ 1 ≤ l.length ∧ l.length ≤ 1000 ∧ (l.getD 0 t30).1 = 0 ∧ tmsFrom bars.length (-1) l = true := by
  unfold okTm tmsB; simp [Bool.and_eq_true, and_assoc]
structure TmOk (bars : List Bar) (l : List T3) : Prop where
  okb : okBars bars = true
  pos : 1 ≤ l.length
  le : l.length ≤ 1000
  first : (l.getD 0 t30).1 = 0
  rise : riseT l
  mem : ∀ x ∈ l, 0 ≤ x.1 ∧ x.1 < bars.length ∧ isTm x.2.1 x.2.2 = true
theorem okTm_ok {bars : List Bar} {l : List T3} (h : okTm bars l = true) : TmOk bars l := by
  have ⟨h1, h2, h3, h4, h5⟩ := okTm_iff.1 h
  have := tms_mem h5
  exact ⟨h1, h2, h3, h4, this.1, fun x hx => by have := this.2 x hx; exact ⟨by omega, this.2⟩⟩
theorem rise_get {l : List T3} (h : riseT l) {i j : Nat} (hij : i < j) (hj : j < l.length) : (l.getD i t30).1 < (l.getD j t30).1 := by
  have hi : i < l.length := by omega
  have := List.pairwise_iff_getElem.1 h i j hi hj hij
  simpa [List.getD_eq_getElem?_getD, hi, hj] using this
theorem tmN_le (l : List T3) (b : Int) : tmN l b ≤ l.length := by
  unfold tmN; exact (List.takeWhile_prefix _).length_le
theorem tmN_cons (x : T3) (l : List T3) (b : Int) : tmN (x :: l) b = if x.1 ≤ b then tmN l b + 1 else 0 := by
  unfold tmN
  rw [List.takeWhile_cons]
  by_cases h : x.1 ≤ b <;> simp [upToT, h]
theorem tmN_in {b : Int} : ∀ {l : List T3} {k : Nat}, k < tmN l b → (l.getD k t30).1 ≤ b
  | [], k, h => by simp [tmN] at h
  | x :: l, k, h => by
    rw [tmN_cons] at h
    by_cases hx : x.1 ≤ b
    · rw [if_pos hx] at h
      cases k with
      | zero => simpa using hx
      | succ k => simpa using tmN_in (l := l) (k := k) (by omega)
    · rw [if_neg hx] at h; omega
theorem tmN_out {b : Int} : ∀ {l : List T3}, tmN l b < l.length → b < (l.getD (tmN l b) t30).1
  | [], h => by simp [tmN] at h
  | x :: l, h => by
    rw [tmN_cons] at h ⊢
    by_cases hx : x.1 ≤ b
    · rw [if_pos hx] at h ⊢
      simpa using tmN_out (l := l) (by simpa using h)
    · rw [if_neg hx]; simpa using hx
theorem tmN_eq {l : List T3} {b : Int} {n : Nat} (hn : n ≤ l.length) (h1 : ∀ k, k < n → (l.getD k t30).1 ≤ b) (h2 : n < l.length → b < (l.getD n t30).1) : tmN l b = n := by
  rcases Nat.lt_trichotomy (tmN l b) n with h | h | h
  · have := tmN_out (l := l) (b := b) (by omega)
    have := h1 _ h
    omega
  · exact h
  · have := tmN_in h
    have := h2 (by have := tmN_le l b; omega)
    omega
theorem tmN_pos {bars : List Bar} {l : List T3} (h : TmOk bars l) {b : Int} (hb : 0 ≤ b) : 0 < tmN l b := by
  rcases Nat.eq_zero_or_pos (tmN l b) with e | e
  · have := tmN_out (l := l) (b := b) (by have := h.pos; omega)
    rw [e, h.first] at this; omega
  · exact e
theorem tmAt_mem {l : List T3} {b : Int} (h : 0 < tmN l b) : l.getD (tmN l b - 1) t30 ∈ l := memG t30 (by have := tmN_le l b; omega)
theorem tmAt_ok {bars : List Bar} {l : List T3} (h : TmOk bars l) {b : Int} (hb : 0 ≤ b) : isTm (tmAt l b).1 (tmAt l b).2 = true := (h.mem _ (tmAt_mem (tmN_pos h hb))).2.2
theorem takeT_mul (l : List T3) (b s t : Int) : takeT l b (s * t) = s * takeT l b t := by unfold takeT; grind
theorem takeT_neg (l : List T3) (b t : Int) : takeT l b (-1 * t) = -takeT l b t := by rw [takeT_mul]; omega
theorem takeT_one (l : List T3) (b t : Int) : takeT l b (1 * t) = takeT l b t := by rw [Int.one_mul]
theorem takeT_zero (l : List T3) (b : Int) : takeT l b 0 = 0 := by unfold takeT; omega
theorem takeT_bd {l : List T3} {b t : Int} (h : isTm (tmAt l b).1 (tmAt l b).2 = true) (h0 : 0 ≤ t) (h1 : t ≤ 40320) : t ≤ takeT l b t ∧ takeT l b t ≤ 24192000 := by
  have ⟨a1, a2⟩ := scl_bd h
  unfold takeT
  generalize sclT (tmAt l b).1 (tmAt l b).2 = s at a1 a2 ⊢
  have e1 : t * 1 ≤ t * s := Int.mul_le_mul_of_nonneg_left a1 h0
  have e2 : t * s ≤ 40320 * s := Int.mul_le_mul_of_nonneg_right h1 (by omega)
  omega
theorem takeT_lt {l : List T3} {b t u : Int} (h : isTm (tmAt l b).1 (tmAt l b).2 = true) : takeT l b t < takeT l b u ↔ t < u := by
  have ⟨a1, a2⟩ := scl_bd h
  unfold takeT
  exact Int.mul_lt_mul_right (by omega)
theorem tb_at {bars : List Bar} (h : okBars bars = true) {k : Nat} (hk : k < bars.length) : dur (bars.getD k bar0).2.1.1 (bars.getD k bar0).2.1.2 = true ∧ tk (bars.getD k bar0).2.1.1 (bars.getD k bar0).2.1.2 = tb (bars.getD k bar0) ∧ 1 ≤ tb (bars.getD k bar0) ∧ tb (bars.getD k bar0) ≤ 40320 := by
  have h1 := (okBars_iff.1 h).2.2.1 _ (mem_getD hk)
  have h2 := okBar_dur h1
  have h3 := okBar_iff.1 h1
  exact ⟨h2.1, h2.2, by omega, by omega⟩
theorem sumT_bd {bars : List Bar} {l : List T3} (h : TmOk bars l) : ∀ {k : Nat}, k ≤ bars.length → (k : Int) ≤ sumT bars l k ∧ sumT bars l k ≤ 24192000 * k
  | 0, _ => by simp [sumT]
  | k + 1, hk => by
    have ih := sumT_bd h (k := k) (by omega)
    have hb := tb_at h.okb (k := k) (by omega)
    have ht := takeT_bd (tmAt_ok h (b := k) (by omega)) (t := tb (bars.getD k bar0)) (by omega) (by omega)
    rw [sumT]
    omega
theorem sumT_mono {bars : List Bar} {l : List T3} (h : TmOk bars l) {i : Nat} : ∀ {j : Nat}, i ≤ j → j ≤ bars.length → sumT bars l i + ((j : Int) - i) ≤ sumT bars l j
  | 0, hij, _ => by simp [show i = 0 by omega, sumT]
  | j + 1, hij, hj => by
    rcases Nat.eq_or_lt_of_le hij with e | e
    · subst e; simp
    · have ih := sumT_mono h (i := i) (j := j) (by omega) (by omega)
      have hb := tb_at h.okb (k := j) (by omega)
      have ht := takeT_bd (tmAt_ok h (b := j) (by omega)) (t := tb (bars.getD j bar0)) (by omega) (by omega)
      rw [sumT]; omega
theorem pos_dur {bars : List Bar} {b n d : Int} (h : posS bars b n d = true) : dur n d = true ∧ tks n d = tk n d ∧ 0 ≤ b ∧ b ≤ bars.length ∧ 0 ≤ tk n d ∧ (b < bars.length → tk n d < tb (barAt bars b)) ∧ (¬ b < bars.length → tk n d = 0) := by
  have ⟨h1, h2, h3⟩ := posS_iff.1 h
  have h4 := tks_nonneg.1 h2
  have h5 := tks_dur h4
  rw [h5] at h2 h3
  exact ⟨h4, h5, h1, by omega, h2, fun q => by rcases h3 with h3 | h3 <;> omega, fun q => by rcases h3 with h3 | h3 <;> omega⟩
/-- what all before a position takes, in bounds -/
theorem upT_bd {bars : List Bar} {l : List T3} (h : TmOk bars l) {b n d : Int} (hp : posS bars b n d = true) : sumT bars l b.toNat ≤ upT bars l b (tk n d) ∧ upT bars l b (tk n d) ≤ 24192000 * 4000 ∧ 0 ≤ sumT bars l b.toNat ∧
    (b < bars.length → upT bars l b (tk n d) < sumT bars l (b.toNat + 1) ∧ tk n d ≤ 40320) := by
  have ⟨h1, h2, h3, h4, h5, h6, h7⟩ := pos_dur hp
  have hs := sumT_bd h (k := b.toNat) (by omega)
  have hn := (okBars_iff.1 h.okb).2.1
  unfold upT
  by_cases hb : b < bars.length
  · rw [if_pos hb]
    have h6 := h6 hb
    have hb' := tb_at h.okb (k := b.toNat) (by omega)
    have hi := tmAt_ok h (b := b) h3
    have ht := takeT_bd hi h5 (by unfold barAt at h6; omega)
    have hlt : takeT l b (tk n d) < takeT l b (tb (bars.getD b.toNat bar0)) := (takeT_lt hi).2 h6
    have hs' := sumT_bd h (k := b.toNat + 1) (by omega)
    rw [sumT] at hs' ⊢
    rw [show ((b.toNat : Nat) : Int) = b by omega] at hs' ⊢
    exact ⟨by omega, by omega, by omega, fun _ => ⟨by omega, by unfold barAt at h6; omega⟩⟩
  · rw [if_neg hb]
    exact ⟨by omega, by omega, by omega, fun q => absurd q hb⟩
theorem earl_iff {b n d b' n' d' : Int} : earlS b n d b' n' d' = true ↔ b < b' ∨ (b = b' ∧ tks n d < tks n' d') := by
  unfold earlS; simp
theorem later_eq {bars : List Bar} {b n d b' n' d' : Int} (hp : posS bars b n d = true) (hq : posS bars b' n' d' = true) : (if b = b' then decide ((compareR n d n' d').1 > 0) else decide (b > b')) = earlS b' n' d' b n d := by
  have ⟨a1, a2, _⟩ := pos_dur hp
  have ⟨c1, c2, _⟩ := pos_dur hq
  rw [cmp_dur a1 c1]
  rw [Bool.eq_iff_iff, earl_iff, a2, c2]
  by_cases e : b = b'
  · rw [if_pos e]
    by_cases e1 : tk n d < tk n' d'
    · simp [e1]; omega
    · by_cases e2 : tk n d > tk n' d'
      · simp [e1, e2]; omega
      · simp [e1, e2]; omega
  · rw [if_neg e]; simp; omega
theorem secS_ok {bars : List Bar} {l : List T3} {b n d b' n' d' : Int} (h1 : okTm bars l = true) (h2 : posS bars b n d = true) (h3 : posS bars b' n' d' = true) (h4 : earlS b' n' d' b n d = false) : secS bars l b n d b' n' d' = make (secN bars l b n d b' n' d') 100800 := by
  unfold secS; rw [if_pos (by rw [h1, h2, h3, h4]; rfl)]
theorem secS_no {bars : List Bar} {l : List T3} {b n d b' n' d' : Int} (h : (okTm bars l && posS bars b n d && posS bars b' n' d' && !earlS b' n' d' b n d) = false) : secS bars l b n d b' n' d' = (0, 0, 1) := by
  unfold secS; rw [h]; rfl
theorem make_mk {n : Int} (h : -1000000000000000 ≤ n ∧ n ≤ 1000000000000000) : make n 100800 = mk n 100800 := by
  unfold make far; rw [if_neg (by simp; omega)]
theorem jump_le {b : Int} {r : List T3} {j t n : Int} (hb : 1 ≤ b) (h : jumpB b r j t n = true) : j ≤ b ∧ n ≤ b ∧ 0 ≤ t ∧ 0 ≤ j := by
  unfold jumpB at h
  split at h
  · omega
  · split at h
    · cases h
    · rename_i q
      simp only [Bool.not_eq_true, Bool.or_eq_false_iff, decide_eq_false_iff_not] at q
      omega
theorem whole_mem {f : Fm} (h : okForm f = true) : ∀ x ∈ wholeF f, 0 ≤ x ∧ x < f.1 := by
  unfold okForm at h
  simp only [Bool.and_eq_true, decide_eq_true_iff] at h
  obtain ⟨⟨⟨⟨⟨h1, h2⟩, h3⟩, h4⟩, h5⟩, h6⟩ := h
  have hj := jump_le h1 h5
  unfold wholeF wholeS
  intro x hx
  split at hx
  · have := part_mem (e := f.2.2.1) (ag := false) h3 (Int.le_refl _) _ 0 (Nat.le_refl _) x hx; omega
  · rcases List.mem_append.1 hx with hx | hx
    · have := part_mem h3 hj.1 _ 0 (Nat.le_refl _) x hx; omega
    · have := part_mem h3 hj.2.1 _ _ (Nat.le_refl _) x hx; omega
theorem unfold_mem {f : Fm} : ∀ v ∈ (unfoldS f).1, 0 ≤ v.1 ∧ v.1 < f.1 := by
  unfold unfoldS
  by_cases h : validF f = true
  · rw [if_pos h]
    intro v hv
    unfold validF at h
    rw [Bool.and_eq_true] at h
    exact whole_mem h.1 _ (vis_pos (List.mem_filter.1 hv).1).1
  · rw [if_neg h]; intro v hv; cases hv
theorem unfold_len (f : Fm) : (unfoldS f).1.length ≤ 20000 := by
  unfold unfoldS
  by_cases h : validF f = true
  · rw [if_pos h]
    have h' := h
    unfold validF at h'
    rw [Bool.and_eq_true] at h'
    have := of_decide_eq_true h'.2
    have q := List.length_filter_le (keptB f.2.2.2.2) (visS (wholeF f))
    rw [visS_len] at q
    exact Nat.le_trans q this
  · rw [if_neg h]; simp
theorem unfold_err (f : Fm) : ((unfoldS f).2 != 0) = !validF f := by
  unfold unfoldS
  by_cases h : validF f = true
  · rw [if_pos h, h]; rfl
  · rw [if_neg h]; simp only [Bool.not_eq_true] at h; rw [h]; rfl
theorem cutV_len {vs : List Vi} {x y : Int} (h0 : 0 ≤ x) (h1 : x ≤ y) (h2 : y ≤ vs.length) : (cutV vs x y).length = (y - x).toNat := by
  unfold cutV; rw [List.length_drop, List.length_take]; omega
theorem cutV_mem {vs : List Vi} {x y : Int} {v : Vi} (h : v ∈ cutV vs x y) : v ∈ vs := List.mem_of_mem_take (List.mem_of_mem_drop h)
theorem cutV_get {vs : List Vi} {x y : Int} (h0 : 0 ≤ x) (h1 : x ≤ y) (h2 : y ≤ vs.length) {k : Nat} (hk : k < (y - x).toNat) : (cutV vs x y).getD k vi0 = vs.getD (x + k).toNat vi0 := by
  unfold cutV
  rw [List.getD_eq_getElem?_getD, List.getD_eq_getElem?_getD, List.getElem?_drop, List.getElem?_take, if_pos (by omega), show x.toNat + k = (x + k).toNat by omega]
theorem playN_take {bars : List Bar} {l : List T3} {vs : List Vi} {k : Nat} (h : k < vs.length) : playN bars l (vs.take (k + 1)) = playN bars l (vs.take k) + playV bars l (vs.getD k vi0) := by
  unfold playN; rw [takeG vi0 h]; simp
theorem playN_app (bars : List Bar) (l : List T3) (a b : List Vi) : playN bars l (a ++ b) = playN bars l a + playN bars l b := by unfold playN; simp
theorem playV_bd {bars : List Bar} {l : List T3} (h : TmOk bars l) {v : Vi} (h0 : 0 ≤ v.1) (h1 : v.1 < bars.length) : 1 ≤ playV bars l v ∧ playV bars l v ≤ 24192000 := by
  have hb := tb_at h.okb (k := v.1.toNat) (by omega)
  have ht := takeT_bd (tmAt_ok h (b := v.1) h0) (t := tb (bars.getD v.1.toNat bar0)) (by omega) (by omega)
  unfold playV barAt; omega
theorem playN_bd {bars : List Bar} {l : List T3} (h : TmOk bars l) : ∀ {vs : List Vi}, (∀ v ∈ vs, 0 ≤ v.1 ∧ v.1 < bars.length) → 0 ≤ playN bars l vs ∧ playN bars l vs ≤ 24192000 * vs.length
  | [], _ => by simp [playN]
  | v :: vs, hv => by
    have ih := playN_bd h (vs := vs) (fun w hw => hv w (List.mem_cons_of_mem _ hw))
    have h1 := hv v (List.mem_cons_self)
    have h2 := playV_bd h h1.1 h1.2
    have e : playN bars l (v :: vs) = playV bars l v + playN bars l vs := by simp [playN]
    rw [e, List.length_cons]; omega
structure PlayOk (bars : List Bar) (l : List T3) (f : Fm) (x y : Int) : Prop where
  ok : TmOk bars l
  valid : validF f = true
  n : f.1 = bars.length
  h0 : 0 ≤ x
  h1 : x ≤ y
  h2 : y ≤ (unfoldS f).1.length
  eq : playS bars l f x y = make (playN bars l (cutV (unfoldS f).1 x y)) 100800
theorem play_ok {bars : List Bar} {l : List T3} {f : Fm} {x y : Int} (h : (okTm bars l && validF f && decide (f.1 = bars.length) && decide (0 ≤ x) && decide (x ≤ y) && decide (y ≤ (unfoldS f).1.length)) = true) : PlayOk bars l f x y := by
  have e : playS bars l f x y = make (playN bars l (cutV (unfoldS f).1 x y)) 100800 := by unfold playS; rw [if_pos h]
  simp only [Bool.and_eq_true, decide_eq_true_iff] at h
  obtain ⟨⟨⟨⟨⟨h1, h2⟩, h3⟩, h4⟩, h5⟩, h6⟩ := h
  exact ⟨okTm_ok h1, h2, h3, h4, h5, h6, e⟩
theorem play_no {bars : List Bar} {l : List T3} {f : Fm} {x y : Int} (h : (okTm bars l && validF f && decide (f.1 = bars.length) && decide (0 ≤ x) && decide (x ≤ y) && decide (y ≤ (unfoldS f).1.length)) = false) : playS bars l f x y = (0, 0, 1) := by
  unfold playS; rw [h]; rfl
theorem play_cond {bars : List Bar} {l : List T3} {f : Fm} {x y : Int} : (!okTm bars l || (unfoldS f).2 != 0 || f.1 != (bars.length : Int) || decide (x < 0) || decide (x > y) || decide (y > ((unfoldS f).1.length : Int))) = !(okTm bars l && validF f && decide (f.1 = bars.length) && decide (0 ≤ x) && decide (x ≤ y) && decide (y ≤ (unfoldS f).1.length)) := by
  rw [unfold_err, Bool.eq_iff_iff]
  by_cases h : okTm bars l = true
  · by_cases h2 : validF f = true
    · rw [h, h2]; simp <;> omega
    · simp only [Bool.not_eq_true] at h2; rw [h2]; simp
  · simp only [Bool.not_eq_true] at h; rw [h]; simp
/-- one more visit -/
theorem play_step {bars : List Bar} {l : List T3} {f : Fm} {x y : Int} (h : PlayOk bars l f x y) {k : Nat} (hk : k < (y - x).toNat) :
    0 ≤ ((cutV (unfoldS f).1 x y).getD k vi0).1 ∧ ((cutV (unfoldS f).1 x y).getD k vi0).1 < bars.length ∧ playN bars l ((cutV (unfoldS f).1 x y).take (k + 1)) = playN bars l ((cutV (unfoldS f).1 x y).take k) + takeT l ((cutV (unfoldS f).1 x y).getD k vi0).1 (tb (bars.getD ((cutV (unfoldS f).1 x y).getD k vi0).1.toNat bar0)) := by
  have hl := cutV_len h.h0 h.h1 h.h2
  have hm := unfold_mem _ (cutV_mem (memG vi0 (l := cutV (unfoldS f).1 x y) (x := k) (by omega)))
  rw [h.n] at hm
  refine ⟨hm.1, hm.2, ?_⟩
  rw [playN_take (by omega)]
  rfl
theorem play_bd {bars : List Bar} {l : List T3} {f : Fm} {x y : Int} (h : PlayOk bars l f x y) (k : Nat) : 0 ≤ playN bars l ((cutV (unfoldS f).1 x y).take k) ∧ playN bars l ((cutV (unfoldS f).1 x y).take k) ≤ 483840000000 := by
  have := playN_bd h.ok (vs := (cutV (unfoldS f).1 x y).take k) (fun v hv => by have := unfold_mem _ (cutV_mem (List.mem_of_mem_take hv)); rw [h.n] at this; exact this)
  have h1 := unfold_len f
  have h2 : ((cutV (unfoldS f).1 x y).take k).length ≤ 20000 := by
    rw [List.length_take, cutV_len h.h0 h.h1 h.h2]; have := h.h2; have := h.h0; have := h.h1; omega
  omega
theorem play_all {bars : List Bar} {l : List T3} {f : Fm} {x y : Int} (h : PlayOk bars l f x y) {k : Nat} (hk : ¬ k < (y - x).toNat) : (cutV (unfoldS f).1 x y).take k = cutV (unfoldS f).1 x y := List.take_of_length_le (by rw [cutV_len h.h0 h.h1 h.h2]; omega)
end Go.RatLaw
