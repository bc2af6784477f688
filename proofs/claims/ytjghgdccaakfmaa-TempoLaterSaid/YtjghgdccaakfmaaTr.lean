/- Times in seconds: sums, one tempo alone, forms without repeats, later tempos. No program in sight. -/
import Derived.Test.YtjghgdccaakfmaaTq
namespace Go.RatLaw
open Go.Sy
set_option linter.unusedVariables false
set_option linter.unusedSimpArgs false
theorem mk100 (n : Int) : mk n 100800 = (0, 0, 3) ∨ ∃ p q, mk n 100800 = (p, q, 0) ∧ vld p q = true ∧ p * 100800 = q * n := mk_cases n 100800 (by decide)
theorem mk100_err (n : Int) : (mk n 100800).2.2 = 0 ∨ (mk n 100800).2.2 = 3 := by
  rcases mk100 n with h | ⟨p, q, h, _⟩ <;> rw [h] <;> simp
theorem vld_pos {p q : Int} (h : vld p q = true) : 0 < q := by have := vld_iff.1 h; omega
theorem add100 {a b c d x y : Int} (h : vld a b = true) (h' : vld c d = true) (e : a * 100800 = b * x) (e' : c * 100800 = d * y) : addR a b c d = mk (x + y) 100800 := by
  have hb := vld_pos h
  have hd := vld_pos h'
  have hbd : b * d ≠ 0 := Int.ne_of_gt (Int.mul_pos hb hd)
  unfold addR
  rw [if_pos (by rw [h, h']; rfl)]
  refine mk_congr hbd (by decide) ?_
  have e1 : a * 100800 * d = b * x * d := by rw [e]
  have e2 : c * 100800 * b = d * y * b := by rw [e']
  grind
theorem mk_small {n : Int} (h0 : 0 ≤ n) (h1 : n ≤ 1000000000) : (mk n 100800).2.2 = 0 := by
  have hf : fits n 100800 = true := by
    unfold fits
    have a := redN_le n 100800
    have hp := redD_pos (n := n) (d := 100800) (by decide)
    have hd : redD n 100800 ≤ 100800 := by
      unfold redD
      rw [if_neg (by decide)]
      exact Int.ediv_le_self _ (by decide)
    exact decide_eq_true ⟨by omega, by omega, by omega⟩
  rw [mk_yes hf]
theorem sec_form {bars : List Bar} {l : List T3} (h : okTm bars l = true) {b n d b' n' d' : Int} (hp : posS bars b n d = true) (hq : posS bars b' n' d' = true) :
    secS bars l b n d b' n' d' = if earlS b' n' d' b n d then (0, 0, 1) else mk (upT bars l b' (tk n' d') - upT bars l b (tk n d)) 100800 := by
  by_cases he : earlS b' n' d' b n d = true
  · rw [if_pos he, secS_no (by rw [h, hp, hq, he]; rfl)]
  · rw [if_neg he]
    simp only [Bool.not_eq_true] at he
    rw [secS_ok h hp hq he]
    have hk := okTm_ok h
    have u := upT_bd hk hp
    have v := upT_bd hk hq
    unfold secN
    exact make_mk (by omega)
/-! one tempo alone -/
/-! no repeats -/
theorem part_plain (u : Int) : ∀ (k : Nat) (f : Int), (u - f).toNat = k → partS [] [] f u false = intsF f u
  | 0, f, hk => by rw [part_end (by omega), intsF_end (by omega)]
  | k + 1, f, hk => by
    rw [part_none (fun q hq => by cases hq) (by omega) rfl, intsF_step (by omega), part_plain u k (f + 1) (by omega)]
def plainF (n : Int) : Fm := (n, ([], ([], ((0, (0, 0)), []))))
theorem plain_whole (n : Int) : wholeF (plainF n) = intsF 0 n := by
  unfold wholeF wholeS plainF
  rw [if_pos rfl]
  exact part_plain n _ 0 rfl
theorem plain_valid {n : Int} (h0 : 1 ≤ n) (h1 : n ≤ 4000) : validF (plainF n) = true := by
  unfold validF shortF okForm
  rw [plain_whole]
  have : (intsF 0 n).length ≤ 20000 := by rw [intsF_len]; omega
  simp [this, plainF, h0, h1, repsB, repsFrom, endsB, endsFrom, jumpB, cutsB]
theorem plain_unfold {n : Int} (h0 : 1 ≤ n) (h1 : n ≤ 4000) : (unfoldS (plainF n)).1 = visS (intsF 0 n) := by
  unfold unfoldS
  rw [if_pos (plain_valid h0 h1), plain_whole]
  exact List.filter_eq_self.2 fun v hv => rfl
theorem plain_play {bars : List Bar} {l : List T3} {x y : Int} (h : PlayOk bars l (plainF bars.length) x y) : ∀ {k : Nat}, k ≤ (y - x).toNat → playN bars l ((cutV (unfoldS (plainF bars.length)).1 x y).take k) = sumT bars l (x.toNat + k) - sumT bars l x.toNat
  | 0, _ => by simp [playN]
  | k + 1, hk => by
    have hb := okBars_iff.1 h.ok.okb
    have s := play_step h (k := k) (by omega)
    have hl := h.h2
    have h0 := h.h0
    have h1 := h.h1
    have e : ((cutV (unfoldS (plainF bars.length)).1 x y).getD k vi0).1 = x + k := by
      rw [cutV_get h0 h1 hl (by omega)]
      rw [plain_unfold (by omega) (by omega)] at hl ⊢
      rw [visS_len] at hl
      rw [vis_get (by omega)]
      show (intsF 0 (bars.length : Int)).getD (x + k).toNat 0 = x + k
      rw [intsF_len] at hl
      unfold intsF
      rw [List.getD_eq_getElem?_getD, List.getElem?_map, List.getElem?_range (by omega)]
      simp; omega
    rw [s.2.2, plain_play h (by omega), e, ← Nat.add_assoc, sumT, show (x + (k : Int)).toNat = x.toNat + k by omega, show ((x.toNat + k : Nat) : Int) = x + k by omega]
    omega
theorem pos_bar {bars : List Bar} (hb : okBars bars = true) {x : Int} (h0 : 0 ≤ x) (h1 : x ≤ bars.length) : posS bars x 0 1 = true := by
  rw [posS_iff, tks_dur dur01, tk01]
  refine ⟨h0, Int.le_refl _, ?_⟩
  by_cases q : x < bars.length
  · have := (tb_at hb (k := x.toNat) (by omega)).2.2.1
    exact .inl ⟨q, by unfold barAt; omega⟩
  · exact .inr ⟨by omega, rfl⟩
theorem up_bar (bars : List Bar) (l : List T3) (x : Int) : upT bars l x (tk 0 1) = sumT bars l x.toNat := by
  unfold upT; rw [tk01, takeT_zero]; simp
theorem sec_bar {bars : List Bar} {l : List T3} (h : okTm bars l = true) {x y : Int} (h0 : 0 ≤ x) (h1 : x ≤ y) (h2 : y ≤ bars.length) : secS bars l x 0 1 y 0 1 = mk (sumT bars l y.toNat - sumT bars l x.toNat) 100800 := by
  have hk := okTm_ok h
  rw [sec_form h (pos_bar hk.okb h0 (by omega)) (pos_bar hk.okb (by omega) h2), if_neg, up_bar, up_bar]
  rw [earl_iff]
  rintro (q | ⟨q, r⟩)
  · omega
  · omega
theorem play_mk {bars : List Bar} {l : List T3} {f : Fm} {x y : Int} (h : PlayOk bars l f x y) : playS bars l f x y = mk (playN bars l (cutV (unfoldS f).1 x y)) 100800 := by
  have := play_bd h (cutV (unfoldS f).1 x y).length
  rw [List.take_length] at this
  rw [h.eq, make_mk (by omega)]
theorem play_mk_ok {bars : List Bar} {l : List T3} {f : Fm} {x y : Int} (h1 : okTm bars l = true) (h2 : validF f = true) (h3 : f.1 = bars.length) (h4 : 0 ≤ x) (h5 : x ≤ y) (h6 : y ≤ (unfoldS f).1.length) : PlayOk bars l f x y :=
  play_ok (by rw [h1, h2, decide_eq_true h3, decide_eq_true h4, decide_eq_true h5, decide_eq_true h6]; rfl)
theorem addR_first {a b : Int} (h : vld a b = true) : addR 0 1 a b = (a, b, 0) := by
  have e : addR 0 1 a b = mk a b := by
    unfold addR; rw [if_pos (by rw [h]; rfl)]; rw [show (0 * b + a * 1 : Int) = a by omega, show (1 * b : Int) = b by omega]
  rw [e, mk_vld h]
theorem sum100 {a b c d e f x y z : Int} (h : vld a b = true) (h' : vld c d = true) (h2 : vld e f = true) (e1 : a * 100800 = b * x) (e2 : c * 100800 = d * y) (e3 : e * 100800 = f * z) :
    sumR [(a, b), (c, d), (e, f)] = (0, 0, 3) ∨ sumR [(a, b), (c, d), (e, f)] = mk (x + y + z) 100800 := by
  unfold sumR
  rw [if_neg (by simp), if_pos (by simp [h, h', h2])]
  simp only [carr, addR_first h]
  rw [add100 h h' e1 e2]
  rcases mk100 (x + y) with q | ⟨p, q, hm, hv, he⟩
  · rw [q]; exact .inl rfl
  · rw [hm]
    simp only [add100 hv h2 he e3]
    rcases mk100 (x + y + z) with q | ⟨p, q, hm, hv, he⟩
    · rw [q]; exact .inl rfl
    · rw [hm]; exact .inr rfl
/-! later tempos -/
/-- the first x + 1 tempos, the last one another -/
def otherT (l : List T3) (x : Nat) (a d : Int) : List T3 := (l.take (x + 1)).set x ((l.getD x t30).1, (a, d))
theorem other_len {l : List T3} {x : Nat} {a d : Int} (h : x < l.length) : (otherT l x a d).length = x + 1 := by unfold otherT; rw [List.length_set, List.length_take]; omega
theorem other_get {l : List T3} {x : Nat} {a d : Int} (h : x < l.length) {k : Nat} (hk : k ≤ x) : (otherT l x a d).getD k t30 = if k = x then ((l.getD x t30).1, (a, d)) else l.getD k t30 := by
  unfold otherT
  rw [List.getD_eq_getElem?_getD, List.getElem?_set]
  by_cases e : x = k
  · rw [if_pos e, if_pos e.symm, if_pos (by rw [List.length_take]; omega)]; rfl
  · rw [if_neg e, if_neg (Ne.symm e), List.getElem?_take, if_pos (by omega)]
    rfl
theorem other_fst {l : List T3} {x : Nat} {a d : Int} (h : x < l.length) {k : Nat} (hk : k ≤ x) : ((otherT l x a d).getD k t30).1 = (l.getD k t30).1 := by
  rw [other_get h hk]; split
  · rename_i e; rw [e]
  · rfl
theorem other_n {l : List T3} {x : Nat} {a d : Int} (h : x < l.length) (hr : riseT l) (b : Int) : tmN (otherT l x a d) b = min (tmN l b) (x + 1) := by
  have hl := other_len (a := a) (d := d) h
  have hn := tmN_le l b
  refine tmN_eq (by rw [hl]; exact Nat.min_le_right _ _) (fun k hk => ?_) (fun hk => ?_)
  · rw [other_fst h (by omega)]
    exact tmN_in (by omega)
  · rw [hl] at hk
    have e : min (tmN l b) (x + 1) = tmN l b := by omega
    rw [e, other_fst h (by omega)]
    exact tmN_out (by omega)
theorem other_at {l : List T3} {x : Nat} {a d : Int} (h : x < l.length) (hr : riseT l) {b : Int} (hb : 0 < tmN l b) : tmAt (otherT l x a d) b = if tmN l b - 1 < x then tmAt l b else (a, d) := by
  unfold tmAt
  rw [other_n h hr, other_get h (by omega)]
  by_cases e : tmN l b - 1 < x
  · rw [if_pos e, show min (tmN l b) (x + 1) - 1 = tmN l b - 1 by omega, if_neg (by omega)]
  · rw [if_neg e, if_pos (by omega)]
theorem n_lt {l : List T3} (hr : riseT l) {x : Nat} (hx : x < l.length) {b : Int} (h : b < (l.getD x t30).1) : tmN l b ≤ x := by
  rcases Nat.lt_or_ge x (tmN l b) with e | e
  · have := tmN_in e; omega
  · exact e
theorem other_take {bars : List Bar} {l : List T3} (hk : TmOk bars l) {x : Nat} {a d : Int} (hx : x < l.length) {b t : Int} (h0 : 0 ≤ b) (h : b < (l.getD x t30).1) : takeT (otherT l x a d) b t = takeT l b t := by
  have h1 := tmN_pos hk h0
  have h2 := n_lt hk.rise hx h
  unfold takeT
  rw [other_at hx hk.rise h1, if_pos (by omega)]
theorem other_sum {bars : List Bar} {l : List T3} (hk : TmOk bars l) {x : Nat} {a d : Int} (hx : x < l.length) : ∀ {k : Nat}, (k : Int) ≤ (l.getD x t30).1 → sumT bars (otherT l x a d) k = sumT bars l k
  | 0, _ => rfl
  | k + 1, h => by
    rw [sumT, sumT, other_sum hk hx (by omega), other_take hk hx (by omega) (by omega)]
theorem other_up {bars : List Bar} {l : List T3} (hk : TmOk bars l) {x : Nat} {a d : Int} (hx : x < l.length) {b n e : Int} (h0 : 0 ≤ b) (h : b < (l.getD x t30).1 ∨ (b = (l.getD x t30).1 ∧ n = 0)) : upT bars (otherT l x a d) b (tk n e) = upT bars l b (tk n e) := by
  unfold upT
  rw [other_sum hk hx (by omega)]
  rcases h with h | ⟨h, hn⟩
  · rw [other_take hk hx h0 h]
  · have : tk n e = 0 := by unfold tk; rw [hn]; simp
    rw [this, takeT_zero, takeT_zero]
theorem min_step {l : List T3} (hr : riseT l) {b : Int} {k : Nat} (hk : k < l.length) : min (tmN l b) (k + 1) = if (l.getD k t30).1 ≤ b then k + 1 else min (tmN l b) k := by
  by_cases h : (l.getD k t30).1 ≤ b
  · rw [if_pos h]
    rcases Nat.lt_or_ge k (tmN l b) with e | e
    · omega
    · have := tmN_out (l := l) (b := b) (by omega)
      rcases Nat.eq_or_lt_of_le e with e | e
      · rw [e] at this; omega
      · have := rise_get hr e hk; omega
  · rw [if_neg h]
    have : ¬ k < tmN l b := fun e => h (tmN_in e)
    omega
theorem want_step {l : List T3} (hr : riseT l) {b : Int} {k : Nat} (hk : k < l.length) : wantT l b (k + 1) = if (l.getD k t30).1 ≤ b then (l.getD k t30).2 else wantT l b k := by
  unfold wantT
  rw [min_step hr hk]
  split
  · rw [Nat.add_sub_cancel]
  · rfl
theorem last_step {l : List T3} (hr : riseT l) {b : Int} {x : Nat} {a d : Int} {k : Nat} (hk : k < l.length) : lastW l b x a d (k + 1) = if (l.getD k t30).1 ≤ b then (if k < x then (l.getD k t30).2 else (a, d)) else lastW l b x a d k := by
  unfold lastW
  rw [min_step hr hk]
  split
  · rw [if_neg (by omega), Nat.add_sub_cancel]
  · rfl
theorem want_zero (l : List T3) (b : Int) : wantT l b 0 = (l.getD 0 t30).2 := by unfold wantT; simp
theorem last_zero (l : List T3) (b : Int) (x : Nat) (a d : Int) : lastW l b x a d 0 = (a, d) := by unfold lastW; simp
theorem want_all {l : List T3} {b : Int} : wantT l b l.length = tmAt l b := by
  unfold wantT tmAt
  rw [Nat.min_eq_left (tmN_le l b)]
theorem last_all {bars : List Bar} {l : List T3} (hk : TmOk bars l) {x : Nat} {a d : Int} (hx : x < l.length) {b : Int} (hb : 0 ≤ b) : lastW l b x a d l.length = tmAt (otherT l x a d) b := by
  have h1 := tmN_pos hk hb
  rw [other_at hx hk.rise h1]
  unfold lastW tmAt
  rw [Nat.min_eq_left (tmN_le l b), if_neg (by omega)]
end Go.RatLaw
