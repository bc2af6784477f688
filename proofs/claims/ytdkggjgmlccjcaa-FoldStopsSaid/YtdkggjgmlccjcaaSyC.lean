/- A verified generator of conditions for this program, and its soundness: part C of the proof. -/
import Derived.Test.YtdkggjgmlccjcaaSyB
namespace Go.Sy
variable {P : Program}

/-! what a layout says of a type -/
def sizeIs (P : Program) (t : TypeId) (n : Nat) : Prop := (P.info? t).map (·.size) = some n
theorem run_sizeOf {t : TypeId} {n : Nat} (h : sizeIs P t n) (w : World) : (sizeOf t).run P w = .ok n w := by
  unfold sizeIs at h
  cases hi : P.info? t with
  | none => rw [hi] at h; cases h
  | some i => rw [hi] at h; simp at h; subst h; simp [sizeOf, typeInfo, hi]

/-- the kinds of the leafs of a type whose '==' compares its leafs one by one -/
def eqks (P : Program) (rec : TypeId → Option (List LK)) : List Field → Nat → Option (List LK)
  | [], _ => some []
  | f :: r, off => if f.name ≠ "_" ∧ f.offset = off then
      match rec f.type with
      | some ks => if (P.info? f.type).map (·.size) = some ks.length then
          match eqks P rec r (off + ks.length) with
          | some l => some (ks ++ l)
          | none => none
        else none
      | none => none
    else none
def eqk (P : Program) : Nat → TypeId → Option (List LK)
  | 0, _ => none
  | n + 1, t => match P.underlying t with
    | some (.int _) => some [.i]
    | some .bool => some [.b]
    | some .string => some [.s]
    | some (.struct fs) => if P.stoodInHeld t = false then eqks P (eqk P n) fs.toList 0 else none
    | _ => none

def aggD : TypeDesc → Bool
  | .struct _ => true
  | .array _ _ => true
  | _ => false
/-- keys of a map -/
structure KeyOk (P : Program) (κ : Ty) (t : TypeId) : Prop where
  cmp : κ.cmp = true
  ag : ∀ e, P.underlying t = some e → aggD e = κ.ag
  ks : eqk P 20 t = some κ.lks
structure LayOk (P : Program) (t : TypeId) (y : Lay) : Prop where
  agg : ∀ w, (isAgg t).run P w = .ok y.agg w
  one : y.agg = false → y.size = 1
  size : sizeIs P t y.size
  zero : ∃ z : Value, (∀ w, (zeroValue t).run P w = .ok z w) ∧ (y.agg = true → ∃ arr, z = .agg arr) ∧ ∀ w M, All2 (VD w M) y.zero z.cells.toList
  fs : y.fs ≠ [] → ∃ fields, P.underlying t = some (.struct fields) ∧ All2 (fun q (f : Field) => f.offset = q.1 ∧ sizeIs P f.type q.2 ∧ q.2 ≠ 0) y.fs fields.toList
  el : ∀ s, y.el = some s → ∃ e, P.underlying t = some (.slice e) ∧ sizeIs P e s ∧ s ≠ 0 ∧ ∃ z, ∀ w, (zeroValue e).run P w = .ok z w
  ety : ∀ τ e by', y.ety = some (τ, e, by') → P.underlying t = some (.slice e) ∧ 0 < τ.size ∧ (∀ w, (zeroValue t).run P w = .ok (.slice none 0 0) w) ∧ 0 < by' ∧
    ∃ i z, P.info? e = some i ∧ i.size = τ.size ∧ i.bytes = by' ∧ i.zero = some z ∧ z.cells.size = τ.size
  kind : ∀ k, y.kind = some k → P.underlying t = some (.int k)
  eqs : ∀ ks, y.eqs = some ks → eqk P 20 t = some ks ∧ P.eqGuardType P.depth t = false
  mpt : ∀ κ ν, y.mpt = some (κ, ν) → ∃ kt et z, P.underlying t = some (.map kt et) ∧ KeyOk P κ kt ∧ (∀ w, (zeroValue et).run P w = .ok z w) ∧ ∀ w M, PVal w M ν ν.d0 z

def LOk (P : Program) (L : Nat → Option Lay) : Prop := ∀ t y, L t = some y → LayOk P t y

theorem leafsEq_cons {k : LK} {ks : List LK} {x y : LV} {xs ys : List LV} : leafsEq (k :: ks) (x :: xs) (y :: ys) = match leafEq k x y, leafsEq ks xs ys with
    | some a, some b => some (a && b)
    | _, _ => none := by
  simp only [leafsEq]
  cases h1 : leafEq k x y with
  | none => rfl
  | some a =>
    cases h2 : leafsEq ks xs ys with
    | none => rfl
    | some b =>
      cases xs with
      | nil => cases ys <;> cases ks <;> simp_all [leafsEq]
      | cons => rfl
theorem leafsEq_append : ∀ {ks ls : List LK} {xs ys : List LV} {r : Bool}, leafsEq (ks ++ ls) xs ys = some r →
    ∃ a b, leafsEq ks (xs.take ks.length) (ys.take ks.length) = some a ∧ leafsEq ls (xs.drop ks.length) (ys.drop ks.length) = some b ∧ r = (a && b)
  | [], ls, xs, ys, r, h => ⟨true, r, by simp [leafsEq], by simpa using h, by simp⟩
  | k :: ks, ls, x :: xs, y :: ys, r, h => by
    rw [List.cons_append, leafsEq_cons] at h
    split at h
    · rename_i a b ha hb
      obtain ⟨a', b', h1, h2, h3⟩ := leafsEq_append hb
      obtain rfl := Option.some.inj h
      refine ⟨a && a', b', ?_, by simpa using h2, by rw [h3, Bool.and_assoc]⟩
      rw [List.length_cons, List.take_succ_cons, List.take_succ_cons, leafsEq_cons, ha, h1]
    · cases h
  | k :: ks, ls, [], ys, r, h => by cases ys <;> simp [leafsEq] at h
  | k :: ks, ls, x :: xs, [], r, h => by simp [leafsEq] at h
theorem leafsEq_len : ∀ {ks : List LK} {xs ys : List LV} {r : Bool}, leafsEq ks xs ys = some r → xs.length = ks.length ∧ ys.length = ks.length
  | [], [], [], _, _ => ⟨rfl, rfl⟩
  | k :: ks, x :: xs, y :: ys, r, h => by
    rw [leafsEq_cons] at h
    split at h
    · rename_i hb; have := leafsEq_len hb; simp [this]
    · cases h
  | [], _ :: _, _, _, h => by simp [leafsEq] at h
  | [], [], _ :: _, _, h => by simp [leafsEq] at h
  | _ :: _, [], _, _, h => by simp [leafsEq] at h
  | _ :: _, _ :: _, [], _, h => by simp [leafsEq] at h

section
variable {w : World} {M : CM} {β : Bt} {D : Nat → Prop}

theorem isAgg_run {t : TypeId} {d : TypeDesc} (h : P.underlying t = some d) (w : World) : (isAgg t).run P w = .ok (aggD d) w := by
  simp only [isAgg, Sem.run_bind, run_underlying h, Result.andThen_ok]
  cases d <;> rfl

theorem All2.one_left {α : Type _} {β : Type _} {R : α → β → Prop} {x : α} {m : List β} (h : All2 R [x] m) : ∃ y, m = [y] ∧ R x y := by
  cases h with
  | cons h1 h2 => cases h2; exact ⟨_, rfl, h1⟩

theorem part_agg {t : TypeId} {d : TypeDesc} {s : Nat} {cs : Array Value} {off : Nat} (hd : P.underlying t = some d) (ha : aggD d = true) (hs : sizeIs P t s) :
    (part t cs off).run P w = .ok (.agg (cs.extract off (off + s))) w := by
  simp only [part, Sem.run_bind, isAgg_run hd, Result.andThen_ok, ha, if_true, run_sizeOf hs, Sem.run_pure]
theorem part_one {t : TypeId} {d : TypeDesc} {cs : Array Value} {off : Nat} {v : Value} (hd : P.underlying t = some d) (ha : aggD d = false) (hv : cs[off]? = some v) :
    (part t cs off).run P w = .ok v w := by
  simp only [part, Sem.run_bind, isAgg_run hd, Result.andThen_ok, ha, Bool.false_eq_true, if_false, hv, Sem.run_pure]

theorem leafEq_run {d : Nat} {t : TypeId} {k : LK} {x y : LV} {u v : Value} {r : Bool} (hd : (∃ q, P.underlying t = some (.int q) ∧ k = .i) ∨ (P.underlying t = some .bool ∧ k = .b) ∨ (P.underlying t = some .string ∧ k = .s))
    (hr : leafEq k x y = some r) (hx : VL w M β D x u) (hy : VL w M β D y v) : (Op.equalIn (d + 1) t u v).run P w = .ok r w := by
  unfold leafEq at hr
  split at hr
  · split at hr
    · rename_i k a k' b hkk
      subst hkk
      obtain rfl := Option.some.inj hr
      rcases hd with ⟨q, hd, _⟩ | ⟨_, h⟩ | ⟨_, h⟩
      · cases hx with | d hx => cases hy with | d hy => cases hx; cases hy; exact run_equalIn_int w d t _ _ _ _ hd
      · cases h
      · cases h
    · cases hr
  · obtain rfl := Option.some.inj hr
    rcases hd with ⟨q, _, h⟩ | ⟨hd, _⟩ | ⟨_, h⟩
    · cases h
    · cases hx with | d hx => cases hy with | d hy => cases hx; cases hy; exact run_equalIn_bool w d t _ _ hd
    · cases h
  · obtain rfl := Option.some.inj hr
    rcases hd with ⟨q, _, h⟩ | ⟨_, h⟩ | ⟨hd, _⟩
    · cases h
    · cases h
    · cases hx with | d hx => cases hy with | d hy => cases hx; cases hy; rw [run_equalIn_string w d t _ _ hd, beq_toListBytes]
  · cases hr

theorem eq_run : ∀ (n d : Nat) (t : TypeId) (ks : List LK) (xs ys : List LV) (u v : Value) (r : Bool), n ≤ d → eqk P n t = some ks → leafsEq ks xs ys = some r →
    All2 (VL w M β D) xs u.cells.toList → All2 (VL w M β D) ys v.cells.toList →
    (∀ e, P.underlying t = some e → (aggD e = true → (∃ a, u = .agg a) ∧ ∃ a, v = .agg a) ∧ (aggD e = false → u.oneCell' = true ∧ v.oneCell' = true)) →
    (Op.equalIn d t u v).run P w = .ok r w := by
  intro n
  induction n with
  | zero => intro d t ks xs ys u v r _ hk; simp [eqk] at hk
  | succ n ih =>
    intro d t ks xs ys u v r hd hk hr hx hy hag
    obtain ⟨d, rfl⟩ : ∃ d', d = d' + 1 := ⟨d - 1, by omega⟩
    have leaf : ∀ k, ks = [k] → ∀ e, P.underlying t = some e → aggD e = false →
        ((∃ q, P.underlying t = some (.int q) ∧ k = .i) ∨ (P.underlying t = some .bool ∧ k = .b) ∨ (P.underlying t = some .string ∧ k = .s)) → (Op.equalIn (d + 1) t u v).run P w = .ok r w := by
      intro k hks e he hae hcase
      subst hks
      have hl := leafsEq_len hr
      obtain ⟨x, rfl⟩ : ∃ x, xs = [x] := by
        match xs, hl.1 with
        | [x], _ => exact ⟨x, rfl⟩
      obtain ⟨y, rfl⟩ : ∃ y, ys = [y] := by
        match ys, hl.2 with
        | [y], _ => exact ⟨y, rfl⟩
      have h1 := (hag e he).2 hae
      rw [one_cells h1.1] at hx
      rw [one_cells h1.2] at hy
      obtain ⟨_, h2, hx'⟩ := hx.one_left
      obtain ⟨_, h3, hy'⟩ := hy.one_left
      simp at h2 h3
      subst h2 h3
      rw [leafsEq_cons] at hr
      cases hq : leafEq k x y with
      | none => rw [hq] at hr; simp at hr
      | some b =>
        rw [hq] at hr
        simp [leafsEq] at hr
        subst hr
        exact leafEq_run hcase hq hx' hy'
    rw [eqk] at hk
    split at hk
    · rename_i q he
      exact leaf .i (Option.some.inj hk).symm _ he rfl (.inl ⟨q, he, rfl⟩)
    · rename_i he
      exact leaf .b (Option.some.inj hk).symm _ he rfl (.inr (.inl ⟨he, rfl⟩))
    · rename_i he
      exact leaf .s (Option.some.inj hk).symm _ he rfl (.inr (.inr ⟨he, rfl⟩))
    · rename_i fs he
      split at hk
      · rename_i hst
        obtain ⟨⟨a, rfl⟩, b, rfl⟩ := (hag _ he).1 rfl
        have hfo : P.fieldsOf t = fs := by simp [Program.fieldsOf, he]
        rw [run_equalIn_struct w d t a b (by rw [hfo]; exact he) hst, hfo]
        have key : ∀ (l : List Field) (off : Nat) (ks : List LK) (r : Bool), eqks P (eqk P n) l off = some ks → leafsEq ks (xs.drop off) (ys.drop off) = some r →
            (Op.eqFields d a b l).run P w = .ok r w := by
          intro l
          induction l with
          | nil =>
            intro off ks r hk hr
            simp [eqks] at hk
            subst hk
            have hl := leafsEq_len hr
            have h1 : xs.drop off = [] := List.eq_nil_of_length_eq_zero (by simpa using hl.1)
            have h2 : ys.drop off = [] := List.eq_nil_of_length_eq_zero (by simpa using hl.2)
            rw [h1, h2] at hr
            simp [leafsEq] at hr
            subst hr
            rfl
          | cons f l ihl =>
            intro off ks r hk hr
            simp only [eqks] at hk
            split at hk
            · rename_i hnm
              split at hk
              · rename_i kf hkf
                split at hk
                · rename_i hsz
                  split at hk
                  · rename_i kr hkr
                    obtain rfl := Option.some.inj hk
                    obtain ⟨r1, r2, h1, h2, rfl⟩ := leafsEq_append hr
                    have hlen := leafsEq_len h1
                    rw [List.drop_drop] at h2
                    rw [List.drop_drop] at h2
                    have ih2 := ihl (off + kf.length) kr r2 hkr h2
                    have hx1 := (hx.drop off).take kf.length
                    have hy1 := (hy.drop off).take kf.length
                    have hla := hx1.length
                    have hlb := hy1.length
                    simp only [Value.cells] at hx1 hy1 hla hlb
                    rw [hlen.1] at hla
                    rw [hlen.2] at hlb
                    simp only [Op.eqFields]
                    rw [if_pos hnm.1]
                    have hne : eqk P n f.type ≠ none := by rw [hkf]; simp
                    obtain ⟨e, hfe⟩ : ∃ e, P.underlying f.type = some e := by
                      cases n with
                      | zero => simp [eqk] at hkf
                      | succ n =>
                        cases hu : P.underlying f.type with
                        | some e => exact ⟨e, rfl⟩
                        | none => rw [eqk, hu] at hkf; simp at hkf
                    have hpart : ∀ (c : Array Value) (zs : List LV), All2 (VL w M β D) zs ((c.toList.drop off).take kf.length) → kf.length = ((c.toList.drop off).take kf.length).length →
                        ∃ u, (part f.type c f.offset).run P w = .ok u w ∧ u.cells.toList = ((c.toList.drop off).take kf.length) ∧ (aggD e = true → ∃ a, u = .agg a) ∧ (aggD e = false → u.oneCell' = true) := by
                      intro c zs hz hzl
                      by_cases hae : aggD e = true
                      · refine ⟨_, part_agg hfe hae hsz, ?_, fun _ => ⟨_, rfl⟩, fun h => by rw [h] at hae; cases hae⟩
                        simp [Value.cells, hnm.2, List.extract_eq_take_drop]
                      · have hae' : aggD e = false := by simpa using hae
                        have hk1 : kf.length = 1 := by
                          cases n with
                          | zero => simp [eqk] at hkf
                          | succ n =>
                            rw [eqk, hfe] at hkf
                            cases e <;> simp [aggD] at hae' hkf <;> (try (subst hkf; rfl))
                        rw [hk1] at hzl hz
                        have hlt : off < c.toList.length := by
                          have hzl' := hzl
                          rw [List.length_take, List.length_drop] at hzl'; omega
                        have hg : c[off]? = some c[off] := by simp [Array.getElem?_eq_getElem (by simpa using hlt)]
                        have hlist : (c.toList.drop off).take 1 = [c[off]] := by
                          rw [List.drop_eq_getElem_cons hlt]; simp
                        refine ⟨c[off], part_one hfe hae' (by rw [hnm.2]; exact hg), ?_, (fun h => by rw [h] at hae'; cases hae'), fun _ => ?_⟩
                        · rw [hlist] at hz
                          rw [hk1, hlist]
                          cases hz with | cons h1 _ => rw [one_cells h1.one]
                        · rw [hlist] at hz
                          cases hz with | cons h1 _ => exact h1.one
                    obtain ⟨u, hu1, hu2, hu3, hu4⟩ := hpart a _ hx1 hla
                    obtain ⟨v, hv1, hv2, hv3, hv4⟩ := hpart b _ hy1 hlb
                    have hrun := ih d f.type kf _ _ u v r1 (by omega) hkf h1 (by rw [hu2]; exact hx1) (by rw [hv2]; exact hy1)
                      (fun e' he' => by
                        obtain rfl : e = e' := Option.some.inj (hfe.symm.trans he')
                        exact ⟨fun h => ⟨hu3 h, hv3 h⟩, fun h => ⟨hu4 h, hv4 h⟩⟩)
                    simp only [Sem.run_bind, hu1, hv1, Result.andThen_ok, hrun, Sem.run_ite, Sem.run_pure, ih2]
                    cases r1 <;> simp
                  · cases hk
                · cases hk
              · cases hk
            · cases hk
        exact key fs.toList 0 ks r hk (by simpa using hr)
      · cases hk
    · cases hk
end
end Go.Sy
