/- A verified generator of conditions for this program, and its soundness: part F of the proof. -/
import Derived.Test.YtommmlhllifonaaSyE
namespace Go.Sy
variable {P : Program} {L : Nat → Option Lay} {Γ : Nat → Option Con}

section
variable {X : Cx} {β : Nat → Option Nat} {σ : St} {a : Act} {w : World} {G : List (Nat × Bool)}

theorem mapP_sound (R : Rel X β σ a w) (hG : GOk a G) : ∀ {os : List (Nat × Operand)} {xs : List (Nat × TV)}, mapP (opT G σ) os = some xs →
    All2 (fun (p : Nat × TV) (q : Nat × Value) => p.1 = q.1 ∧ VT w (Mt X.M0 β (look σ.h)) β (dm (look σ.h)) p.2 q.2) xs (os.map fun (i, x) => (i, a.eval x))
  | [], xs, h => by obtain rfl := Option.some.inj h; exact .nil
  | (i, o) :: r, xs, h => by
    simp only [mapP] at h
    split at h
    · rename_i x hx
      split at h
      · rename_i ys hys
        obtain rfl := Option.some.inj h
        exact .cons ⟨rfl, opT_sound R hG hx⟩ (mapP_sound R hG hys)
      · cases h
    · cases h

theorem All2.two_left {α : Type _} {β : Type _} {R : α → β → Prop} {x y : α} {m : List β} (h : All2 R [x, y] m) : ∃ u v, m = [u, v] ∧ R x u ∧ R y v := by
  cases h with | cons h1 h2 => cases h2 with | cons h2 h3 => cases h3; exact ⟨_, _, rfl, h1, h2⟩

theorem foldl_set : ∀ (vs : List Value) (cs : Array Value) (off i : Nat), off + i + vs.length ≤ cs.size →
    ((vs.zipIdx i).foldl (fun cs (c, j) => cs.setIfInBounds (off + j) c) cs).toList = cs.toList.take (off + i) ++ (vs ++ cs.toList.drop (off + i + vs.length))
  | [], cs, off, i, _ => by simp
  | v :: vs, cs, off, i, h => by
    simp only [List.length_cons] at h
    simp only [List.zipIdx_cons, List.foldl_cons]
    rw [foldl_set vs _ off (i + 1) (by simp; omega)]
    have hset : (cs.setIfInBounds (off + i) v).toList = cs.toList.set (off + i) v := by simp
    rw [hset]
    have e1 : off + (i + 1) = (off + i) + 1 := by omega
    have e2 : off + (i + 1) + vs.length = off + i + (vs.length + 1) := by omega
    rw [List.length_cons, e2]
    have hlt : off + i < cs.toList.length := by simp; omega
    have t1 : (cs.toList.set (off + i) v).take (off + (i + 1)) = cs.toList.take (off + i) ++ [v] := by
      rw [e1, List.take_succ_eq_append_getElem (by simp; omega), List.take_set_of_le (Nat.le_refl _)]
      simp
    have t2 : (cs.toList.set (off + i) v).drop (off + i + (vs.length + 1)) = cs.toList.drop (off + i + (vs.length + 1)) := by
      rw [List.drop_set, if_pos (by omega)]
    rw [t1, t2]
    simp

theorem fill_sound {M : CM} {D : Nat → Prop} {fs : List (Nat × Nat)} {place : Nat → Option (Nat × Nat)} (hpl : ∀ (i : Nat) q, fs[i]? = some q → place i = some q) :
    ∀ {parts : List (Nat × TV)} {qs : List (Nat × Value)} {cells cs : List LV} {arr : Array Value}, fill fs cells parts = some cs →
      All2 (fun (p : Nat × TV) (q : Nat × Value) => p.1 = q.1 ∧ VT w M β D p.2 q.2) parts qs → All2 (VL w M β D) cells arr.toList →
      ∃ arr', Instr.fill place arr qs = some arr' ∧ All2 (VL w M β D) cs arr'.toList
  | [], qs, cells, cs, arr, h, hq, hc => by cases hq; obtain rfl := Option.some.inj h; exact ⟨arr, rfl, hc⟩
  | (i, v) :: parts, qs, cells, cs, arr, h, hq, hc => by
    cases hq with
    | @cons _ q _ qs h1 h2 =>
      obtain ⟨j, u⟩ := q
      obtain ⟨rfl, hv⟩ := h1
      simp only [fill] at h
      split at h
      · rename_i off size hf
        split at h
        · rename_i hsz
          split at h
          · rename_i cs' hcs
            have hcells := VT.cells hv
            have hl := hcells.length
            obtain ⟨hle, hnew⟩ := setAt_all2 hc hcells hcs
            have e := foldl_set u.cells.toList arr off 0 (by simpa using hle)
            have hu : u.cells.size = size := by rw [← hsz, hl]; simp
            have hgo : ¬ (u.cells.size ≠ size || off + u.cells.size > arr.size) = true := by
              simp only [ne_eq, decide_not, Bool.or_eq_true, Bool.not_eq_true', decide_eq_false_iff_not, decide_eq_true_eq, not_or]
              exact ⟨fun h => h hu, by simp at hle; omega⟩
            have hx := fill_sound hpl (arr := (u.cells.zipIdx.foldl (fun cs (c, j) => cs.setIfInBounds (off + j) c) arr)) h h2 ?_
            · obtain ⟨arr', g1, g2⟩ := hx
              refine ⟨arr', ?_, g2⟩
              simp only [Instr.fill, hpl i _ hf]
              rw [if_neg hgo]
              exact g1
            · rw [← Array.foldl_toList, Array.toList_zipIdx, e]
              simpa using hnew
          · cases h
        · cases h
      · cases h

theorem run_places {fields : List Field} {fs : List (Nat × Nat)} (h : All2 (fun q (f : Field) => f.offset = q.1 ∧ sizeIs P f.type q.2 ∧ q.2 ≠ 0) fs fields) :
    (fields.mapM fun f => (do pure (f.offset, ← sizeOf f.type) : Sem (Nat × Nat))).run P w = .ok fs w := by
  induction h with
  | nil => simp
  | @cons q f fs fields h1 _ ih =>
    obtain ⟨e1, e2, _⟩ := h1
    simp only [List.mapM_cons, Sem.run_bind, run_sizeOf e2, Result.andThen_ok, Sem.run_pure, ih, e1]

theorem good_build (hL : LOk P L) (R : Rel X β σ a w) (hG : GOk a G) {o : Oper} {t : TypeId} {parts : Array (Nat × Operand)} (ho : o.op = .build t parts) {r : Res} (h : aBuild L G σ t parts.toList = some r) : OpGood P X σ a w o r := by
  unfold aBuild at h
  split at h
  · rename_i y hy
    split at h
    · rename_i ps hps
      split at h
      · rename_i cs hcs
        split at h
        · cases h
        · rename_i hne
          obtain rfl := Option.some.inj h
          obtain ⟨fields, hu, hall⟩ := (hL t y hy).fs (by simpa using hne)
          obtain ⟨z, hz, _, hzz⟩ := (hL t y hy).zero
          have hb : All2 (VL w (Mt X.M0 β (look σ.h)) β (dm (look σ.h))) (wrapD y.zero) z.cells.toList := by
            have := hzz w (Mt X.M0 β (look σ.h))
            clear hz hzz hy hcs
            generalize z.cells.toList = zs at this
            generalize y.zero = ys at this
            induction this with
            | nil => exact .nil
            | cons h1 _ ih => exact .cons (.d h1) ih
          obtain ⟨arr', g1, g2⟩ := fill_sound (place := (y.fs.toArray[·]?)) (fun i q hq => by simpa using hq) hcs (mapP_sound R hG hps) hb
          refine OpGood.pure R (v := .agg arr') ?_ rfl ⟨arr', rfl, g2⟩ (by simp)
          have hpl : (fields.mapM fun f => (do pure (f.offset, ← sizeOf f.type) : Sem (Nat × Nat))).run P w = .ok y.fs.toArray w := by
            have := run_places (w := w) hall
            rw [Array.mapM_eq_mapM_toList, Sem.run_map, this]
            rfl
          have hparts : (parts.map fun (i, x) => (i, a.eval x)).toList = (parts.toList.map fun (i, x) => (i, a.eval x)) := by simp
          simp only [execOp, ho, Sem.run_bind, Instr.build, hz, Result.andThen_ok, run_underlying hu, hpl, hparts, g1, Sem.run_pure]
      · cases h
    · cases h
  · cases h

theorem good_builtin (hL : LOk P L) (R : Rel X β σ a w) (hG : GOk a G) {o : Oper} {b : Builtin} {args : Array Operand} {ts : Array TypeId} (ho : o.op = .call { callee := .builtin b, args := args, argTypes := ts })
    {r : Res} (h : aBuiltin L G σ b ts.toList args.toList = some r) : OpGood P X σ a w o r := by
  unfold aBuiltin at h
  split at h
  · rename_i xs hxs
    have hall := mapT_sound R hG hxs
    have hargs : (args.map a.eval).toList = args.toList.map a.eval := by simp
    rw [← hargs] at hall
    generalize hvs : args.map a.eval = vs at *
    unfold builtinA at h
    split at h
    · rename_i t α d0 sz l enc hts
      split at h
      · rename_i y hy
        split at h
        · rename_i s hel
          obtain rfl := Option.some.inj h
          obtain ⟨e, hu, _, _⟩ := (hL t y hy).el s hel
          obtain ⟨v, hv, hx⟩ := hall.one_left
          have hvs' : vs = #[v] := by
            rw [← Array.toArray_toList (xs := vs), hv]
          have hts' : ts = #[t] := by
            rw [← Array.toArray_toList (xs := ts), hts]
          cases hx with
          | d hx =>
            have hlen : ∃ ad c, v = .slice ad l.length c ∧ l.length ≤ maxLen := by
              cases hx with
              | nil => exact ⟨none, 0, rfl, Nat.zero_le _⟩
              | sl _ _ hcap hmax => exact ⟨_, _, rfl, Nat.le_trans hcap hmax⟩
            obtain ⟨ad, c, rfl, hle⟩ := hlen
            refine OpGood.pure R (v := .int .i64 l.length) ?_ rfl (VT.lit rfl) ?_
            · simp [execOp, ho, resolve, invoke, builtin, hvs, hvs', hts', Builtin.len_, run_underlying hu, goInt]
            · intro p hp
              simp only [List.mem_singleton] at hp
              rw [hp]
              unfold maxLen at hle
              omega
        · cases h
      · cases h
    · rename_i k x k' y
      obtain rfl := Option.some.inj h
      obtain ⟨u, v, hv, hx, hy⟩ := hall.two_left
      have hvs' : vs = #[u, v] := by rw [← Array.toArray_toList (xs := vs), hv]
      rw [VT.int hx, VT.int hy] at hvs'
      refine OpGood.pure R (v := .int k (if y > x then y else x)) ?_ rfl (VT.lit rfl) (by simp)
      simp [execOp, ho, resolve, invoke, builtin, hvs, hvs', run_max_int2]
    · rename_i k x k' y
      obtain rfl := Option.some.inj h
      obtain ⟨u, v, hv, hx, hy⟩ := hall.two_left
      have hvs' : vs = #[u, v] := by rw [← Array.toArray_toList (xs := vs), hv]
      rw [VT.int hx, VT.int hy] at hvs'
      refine OpGood.pure R (v := .int k (if y < x then y else x)) ?_ rfl (VT.lit rfl) (by simp)
      simp [execOp, ho, resolve, invoke, builtin, hvs, hvs', run_min_int2]
    · cases h
  · cases h

/-! a function's contract, and what it says of the function -/
def upd (hp : Nat → Option HO) (up : List (Nat × HO)) (n : Nat) : Option HO := match look up.reverse n with | some x => some x | none => hp n

structure FnPost (M0 : CM) (hp hp' : Nat → Option HO) (β : Nat → Option Nat) (r : AV) (w w' : World) (v : Value) : Prop where
  ex : ∃ β', (∀ n, hp n ≠ none → β' n = β n) ∧ HR M0 β' hp' w' ∧ VA w' (Mt M0 β' hp') β' (dm hp') r v ∧
    (∀ n k, hp' n ≠ none → β' n = some k → hp n ≠ none ∨ w.heap.size ≤ k) ∧ Evo (Mt M0 β hp) (Mt M0 β' hp') w w'
  fr : Fr (fun k => ∃ n, hp n ≠ none ∧ β n = some k) w w'

structure FnOk (P : Program) (f : FuncId) (con : Con) : Prop where
  enter : ∀ (args : Array Value) (w : World), (callFunc f args).run P w = .ok (.enter f args) w
  call : ∀ (args : List TV) (hp : Nat → Option HO) (fr : Nat) (cs : List Prop) (r : AV) (up : List (Nat × HO)), con args hp fr = some (cs, r, up) → (∀ c ∈ cs, c) →
    ∀ (w : World) (M0 : CM) (β : Nat → Option Nat) (vals : List Value), HR M0 β hp w → All2 (VT w (Mt M0 β hp) β (dm hp)) args vals →
      Calls P f vals.toArray w fun e w' => ∃ v, e = .returned v ∧ FnPost M0 hp (upd hp up) β r w w' v
  dom : ∀ (args : List TV) (hp : Nat → Option HO) (fr : Nat) (cs : List Prop) (r : AV) (up : List (Nat × HO)), con args hp fr = some (cs, r, up) → True

def ConOk (P : Program) (Γ : Nat → Option Con) : Prop := ∀ f con, Γ f = some con → FnOk P f con

theorem look_upds_upd (up h : List (Nat × HO)) : look (upds up h) = upd (look h) up := by
  funext k
  rw [look_upds]
  rfl

/-- a fence that lets all in -/
structure Wide (F : Fence) : Prop where
  fn : ∀ f, F.fn f
  dp : F.depth = none
  al : F.alive = false
theorem callsIn_of_calls {F : Fence} (hF : Wide F) {n : Nat} {f : FuncId} {args : Array Value} {w : World} {R : Ending → World → Prop} (h : Calls P f args w R) : CallsIn F n P f args w R := by
  have h0 : CallsIn Fence.wide n P f args w R := callsIn_wide.2 h
  obtain ⟨_, h0⟩ := h0
  refine ⟨hF.fn f, fun cs hr => ?_⟩
  obtain ⟨e, w', fr, h1, h2, h3, h4⟩ := h0 cs (room_wide _)
  refine ⟨e, w', fr, h1, ?_, h3, h4⟩
  have hI : Machine.fenced P F = Machine.fenced P Fence.wide := by
    funext m
    unfold Machine.fenced Fence.room
    simp only [hF.dp, hF.al, Fence.wide]
    simp [hF.fn]
  rw [hI]
  exact h2

theorem ptrs_sound {M : CM} {D : Nat → Prop} : ∀ {ps : List (Nat × Nat)} {vs : List Value}, All2 (PV β D) ps vs → All2 (VT w M β D) (ptrs ps) vs
  | [], _, h => by cases h; exact .nil
  | (n, o) :: r, _, h => by cases h with | cons h1 h2 => exact .cons (VL.ptr h1) (ptrs_sound h2)

theorem semAt_call {F : Fence} {ρ : Operand → Value} {o : Oper} {c : Call} (ho : o.op = .call c) : o.semAt F.round ρ = execOp ρ o :=
  Oper.semAt_eq _ _ _ (fun c' h => by rw [ho] at h; cases h)

/-- a call by its contract -/
theorem good_call {F : Fence} (hF : Wide F) {n : Nat} (hΓ : ConOk P Γ) (R : Rel X β σ a w) (hG : GOk a G) {o : Oper} {f : Operand} {args : Array Operand} {ts : Array TypeId} (ho : o.op = .call { callee := .value f, args := args, argTypes := ts }) {fr : Nat}
    {r : Res} (h : aCall Γ G σ f args.toList fr = some r) (hc : ∀ c ∈ r.c, c) {next : Act → World → Prop} {Q : Exit → Act → World → Prop}
    (hn : ∀ v w' β', Rel X β' { σ with h := upds r.h σ.h } a w' → VA w' (Mt X.M0 β' (look (upds r.h σ.h))) β' (dm (look (upds r.h σ.h))) r.v v → next (a.put o.dst v) w') :
    r.f = [] ∧ o.wpIn F n P a w next Q := by
  unfold aCall at h
  split at h
  · rename_i xs fid fi ca hxs hf
    split at h
    · rename_i con hcon
      split at h
      · rename_i cs rv up hr
        obtain rfl := Option.some.inj h
        refine ⟨rfl, fun _ _ => hF.fn _, ?_⟩
        have hfv := opT_sound R hG hf
        generalize hev : a.eval f = fv at hfv
        cases hfv with
        | @clo _ _ _ vf vc h1 h2 =>
          have hok := hΓ fid con hcon
          have hall := (ptrs_sound (w := w) (M := Mt X.M0 β (look σ.h)) h1).append ((mapT_sound R hG hxs).append (ptrs_sound (w := w) (M := Mt X.M0 β (look σ.h)) h2))
          have hcall := hok.call _ _ _ _ _ _ hr hc w X.M0 β _ R.hr hall
          rw [semAt_call ho]
          have hrun : (execOp a.eval o).run P w = .ok (.enter fid (vf ++ (args.toList.map a.eval ++ vc)).toArray) w := by
            have ha : vf.toArray ++ args.map a.eval ++ vc.toArray = (vf ++ (args.toList.map a.eval ++ vc)).toArray := by
              apply Array.ext'
              simp
            simp only [execOp, ho, resolve, hev, Deferred.ofValue, Sem.run_bind, Sem.run_pure, Result.andThen_ok, invoke, ha, hok.enter]
          rw [hrun]
          refine ⟨(fun h => by rw [hF.dp] at h; cases h), callsIn_of_calls hF (hcall.mono ?_)⟩
          rintro e w' ⟨v, rfl, hpost⟩
          obtain ⟨β', hb, hhr, hva, hown, hevo⟩ := hpost.ex
          have hl := look_upds_upd up σ.h
          rw [← hl] at hhr hva hown hevo
          have hbe : BEvo β β' (dm (look σ.h)) (dm (look (upds up σ.h))) := ⟨fun m hm => by
            unfold dm at hm ⊢
            rw [look_upds]
            split
            · simp
            · exact hm, hb⟩
          refine hn v w' β' (R.evo hevo hbe ?_ ?_ hhr) hva
          · exact R.fr.trans hpost.fr (fun k hk hB => ⟨hB, fun ⟨m, hm, hmk⟩ => by
              rcases R.own m k hm hmk with h | h
              · exact hB h
              · exact absurd hk (Nat.not_lt.2 h)⟩)
          · intro m k hm hk
            rcases hown m k hm hk with h | h
            · exact R.own m k h (by rw [← hb m h]; exact hk)
            · exact .inr (Nat.le_trans R.fr.size h)
      · cases h
    · cases h
  · cases h
end
end Go.Sy
