/- A verified generator of conditions for this program, and its soundness: part 4 of the proof. -/
import Derived.Test.YtdkggjgmlccjcaaSyP
import Derived.KernelRfl
import Derived.OrdersIn
import Derived.ProofKit
namespace Go.Sy
variable {P : Program}

/-! layouts out of closed facts -/
theorem sk0 {t : TypeId} : SkOk P t 0 := ⟨fun h => (by cases h), fun h => (by cases h), fun h => by cases h⟩
theorem sk1 {t : TypeId} (h : P.underlying t = some .string) : SkOk P t 1 := ⟨fun _ => h, fun h => (by cases h), fun h => by cases h⟩
theorem sk2 {t : TypeId} (e : Nat) (h : P.underlying t = some (.slice e)) (h' : P.underlying e = some (.int .u8)) : SkOk P t 2 := ⟨fun h => (by cases h), fun _ => ⟨e, h, h'⟩, fun h => by cases h⟩
theorem sk3 {t : TypeId} (e : Nat) (h : P.underlying t = some (.slice e)) (h' : P.underlying e = some (.int .i32)) : SkOk P t 3 := ⟨fun h => (by cases h), fun h => (by cases h), fun _ => ⟨e, h, h'⟩⟩
theorem laySk {t : TypeId} {y : Lay} (n : Nat) (k : LayOk P t y) (h : SkOk P t n) : LayOk P t { y with sk := n } :=
 ⟨k.agg, k.one, k.size, k.zero, k.fs, k.el, k.ety, k.kind, k.eqs, h, k.mpt, k.fmt, k.ars⟩
theorem run_zero {t : TypeId} {n : Nat} {z : Value} (h : (P.info? t).map (fun i => (i.size, i.zero)) = some (n, some z)) (w : World) : (zeroValue t).run P w = .ok z w := by
 cases hi : P.info? t with
 | none => rw [hi] at h; cases h
 | some i =>
  rw [hi] at h
  simp at h
  simp [zeroValue, typeInfo, hi, h.2]
theorem size_of_zero {t : TypeId} {n : Nat} {z : Value} (h : (P.info? t).map (fun i => (i.size, i.zero)) = some (n, some z)) : sizeIs P t n := by
 unfold sizeIs
 cases hi : P.info? t with
 | none => rw [hi] at h; cases h
 | some i => rw [hi] at h; simp at h; simp [h.1]

theorem layOne {t : TypeId} {d : TypeDesc} {z : Value} {dv : DV} {k : Option IntKind} (hu : P.underlying t = some d) (ha : aggD d = false) (hi : (P.info? t).map (fun i => (i.size, i.zero)) = some (1, some z))
  (hz : ∀ w M, VD w M dv z) (hk : ∀ q, k = some q → d = .int q) : LayOk P t { zero := [dv], kind := k } where
 agg := fun w => by rw [isAgg_run hu, ha]
 one := fun _ => rfl
 size := size_of_zero hi
 zero := ⟨z, run_zero hi, (by intro h; cases h), fun w M => by rw [one_cells (hz w M).one]; exact .cons (hz w M) .nil⟩
 fs := fun h => absurd rfl h
 el := fun s h => by cases h
 ety := fun _ _ _ h => by cases h
 kind := fun q h => by rw [hu, hk q h]
 eqs := fun ks h => by cases h
 sk := sk0
 mpt := fun _ _ h => by cases h
 fmt := fun _ h => by cases h
 ars := fun _ _ _ h => by cases h
theorem layInt {t : TypeId} (k : IntKind) (hu : P.underlying t = some (.int k)) (hi : (P.info? t).map (fun i => (i.size, i.zero)) = some (1, some (.int k 0))) : LayOk P t { zero := [.lit (.int k 0)], kind := some k } :=
 layOne hu rfl hi (fun _ _ => .lit rfl) (fun q h => by injection h with h; rw [h])
theorem layBool {t : TypeId} (hg : P.eqGuardType P.depth t = false) (hu : P.underlying t = some .bool) (hi : (P.info? t).map (fun i => (i.size, i.zero)) = some (1, some (.bool false))) : LayOk P t { zero := [.lit (.bool false)], eqs := some [.b] } :=
 { layOne (dv := .lit (.bool false)) (k := none) hu rfl hi (fun _ _ => .lit rfl) (fun q h => by cases h) with
  eqs := fun ks h => by injection h with h; subst h; exact ⟨by simp [eqk, hu], hg⟩ }
theorem layStr {t : TypeId} (hu : P.underlying t = some .string) (hi : (P.info? t).map (fun i => (i.size, i.zero)) = some (1, some (.string ByteArray.empty))) : LayOk P t { zero := [.lit (.string ByteArray.empty)] } :=
 layOne hu rfl hi (fun _ _ => .lit rfl) (fun q h => by cases h)
theorem layFn {t : TypeId} {d : TypeDesc} (hu : P.underlying t = some d) (ha : aggD d = false) (hi : (P.info? t).map (fun i => (i.size, i.zero)) = some (1, some .nilFunc)) : LayOk P t { zero := [.lit .nilFunc] } :=
 layOne hu ha hi (fun _ _ => .lit rfl) (fun q h => by cases h)
theorem laySlice {t : TypeId} (e : Nat) (τ : Ty) (bytes : Nat) (hu : P.underlying t = some (.slice e)) (hi : (P.info? t).map (fun i => (i.size, i.zero)) = some (1, some (.slice none 0 0)))
  (hs : (P.info? e).map (fun i => (i.size, i.bytes, i.zero.map (·.cells.size))) = some (τ.size, bytes, some τ.size)) (h0 : 0 < τ.size) (hb : 0 < bytes) :
  LayOk P t { zero := [.sl τ []], el := some τ.size, ety := some (τ, e, bytes) } := by
 obtain ⟨i, z, h1, h2, h3, h4, h5⟩ : ∃ i z, P.info? e = some i ∧ i.size = τ.size ∧ i.bytes = bytes ∧ i.zero = some z ∧ z.cells.size = τ.size := by
  cases hx : P.info? e with
  | none => rw [hx] at hs; cases hs
  | some i =>
   rw [hx] at hs
   simp only [Option.map_some, Option.some.injEq, Prod.mk.injEq] at hs
   cases hz : i.zero with
   | none => rw [hz] at hs; cases hs.2.2
   | some z => rw [hz] at hs; exact ⟨i, z, rfl, hs.1, hs.2.1, hz, by simpa using hs.2.2⟩
 exact { layOne (dv := .sl τ []) (k := none) hu rfl hi (fun _ _ => .nil) (fun q h => by cases h) with
  el := fun s' h => by
   injection h with h; subst h
   exact ⟨e, hu, by unfold sizeIs; simp [h1, h2], Nat.ne_of_gt h0, z, fun w => by simp [zeroValue, typeInfo, h1, h4]⟩
  ety := fun τ' e' b' h => by
   injection h with h; injection h with g1 g2; injection g2 with g2 g3
   subst g1 g2 g3
   exact ⟨hu, h0, run_zero hi, hb, i, z, h1, h2, h3, h4, h5⟩ }

def dv0 (ν : Ty) : List DV := (List.range ν.size).map (ν.enc ν.d0)
def zv : DV → Option Value
 | .lit v => if v.oneCell' then some v else none
 | .sl _ l => if l.isEmpty then some (.slice none 0 0) else none
def zvs : List DV → Option (List Value)
 | [] => some []
 | x :: r => match zv x, zvs r with
  | some v, some l => some (v :: l)
  | _, _ => none
theorem zvs_sound {w : World} {M : CM} : ∀ {l : List DV} {vs : List Value}, zvs l = some vs → All2 (VD w M) l vs
 | [], vs, h => by injection h with h; subst h; exact .nil
 | x :: r, vs, h => by
  simp only [zvs] at h
  split at h
  ·rename_i v l hv hl
   injection h with h; subst h
   refine .cons ?_ (zvs_sound hl)
   unfold zv at hv
   split at hv
   ·split at hv
    ·rename_i ho; injection hv with hv; subst hv; exact .lit ho
    ·cases hv
   ·rename_i τ l
    split at hv
    ·rename_i ho
     injection hv with hv; subst hv
     rw [List.isEmpty_iff.1 ho]
     exact .nil
    ·cases hv
  ·cases h

theorem all2_fs : ∀ {fs : List (Nat × Nat)} {l : List Field}, l.map (fun f => (f.offset, (P.info? f.type).map (·.size))) = fs.map (fun q => (q.1, some q.2)) → fs.all (fun q => q.2 != 0) = true →
  All2 (fun q (f : Field) => f.offset = q.1 ∧ sizeIs P f.type q.2 ∧ q.2 ≠ 0) fs l
 | [], [], _, _ => .nil
 | [], _ :: _, h, _ => by simp at h
 | _ :: _, [], h, _ => by simp at h
 | q :: fs, f :: l, h, h0 => by
  simp only [List.map_cons, List.cons.injEq, Prod.mk.injEq] at h
  simp only [List.all_cons, Bool.and_eq_true, bne_iff_ne] at h0
  exact .cons ⟨h.1.1, h.1.2, h0.1⟩ (all2_fs h.2 h0.2)

theorem layStruct {t : TypeId} {size : Nat} {zero : List DV} {fs : List (Nat × Nat)} {eqs : Option (List LK)} {zs : List Value} {cv : List (Nat × (Ty × (Nat × Bool)))} {cz : List (Nat × Ty)} (hu : P.underlying t = some (.struct (P.fieldsOf t))) (hz : zvs zero = some zs)
  (hi : (P.info? t).map (fun i => (i.size, i.zero)) = some (size, some (.agg zs.toArray)))
  (hf : (P.fieldsOf t).toList.map (fun f => (f.offset, (P.info? f.type).map (·.size))) = fs.map (fun q => (q.1, some q.2))) (h0 : fs.all (fun q => q.2 != 0) = true)
  (he : ∀ ks, eqs = some ks → eqk P 20 t = some ks ∧ P.eqGuardType P.depth t = false) : LayOk P t { size := size, agg := true, zero := zero, fs := fs, eqs := eqs, cv := cv, cz := cz } where
 agg := fun w => isAgg_run hu w
 one := fun h => by cases h
 size := size_of_zero hi
 zero := ⟨_, run_zero hi, fun _ => ⟨_, rfl⟩, fun w M => by simpa [Value.cells] using zvs_sound hz⟩
 fs := fun _ => ⟨_, hu, all2_fs hf h0⟩
 el := fun s h => by cases h
 ety := fun _ _ _ h => by cases h
 kind := fun q h => by cases h
 eqs := he
 sk := sk0
 mpt := fun _ _ h => by cases h
 fmt := fun _ h => by cases h
 ars := fun _ _ _ h => by cases h

theorem layMap {t : TypeId} (kt et : Nat) (κ ν : Ty) (z : Value) (hu : P.underlying t = some (.map kt et)) (hi : (P.info? t).map (fun i => (i.size, i.zero)) = some (1, some (.map none)))
  (hc : κ.cmp = true) (hk : (P.underlying kt).map aggD = some κ.ag) (hks : eqk P 20 kt = some κ.lks) (hz : (P.info? et).map (fun i => (i.size, i.zero)) = some (ν.size, some z))
  (hzv : zvs (dv0 ν) = some z.cells.toList) (hza : ν.ag = true → ∃ arr, z = .agg arr) (hzo : ν.ag = false → z.oneCell' = true) :
  LayOk P t { zero := [.lit (.map none)], mpt := some (κ, ν) } :=
 { layOne (dv := .lit (.map none)) (k := none) hu rfl hi (fun _ _ => .lit rfl) (fun q h => by cases h) with
  sk := sk0
  mpt := fun κ' ν' h => by
   injection h with h; injection h with g1 g2
   subst g1 g2
   refine ⟨kt, et, z, hu, ⟨hc, fun e he => ?_, hks⟩, run_zero hz, fun w M => ?_⟩
   ·rw [he] at hk; injection hk
   ·have hall := zvs_sound (w := w) (M := M) hzv
    refine ⟨hza, hzo, ?_, fun j x hx => ?_⟩
    ·have := hall.length
     rw [← this]; simp [dv0]
    ·obtain ⟨a, ha, hr⟩ := hall.get_right hx
     unfold dv0 at ha
     rw [List.getElem?_map] at ha
     cases hr' : (List.range ν.size)[j]? with
     | none => rw [hr'] at ha; cases ha
     | some i =>
      rw [hr'] at ha
      obtain ⟨hlt, hi⟩ := List.getElem?_eq_some_iff.1 hr'
      simp at hi
      subst hi
      injection ha with ha
      rw [ha]; exact hr }

theorem look_ok {l : List (Nat × Lay)} (h : ∀ q ∈ l, LayOk P q.1 q.2) : LOk P (look l) := fun t y hy => h (t, y) (look_mem hy)
theorem look_con {l : List (Nat × Con)} (h : ∀ q ∈ l, FnOk P q.1 q.2) : ConOk P (look l) := fun f con hc => h (f, con) (look_mem hc)

theorem enters {f : FuncId} {fn : Func} {c : Code} (hf : P.funcs[f]? = some fn) (hb : fn.body = some c) (hn : (fn.name == "runtime.NumGoroutine") = false) (args : Array Value) (w : World) : (callFunc f args).run P w = .ok (.enter f args) w := by
 simp [callFunc, hf, hb]
 simpa using hn

theorem castH {v : VC} {p : Prop} (h : v.holds = p) (hp : p) : v.holds := h ▸ hp

theorem noDraw {L : Nat → Option Lay} {Γ : Nat → Option Con} {F : Fence} {n : Nat} {X : Cx} : DrawOk P L Γ F n X (fun _ _ => false) := fun _ _ _ _ _ _ _ _ _ _ h => by cases h
theorem wrapD_all {w : World} {M : CM} {β : Bt} {D : Nat → Prop} : ∀ {l : List DV} {vs : List Value}, All2 (VD w M) l vs → All2 (VL w M β D) (wrapD l) vs
 | _, _, .nil => .nil
 | _, _, .cons h1 h2 => .cons (.d h1) (wrapD_all h2)
theorem layFm {t : TypeId} (kt et n : Nat) (z : Bool × List DV) (v : Value) (hu : P.underlying t = some (.map kt et)) (hi : (P.info? t).map (fun i => (i.size, i.zero)) = some (1, some (.map none)))
  (hk : (P.underlying kt).map aggD = some false) (hks : eqk P 20 kt = some [.i]) (hz : (P.info? et).map (fun i => (i.size, i.zero)) = some (n, some v))
  (hzv : zvs z.2 = some v.cells.toList) (hza : z.1 = true → ∃ arr, v = .agg arr) (hzo : z.1 = false → v.oneCell' = true ∧ ∃ x, z.2 = [x]) :
  LayOk P t { zero := [.lit (.map none)], fmt := some z } :=
 { layOne (dv := .lit (.map none)) (k := none) hu rfl hi (fun _ _ => .lit rfl) (fun q h => by cases h) with
  sk := sk0
  fmt := fun z' h => by
   injection h with h; subst h
   refine ⟨kt, et, v, hu, ⟨rfl, fun e he => ?_, hks⟩, run_zero hz, fun w M β D => ?_⟩
   ·rw [he] at hk; injection hk
   ·have hall := zvs_sound (w := w) (M := M) hzv
    obtain ⟨q, xs⟩ := z
    cases q with
    | true =>
     obtain ⟨arr, rfl⟩ := hza rfl
     exact ⟨arr, rfl, wrapD_all hall⟩
    | false =>
     obtain ⟨ho, x, hx⟩ := hzo rfl
     simp only at hx
     subst hx
     simp only at hall
     rw [one_cells ho] at hall
     cases hall with
     | cons h1 _ => exact .d h1 }
theorem layArr {t : TypeId} {size : Nat} {zero : List DV} {n e s : Nat} {zs : List Value} (hu : P.underlying t = some (.array n e)) (hz : zvs zero = some zs)
  (hi : (P.info? t).map (fun i => (i.size, i.zero)) = some (size, some (.agg zs.toArray))) (he : (P.info? e).map (·.size) = some s) : LayOk P t { size := size, agg := true, zero := zero, ars := some (n, e, s) } where
 agg := fun w => isAgg_run hu w
 one := fun h => by cases h
 size := size_of_zero hi
 zero := ⟨_, run_zero hi, fun _ => ⟨_, rfl⟩, fun w M => zvs_sound hz⟩
 fs := fun h => absurd rfl h
 el := fun s h => by cases h
 ety := fun _ _ _ h => by cases h
 kind := fun q h => by cases h
 eqs := fun _ h => by cases h
 sk := sk0
 mpt := fun _ _ h => by cases h
 fmt := fun _ h => by cases h
 ars := fun n' e' s' h => by
  injection h with h; injection h with h1 h; injection h with h2 h3
  subst h1 h2 h3
  exact ⟨hu, he⟩
end Go.Sy
namespace Go.Sy
variable {P : Program} {L : Nat → Option Lay} {Γ : Nat → Option Con} {F : Fence} {n : Nat}

/-! names in a callee's state and in its caller's -/
def rnP (ρ : Nat → Nat) (q : Nat × Nat) : Nat × Nat := (ρ q.1, q.2)
def rnL (ρ : Nat → Nat) : LV → LV
 | .d x => .d x
 | .ptr n o => .ptr (ρ n) o
 | .dptr k c => .dptr k c
 | .clo f a b => .clo f (a.map (rnP ρ)) (b.map (rnP ρ))
 | .own n x => .own (ρ n) x
 | .mp n => .mp (ρ n)
 | .yl n => .yl (ρ n)
 | .vr n k => .vr (ρ n) k
 | .vp n k sz i off wd => .vp (ρ n) k sz i off wd
 | .nn q x => .nn q x
 | .kn v => .kn v
def rnT (ρ : Nat → Nat) : TV → TV
 | .one x => .one (rnL ρ x)
 | .agg xs => .agg (xs.map (rnL ρ))
def rnA (ρ : Nat → Nat) : AV → AV
 | .t x => .t (rnT ρ x)
 | .tup xs => .tup (xs.map (rnT ρ))
 | .nx b p c => .nx b p c
def rnH (ρ : Nat → Nat) : HO → HO
 | .cells b => .cells (b.map (rnL ρ))
 | .gr e a b => .gr e a b
 | .mp κ ν l => .mp κ ν l
 | .ob sg h g => .ob sg h g
 | .vec τ e l => .vec τ e l
 | .frz τ e l => .frz τ e l
 | .it q p => .it q p
 | .dead n => .dead n
 | .vh τ e l j off b m => .vh τ e l j off (ρ b) m
 | .fm l => .fm (l.map fun p => (p.1, rnT ρ p.2))
def rn (bs : List (Nat × Nat)) (n : Nat) : Nat := (look bs n).getD n

section
variable {w : World} {M M' : CM} {β β' : Bt} {D D' : Nat → Prop} {ρ : Nat → Nat}

structure In (M M' : CM) (β β' : Bt) (D' : Nat → Prop) (ρ : Nat → Nat) (w : World) : Prop where
 m : ∀ k off, k < w.heap.size → ¬ M k off → ¬ M' k off
 b : ∀ n, D' n → β' n = β (ρ n) ∧ β'.o n = β.o (ρ n) ∧ β'.ym n = β.ym (ρ n) ∧ β'.yj n = β.yj (ρ n)
 pr : β'.pr = β.pr

theorem In.evo (i : In M M' β β' D' ρ w) : Evo M M' w w := ⟨Nat.le_refl _, fun _ _ _ => rfl, fun k off hk h => i.m k off hk h, fun _ _ _ => rfl, rfl, rfl, rfl⟩
theorem PV.in_ (i : In M M' β β' D' ρ w) {q : Nat × Nat} {v : Value} (h : PV β D (rnP ρ q) v) (hd : D' q.1) : PV β' D' q v := by
 obtain ⟨k, _, h0, h2, h3⟩ := h
 exact ⟨k, hd, (i.b _ hd).2.1.trans h0, (i.b _ hd).1.trans h2, h3⟩
theorem PVs.in_ (i : In M M' β β' D' ρ w) : ∀ {ps : List (Nat × Nat)} {vs : List Value}, All2 (PV β D) (ps.map (rnP ρ)) vs → (∀ q ∈ ps, D' q.1) → All2 (PV β' D') ps vs
 | [], vs, h, _ => by cases h; exact .nil
 | q :: ps, vs, h, hd => by
  cases h with
  | cons h1 h2 => exact .cons (h1.in_ i (hd q (List.mem_cons_self ..))) (PVs.in_ i h2 fun q hq => hd q (List.mem_cons_of_mem _ hq))

theorem ptrsOk_mem {h : List (Nat × HO)} : ∀ {ps : List (Nat × Nat)}, ptrsOk h ps = true → ∀ q ∈ ps, dm (look h) q.1
 | q :: ps, hp, r, hr => by
  simp only [ptrsOk, Bool.and_eq_true] at hp
  rcases List.mem_cons.1 hr with e | hr
  ·rw [e]; exact ptrOk_iff.1 hp.1
  ·exact ptrsOk_mem hp.2 r hr

theorem VL.in_ {h : List (Nat × HO)} (i : In M M' β β' (dm (look h)) ρ w) {x : LV} {v : Value} (hv : VL w M β D (rnL ρ x) v) (hd : lvOk h x = true) : VL w M' β' (dm (look h)) x v := by
 cases x with
 | d x => cases hv with | d hv => exact .d (hv.evo i.evo)
 | ptr n o => cases hv with | ptr hv => exact .ptr (PV.in_ (q := (n, o)) i hv (ptrOk_iff.1 hd))
 | dptr k c => cases hv with | dptr vs hb hM hc hv => exact .dptr vs hb (fun j hj => i.m _ _ hb (hM j hj)) hc (fun j hj => (hv j hj).evo i.evo)
 | clo f a b =>
  simp only [lvOk, Bool.and_eq_true] at hd
  cases hv with
  | clo h1 h2 => exact .clo (PVs.in_ i h1 (ptrsOk_mem hd.1)) (PVs.in_ i h2 (ptrsOk_mem hd.2))
 | own n x =>
  cases hv with
  | own h ho =>
   have hn := ptrOk_iff.1 hd
   obtain ⟨_, u, h1, h2⟩ := ho
   exact .own (h.evo i.evo) ⟨hn, u, (i.b _ hn).2.1.trans h1, h2⟩
 | mp n =>
  cases hv with
  | mp h1 h2 h3 =>
   have hn := ptrOk_iff.1 hd
   exact .mp hn ((i.b _ hn).2.1.trans h2) ((i.b _ hn).1.trans h3)
 | yl n =>
  cases hv with
  | yl h1 h2 h3 =>
   have hn := ptrOk_iff.1 hd
   exact .yl hn ((i.b _ hn).2.1.trans h2) ((i.b _ hn).1.trans h3)
 | vr n k =>
  cases hv with
  | vr hs hk ho =>
   have hn := ptrOk_iff.1 hd
   exact .vr hs hk (ho.to hn (i.b _ hn).2.1)
 | vp n k sz j off wd =>
  cases hv with
  | vp ho =>
   have hn := ptrOk_iff.1 hd
   exact .vp (ho.to hn (i.b _ hn).2.1)
 | nn q x => cases hv with | nn h hs => exact .nn (h.evo i.evo) hs
 | kn v => cases hv with | kn => exact .kn
theorem VLs.in_ {h : List (Nat × HO)} (i : In M M' β β' (dm (look h)) ρ w) : ∀ {xs : List LV} {vs : List Value}, All2 (VL w M β D) (xs.map (rnL ρ)) vs → lvsOk h xs = true → All2 (VL w M' β' (dm (look h))) xs vs
 | [], vs, h, _ => by cases h; exact .nil
 | x :: xs, vs, h, hd => by
  simp only [lvsOk, Bool.and_eq_true] at hd
  cases h with
  | cons h1 h2 => exact .cons (h1.in_ i hd.1) (VLs.in_ i h2 hd.2)
theorem VT.in_ {h : List (Nat × HO)} (i : In M M' β β' (dm (look h)) ρ w) {x : TV} {v : Value} (hv : VT w M β D (rnT ρ x) v) (hd : tvOk h x = true) : VT w M' β' (dm (look h)) x v := by
 cases x with
 | one x => exact VL.in_ i hv hd
 | agg xs => obtain ⟨arr, rfl, hv⟩ := hv; exact ⟨arr, rfl, VLs.in_ i hv hd⟩
theorem VTs.in_ {h : List (Nat × HO)} (i : In M M' β β' (dm (look h)) ρ w) : ∀ {xs : List TV} {vs : List Value}, All2 (VT w M β D) (xs.map (rnT ρ)) vs → tvsOk h xs = true → All2 (VT w M' β' (dm (look h))) xs vs
 | [], vs, h, _ => by cases h; exact .nil
 | x :: xs, vs, h, hd => by
  simp only [tvsOk, Bool.and_eq_true] at hd
  cases h with
  | cons h1 h2 => exact .cons (VT.in_ i h1 hd.1) (VTs.in_ i h2 hd.2)

structure Out (M M' : CM) (β β' : Bt) (D D' : Nat → Prop) (ρ : Nat → Nat) (w : World) : Prop where
 m : ∀ k off, k < w.heap.size → ¬ M k off → ¬ M' k off
 b : ∀ n, D n → β' (ρ n) = β n ∧ β'.o (ρ n) = β.o n ∧ β'.ym (ρ n) = β.ym n ∧ β'.yj (ρ n) = β.yj n
 pr : β'.pr = β.pr
 d : ∀ n, D n → D' (ρ n)
theorem Out.evo (i : Out M M' β β' D D' ρ w) : Evo M M' w w := ⟨Nat.le_refl _, fun _ _ _ => rfl, fun k off hk h => i.m k off hk h, fun _ _ _ => rfl, rfl, rfl, rfl⟩
theorem PV.out (i : Out M M' β β' D D' ρ w) {q : Nat × Nat} {v : Value} (h : PV β D q v) : PV β' D' (rnP ρ q) v := by
 obtain ⟨k, h1, h0, h2, h3⟩ := h
 exact ⟨k, i.d _ h1, (i.b _ h1).2.1.trans h0, (i.b _ h1).1.trans h2, h3⟩
theorem PVs.out (i : Out M M' β β' D D' ρ w) {ps : List (Nat × Nat)} {vs : List Value} (h : All2 (PV β D) ps vs) : All2 (PV β' D') (ps.map (rnP ρ)) vs := by
 induction h with
 | nil => exact .nil
 | cons h1 _ ih => exact .cons (h1.out i) ih
theorem VL.out (i : Out M M' β β' D D' ρ w) {x : LV} {v : Value} (hv : VL w M β D x v) : VL w M' β' D' (rnL ρ x) v := by
 cases hv with
 | d hv => exact .d (hv.evo i.evo)
 | ptr hv => exact .ptr (hv.out i)
 | dptr vs hb hM hc hv => exact .dptr vs hb (fun j hj => i.m _ _ hb (hM j hj)) hc (fun j hj => (hv j hj).evo i.evo)
 | clo h1 h2 => exact .clo (PVs.out i h1) (PVs.out i h2)
 | own h ho =>
  obtain ⟨hn, u, h1, h2⟩ := ho
  exact .own (h.evo i.evo) ⟨i.d _ hn, u, (i.b _ hn).2.1.trans h1, h2⟩
 | mp h1 h2 h3 => exact .mp (i.d _ h1) ((i.b _ h1).2.1.trans h2) ((i.b _ h1).1.trans h3)
 | yl h1 h2 h3 => exact .yl (i.d _ h1) ((i.b _ h1).2.1.trans h2) ((i.b _ h1).1.trans h3)
 | vr hs hk ho => exact .vr hs hk (ho.to (i.d _ ho.1) (i.b _ ho.1).2.1)
 | vp h => exact .vp (h.to (i.d _ h.1) (i.b _ h.1).2.1)
 | nn h hs => exact .nn (h.evo i.evo) hs
 | kn => exact .kn
theorem VLs.out (i : Out M M' β β' D D' ρ w) {xs : List LV} {vs : List Value} (h : All2 (VL w M β D) xs vs) : All2 (VL w M' β' D') (xs.map (rnL ρ)) vs := by
 induction h with
 | nil => exact .nil
 | cons h1 _ ih => exact .cons (h1.out i) ih
theorem VT.out (i : Out M M' β β' D D' ρ w) {x : TV} {v : Value} (hv : VT w M β D x v) : VT w M' β' D' (rnT ρ x) v := by
 cases x with
 | one x => exact VL.out i hv
 | agg xs => obtain ⟨arr, rfl, hv⟩ := hv; exact ⟨arr, rfl, VLs.out i hv⟩
theorem VTs.out (i : Out M M' β β' D D' ρ w) {xs : List TV} {vs : List Value} (h : All2 (VT w M β D) xs vs) : All2 (VT w M' β' D') (xs.map (rnT ρ)) vs := by
 induction h with
 | nil => exact .nil
 | cons h1 _ ih => exact .cons (VT.out i h1) ih
theorem VA.out (i : Out M M' β β' D D' ρ w) {x : AV} {v : Value} (hv : VA w M β D x v) : VA w M' β' D' (rnA ρ x) v := by
 cases x with
 | t x => exact VT.out i hv
 | tup xs => obtain ⟨arr, rfl, hv⟩ := hv; exact ⟨arr, rfl, VTs.out i hv⟩
 | nx => exact hv
end

theorem FmR.in_ {w : World} {M M' : CM} {β β' : Bt} {D : Nat → Prop} {ρ : Nat → Nat} {h : List (Nat × HO)} (i : In M M' β β' (dm (look h)) ρ w) : ∀ {l : List (Int × TV)} {es : List MapEntry},
  All2 (fun (p : Int × TV) (en : MapEntry) => PVal w M (.ti .i64) p.1 en.key ∧ VT w M β D p.2 en.val) (l.map fun p => (p.1, rnT ρ p.2)) es → (∀ p ∈ l, tvOk h p.2 = true) →
  All2 (fun (p : Int × TV) (en : MapEntry) => PVal w M' (.ti .i64) p.1 en.key ∧ VT w M' β' (dm (look h)) p.2 en.val) l es
 | [], es, hv, _ => by cases hv; exact .nil
 | p :: l, es, hv, ok => by
  cases hv with
  | cons h1 h2 => exact .cons ⟨h1.1.evo i.evo, VT.in_ i h1.2 (ok p List.mem_cons_self)⟩ (FmR.in_ i h2 fun q hq => ok q (List.mem_cons_of_mem _ hq))
theorem FmR.out {w : World} {M M' : CM} {β β' : Bt} {D D' : Nat → Prop} {ρ : Nat → Nat} (i : Out M M' β β' D D' ρ w) {l : List (Int × TV)} {es : List MapEntry}
  (h : All2 (fun (p : Int × TV) (en : MapEntry) => PVal w M (.ti .i64) p.1 en.key ∧ VT w M β D p.2 en.val) l es) :
  All2 (fun (p : Int × TV) (en : MapEntry) => PVal w M' (.ti .i64) p.1 en.key ∧ VT w M' β' D' p.2 en.val) (l.map fun p => (p.1, rnT ρ p.2)) es := by
 induction h with
 | nil => exact .nil
 | cons h1 _ ih => exact .cons ⟨h1.1.evo i.evo, VT.out i h1.2⟩ ih
theorem HOR.in_ {w : World} {M M' : CM} {β β' : Bt} {D : Nat → Prop} {ρ : Nat → Nat} {h : List (Nat × HO)} (i : In M M' β β' (dm (look h)) ρ w) {n : Nat} {o : HO} (hv : HOR w M β D (ρ n) (rnH ρ o)) (hn : dm (look h) n) (ok : lvsOk h o.body = true)
  (hdis : o.isOb = true → ∀ q off, M' q off → q < w.heap.size ∧ ∀ off', ¬ β'.ym n q off → ¬ β'.ym n q off') : HOR w M' β' (dm (look h)) n o := by
 obtain ⟨b1, b2, b3, b4⟩ := i.b n hn
 cases o with
 | cells c =>
  obtain ⟨k, arr, t, h0, h1, h2, h3⟩ := hv
  exact ⟨k, arr, t, b2.trans h0, b1.trans h1, h2, VLs.in_ i h3 ok⟩
 | gr t sz len =>
  rcases hv with ⟨h0, h1, h2⟩ | ⟨k, cap, arr, h0, h1, h2⟩
  ·exact .inl ⟨b2.trans h0, b1.trans h1, h2⟩
  ·exact .inr ⟨k, cap, arr, b2.trans h0, b1.trans h1, h2⟩
 | mp κ ν l =>
  obtain ⟨k, es, clock, h0, h1, h2, h3⟩ := hv
  exact ⟨k, es, clock, b2.trans h0, b1.trans h1, h2, h3.mono fun _ _ _ h => ⟨h.1.evo i.evo, h.2.evo i.evo⟩⟩
 | fm l =>
  obtain ⟨k, es, clock, h0, h1, h2, h3⟩ := hv
  exact ⟨k, es, clock, b2.trans h0, b1.trans h1, h2, FmR.in_ i h3 (fm_ok ok)⟩
 | dead m => obtain ⟨u, hu, hm⟩ := hv; exact ⟨u, b2.trans hu, hm⟩
 | vh τ t l =>
  obtain ⟨k, cap, arr, h0, h1, h2, h3, h4, h5, h6, h7, h8⟩ := hv
  exact ⟨k, cap, arr, b2.trans h0, b1.trans h1, h2, h3, h4, h5, fun a j u hi hj hne hu => (h6 a j u hi hj hne hu).evo i.evo, h7, fun u hu => by cases VLs.in_ i (xs := [.vr _ _]) (.cons (h8 u hu) .nil) ok with | cons h1 _ => exact h1⟩
 | it q p =>
  obtain ⟨k, h0, h1, h2⟩ := hv
  exact ⟨k, b2.trans h0, b1.trans h1, h2⟩
 | vec τ t l =>
  rcases hv with ⟨h0, h1, h2⟩ | ⟨k, cap, arr, h0, h1, h2, h3, h4, h5, h6⟩
  ·exact .inl ⟨b2.trans h0, b1.trans h1, h2⟩
  ·exact .inr ⟨k, cap, arr, b2.trans h0, b1.trans h1, h2, h3, h4, h5, fun a j u hi hj hu => (h6 a j u hi hj hu).evo i.evo⟩
 | frz τ t l =>
  rcases hv with ⟨h0, h1, h2⟩ | ⟨k, cap, arr, h0, h1, h2, h3, h4, h5, h6⟩
  ·exact .inl ⟨b2.trans h0, b1.trans h1, h2⟩
  ·exact .inr ⟨k, cap, arr, b2.trans h0, b1.trans h1, h2, h3, h4, h5, fun a j u hi hj hu => (h6 a j u hi hj hu).evo i.evo⟩
 | ob sg hist go =>
  obtain ⟨h0, k, h1, h2, h3⟩ := hv
  rw [b3] at hdis
  refine ⟨b2.trans h0, k, b1.trans h1, by rw [i.pr, b4]; exact h2, ?_⟩
  rw [b3, b4]
  refine h2.stay _ _ _ _ _ _ h3 ⟨Nat.le_refl _, fun _ _ _ => rfl, fun _ _ _ => rfl, rfl, rfl, rfl⟩ (fun q off hq => ?_) (fun q off off' hq => (hdis rfl q off hq.1).2 off' hq.2)
  by_cases hlt : q < w.heap.size
  ·refine .inl ⟨?_, hq.2⟩
   by_cases hM : M q off
   ·exact hM
   ·exact absurd hq.1 (i.m q off hlt hM)
  ·exact .inr ⟨Nat.le_of_not_lt hlt, (hdis rfl q off hq.1).1⟩
theorem HOR.out {w : World} {M M' : CM} {β β' : Bt} {D D' : Nat → Prop} {ρ : Nat → Nat} (i : Out M M' β β' D D' ρ w) {n : Nat} {o : HO} (hv : HOR w M β D n o) (hn : D n)
  (hdis : o.isOb = true → ∀ q off, M' q off → q < w.heap.size ∧ ∀ off', ¬ β'.ym (ρ n) q off → ¬ β'.ym (ρ n) q off') : HOR w M' β' D' (ρ n) (rnH ρ o) := by
 obtain ⟨b1, b2, b3, b4⟩ := i.b n hn
 cases o with
 | cells c =>
  obtain ⟨k, arr, t, h0, h1, h2, h3⟩ := hv
  exact ⟨k, arr, t, b2.trans h0, b1.trans h1, h2, VLs.out i h3⟩
 | gr t sz len =>
  rcases hv with ⟨h0, h1, h2⟩ | ⟨k, cap, arr, h0, h1, h2⟩
  ·exact .inl ⟨b2.trans h0, b1.trans h1, h2⟩
  ·exact .inr ⟨k, cap, arr, b2.trans h0, b1.trans h1, h2⟩
 | mp κ ν l =>
  obtain ⟨k, es, clock, h0, h1, h2, h3⟩ := hv
  exact ⟨k, es, clock, b2.trans h0, b1.trans h1, h2, h3.mono fun _ _ _ h => ⟨h.1.evo i.evo, h.2.evo i.evo⟩⟩
 | fm l =>
  obtain ⟨k, es, clock, h0, h1, h2, h3⟩ := hv
  exact ⟨k, es, clock, b2.trans h0, b1.trans h1, h2, FmR.out i h3⟩
 | dead m => obtain ⟨u, hu, hm⟩ := hv; exact ⟨u, b2.trans hu, hm⟩
 | vh τ t l =>
  obtain ⟨k, cap, arr, h0, h1, h2, h3, h4, h5, h6, h7, h8⟩ := hv
  exact ⟨k, cap, arr, b2.trans h0, b1.trans h1, h2, h3, h4, h5, fun a j u hi hj hne hu => (h6 a j u hi hj hne hu).evo i.evo, h7, fun u hu => (h8 u hu).out i⟩
 | it q p =>
  obtain ⟨k, h0, h1, h2⟩ := hv
  exact ⟨k, b2.trans h0, b1.trans h1, h2⟩
 | vec τ t l =>
  rcases hv with ⟨h0, h1, h2⟩ | ⟨k, cap, arr, h0, h1, h2, h3, h4, h5, h6⟩
  ·exact .inl ⟨b2.trans h0, b1.trans h1, h2⟩
  ·exact .inr ⟨k, cap, arr, b2.trans h0, b1.trans h1, h2, h3, h4, h5, fun a j u hi hj hu => (h6 a j u hi hj hu).evo i.evo⟩
 | frz τ t l =>
  rcases hv with ⟨h0, h1, h2⟩ | ⟨k, cap, arr, h0, h1, h2, h3, h4, h5, h6⟩
  ·exact .inl ⟨b2.trans h0, b1.trans h1, h2⟩
  ·exact .inr ⟨k, cap, arr, b2.trans h0, b1.trans h1, h2, h3, h4, h5, fun a j u hi hj hu => (h6 a j u hi hj hu).evo i.evo⟩
 | ob sg hist go =>
  obtain ⟨h0, k, h1, h2, h3⟩ := hv
  rw [b3] at hdis
  refine ⟨b2.trans h0, k, b1.trans h1, by rw [i.pr, b4]; exact h2, ?_⟩
  rw [b3, b4]
  refine h2.stay _ _ _ _ _ _ h3 ⟨Nat.le_refl _, fun _ _ _ => rfl, fun _ _ _ => rfl, rfl, rfl, rfl⟩ (fun q off hq => ?_) (fun q off off' hq => (hdis rfl q off hq.1).2 off' hq.2)
  by_cases hlt : q < w.heap.size
  ·refine .inl ⟨?_, hq.2⟩
   by_cases hM : M q off
   ·exact hM
   ·exact absurd hq.1 (i.m q off hlt hM)
  ·exact .inr ⟨Nat.le_of_not_lt hlt, (hdis rfl q off hq.1).1⟩
theorem mut_rn {ρ : Nat → Nat} {o : HO} {off : Nat} : (rnH ρ o).mut off ↔ o.mut off := by cases o <;> exact Iff.rfl
structure Shared (hp : Nat → Option HO) (bs fs : List (Nat × Nat)) (ch : List (Nat × HO)) : Prop where
 inj : ∀ c c' a, look (bs ++ fs) c = some a → look (bs ++ fs) c' = some a → c = c'
 bo : ∀ c a, look bs c = some a → ∃ o, look ch c = some o ∧ hp a = some (rnH (rn (bs ++ fs)) o)
 ch : ∀ c o, look ch c = some o → ∃ a, look bs c = some a
 fr : ∀ c a, look bs c = none → look fs c = some a → hp a = none

def postH (L : Nat → Option Lay) (rs : List ResultVar) (r : AV) (uc : List (Nat × HO)) (σ : St) : VC := match resOf L σ rs with
 | some xs => match vrA r with
  | [] => match frzA σ.h (resAV xs) with
   | (ps, (y, es)) => VC.all (ps ++ (eqAV (coA r y) r ++ entH (upds es σ.h) uc))
  | _ :: _ => VC.all (eqAV (coA r (resAV xs)) r ++ entH σ.h uc)
 | none => .ff
def vcH (L : Nat → Option Lay) (Γ : Nat → Option Con) (φ : Fn) (rs : List ResultVar) (c : Code) (args : List TV) (ch : List (Nat × HO)) (r : AV) (uc : List (Nat × HO)) : VC :=
 vc L Γ φ (fun e σ => match e with | .ex _ => .ff | _ => postH L rs r uc σ) 4000 [.code c] { s := args0 0 args, g := [], h := ch }

def namesGe (N : Nat) : List (Nat × HO) → Bool
 | [] => true
 | (n, _) :: r => Nat.ble N n && namesGe N r
theorem namesGe_sound {N : Nat} : ∀ {l : List (Nat × HO)}, namesGe N l = true → ∀ c, look l c ≠ none → N ≤ c
 | (n, _) :: r, h, c, hc => by
  simp only [namesGe, Bool.and_eq_true] at h
  simp only [look] at hc
  split at hc
  ·rename_i e
   rw [← beq_iff_eq.1 e]; exact Nat.le_of_ble_eq_true h.1
  ·exact namesGe_sound h.2 c hc
structure Meets (L : Nat → Option Lay) (Γ : Nat → Option Con) (φ : Fn) (fn : Func) (args : List TV) (hp : Nat → Option HO) (r : AV) (up : List (Nat × HO)) (bs fs : List (Nat × Nat)) (cargs : List TV) (ch : List (Nat × HO)) (rc : AV) (uc : List (Nat × HO)) : Prop where
 sh : Shared hp bs fs ch
 len : args.length ≤ φ.N
 eqa : args = cargs.map (rnT (rn (bs ++ fs)))
 ok1 : tvsOk ch cargs = true
 ok2 : heapOk ch ch = true
 res : r = rnA (rn (bs ++ fs)) rc
 eqh : ∀ a, upd hp up a = match look (uc.map fun q => (rn (bs ++ fs) q.1, rnH (rn (bs ++ fs)) q.2)) a with | some o => some o | none => hp a
 uc1 : ∀ c a, look (bs ++ fs) c = some a → look uc c ≠ none
 uc2 : ∀ c, look uc c ≠ none → look (bs ++ fs) c ≠ none
 ok3 : avOk uc rc = true
 ok4 : heapOk uc uc = true
 vc : (vcH L Γ φ fn.results.toList (fn.body.getD .skip) cargs ch rc uc).holds
 nb : namesGe φ.N ch = true
end Go.Sy
namespace Go.Sy
variable {P : Program} {L : Nat → Option Lay} {Γ : Nat → Option Con} {F : Fence} {n : Nat}

theorem look_map_rn {ρ : Nat → Nat} {g : HO → HO} : ∀ {l : List (Nat × HO)} {a : Nat} {o : HO}, look (l.map fun q => (ρ q.1, g q.2)) a = some o → ∃ c o', look l c = some o' ∧ ρ c = a ∧ o = g o' ∨ (∃ c o', (c, o') ∈ l ∧ ρ c = a ∧ o = g o')
 | (c, o') :: l, a, o, h => by
  rw [List.map_cons, look_cons] at h
  split at h
  ·rename_i e
   injection h with h
   exact ⟨c, o', .inl ⟨by rw [look_cons, if_pos rfl], e, h.symm⟩⟩
  ·obtain ⟨c', o'', hh⟩ := look_map_rn h
   refine ⟨c', o'', .inr ?_⟩
   rcases hh with ⟨h1, h2, h3⟩ | ⟨c2, o2, h1, h2, h3⟩
   ·exact ⟨c', o'', List.mem_cons_of_mem _ (look_mem h1), h2, h3⟩
   ·exact ⟨c2, o2, List.mem_cons_of_mem _ h1, h2, h3⟩

theorem look_map_inj {ρ : Nat → Nat} {g : HO → HO} : ∀ {l : List (Nat × HO)}, (∀ c c' , look l c ≠ none → look l c' ≠ none → ρ c = ρ c' → c = c') → ∀ {c : Nat} {o : HO}, look l c = some o → look (l.map fun q => (ρ q.1, g q.2)) (ρ c) = some (g o)
 | (c', o') :: l, hi, c, o, h => by
  rw [List.map_cons, look_cons]
  by_cases e : ρ c' = ρ c
  ·have : c' = c := hi c' c (by rw [look_cons, if_pos rfl]; simp) (by rw [h]; simp) e
   subst this
   rw [look_cons, if_pos rfl] at h
   injection h with h
   rw [if_pos e, h]
  ·rw [if_neg e]
   have hne : c' ≠ c := fun h => e (by rw [h])
   rw [look_cons, if_neg hne] at h
   refine look_map_inj (fun x y hx hy hxy => ?_) h
   refine hi x y ?_ ?_ hxy
   ·rw [look_cons]; split <;> simp_all
   ·rw [look_cons]; split <;> simp_all
theorem look_map_none {ρ : Nat → Nat} {g : HO → HO} : ∀ {l : List (Nat × HO)} {a : Nat}, (∀ c, look l c ≠ none → ρ c ≠ a) → look (l.map fun q => (ρ q.1, g q.2)) a = none
 | [], _, _ => rfl
 | (c', o') :: l, a, h => by
  rw [List.map_cons, look_cons, if_neg (h c' (by rw [look_cons, if_pos rfl]; simp))]
  refine look_map_none fun c hc => h c ?_
  rw [look_cons]; split <;> simp_all

theorem fnOk_of_meets {f : FuncId} {fn : Func} {con : Con} (hL : LOk P L) (hΓ : ConOk P Γ) (hf : P.funcs[f]? = some fn) (hb : fn.body.isSome = true) (hn : (fn.name == "runtime.NumGoroutine") = false)
  (hcon : ∀ args hp fr cs r up, con args hp fr = some (cs, r, up) → (∀ c ∈ cs, c) → ∃ φ bs fs cargs ch rc uc, fn.ntmps = φ.N ∧ (∀ (F : Fence) (n : Nat) (X : Cx), Wide F → X.N = φ.N → X.b0.pr = P → DrawOk P L Γ F n X φ.draw) ∧ Meets L Γ φ fn args hp r up bs fs cargs ch rc uc) : FnOk P f con := by
 have hb' : fn.body = some (fn.body.getD .skip) := by
  cases hx : fn.body with
  | none => rw [hx] at hb; cases hb
  | some c => rfl
 refine ⟨enters hf hb' hn, fun args hp fr cs r up hc hcs w β vals hpr hH hargs => ?_⟩
 obtain ⟨φ, bs, fs, cargs, ch, rc, uc, hN, hD, m⟩ := hcon args hp fr cs r up hc hcs
 rw [← callsIn_wide (n := 1)]
 -- the callee's own names
 let βc : Bt := ⟨fun n => match look bs n with | some a => β a | none => none, fun n => match look bs n with | some a => β.o a | none => none,
  fun k off => β.m k off ∨ ∃ a o, hp a = some o ∧ (∀ c, look bs c ≠ some a) ∧ ((β a = some k ∧ o.mut off) ∨ β.ym a k off),
  fun n => match look bs n with | some a => β.ym a | none => fun _ _ => False, fun n => match look bs n with | some a => β.yj a | none => fun _ _ _ _ => True, β.pr⟩
 let X : Cx := { w0 := w, B0 := fun k => ∃ c a, look bs c = some a ∧ bk β a k, N := φ.N, b0 := βc, D0 := fun n => look ch n ≠ none, M := Mt βc (look ch), mb := w.heap.size }
 have hbf : ∀ c a, look bs c = some a → look (bs ++ fs) c = some a := fun c a h => by rw [look_append, h]
 have hρ : ∀ c a, look (bs ++ fs) c = some a → rn (bs ++ fs) c = a := fun c a h => by simp [rn, h]
 have hpa : ∀ c a, look bs c = some a → hp a ≠ none := fun c a h => by
  obtain ⟨o, _, h2⟩ := m.sh.bo c a h
  rw [h2]; simp
 have hchb : ∀ c, look ch c ≠ none → ∃ a, look bs c = some a := fun c h => by
  cases ho : look ch c with
  | none => exact absurd ho h
  | some o => exact m.sh.ch c o ho
 have hbc : ∀ c a, look bs c = some a → βc c = β a ∧ βc.o c = β.o a ∧ βc.ym c = β.ym a ∧ βc.yj c = β.yj a := fun c a h => by simp only [βc, h]; exact ⟨trivial, trivial, trivial, trivial⟩
 have hin : In (Mt β hp) (Mt βc (look ch)) β βc (dm (look ch)) (rn (bs ++ fs)) w := by
  refine ⟨fun k off _ h h' => h ?_, fun c hc => ?_, rfl⟩
  ·rcases h' with (h' | ⟨a, o, h1, _, h2⟩) | ⟨c, o, h1, h2⟩
   ·exact .inl h'
   ·exact .inr ⟨a, o, h1, h2⟩
   ·obtain ⟨a, ha⟩ := m.sh.ch c o h1
    obtain ⟨o', g1, g2⟩ := m.sh.bo c a ha
    rw [h1] at g1; injection g1 with g1; subst g1
    rw [(hbc c a ha).1, (hbc c a ha).2.2.1] at h2
    exact .inr ⟨a, _, g2, h2.imp (fun h => ⟨h.1, mut_rn.2 h.2⟩) id⟩
  ·obtain ⟨a, ha⟩ := hchb c hc
   rw [hρ c a (hbf c a ha)]
   exact hbc c a ha
 have hbcc : ∀ c k, look ch c ≠ none → bk βc c k → ∃ a, look bs c = some a ∧ bk β a k := fun c k h hk => by
  obtain ⟨a, ha⟩ := hchb c h
  unfold bk at hk
  rw [(hbc c a ha).1, (hbc c a ha).2.2.1] at hk
  exact ⟨a, ha, hk⟩
 have bko : ∀ {a o k off}, hp a = some o → ((β a = some k ∧ o.mut off) ∨ β.ym a k off) → hp a ≠ none ∧ bk β a k := fun h1 h2 => ⟨by rw [h1]; simp, h2.elim (fun h => .inl h.1) fun h => .inr ⟨_, h⟩⟩
 have hcf : ∀ c k off, look ch c ≠ none → bk βc c k → ¬ βc.m k off := fun c k off hc hk hM => by
  obtain ⟨a, ha, hk⟩ := hbcc c k hc hk
  rcases hM with h | ⟨a', o', h1, h2, h3⟩
  ·exact hH.fresh a k off (hpa c a ha) hk h
  ·exact h2 c (by rw [ha, hH.inj a a' k (hpa c a ha) (bko h1 h3).1 hk (bko h1 h3).2])
 have hci : ∀ c c' k, look ch c ≠ none → look ch c' ≠ none → bk βc c k → bk βc c' k → c = c' := fun c c' k hc hc' h1 h2 => by
  obtain ⟨a, ha, hk⟩ := hbcc c k hc h1
  obtain ⟨a', ha', hk'⟩ := hbcc c' k hc' h2
  have : a = a' := hH.inj a a' k (hpa c a ha) (hpa c' a' ha') hk hk'
  subst this
  exact m.sh.inj c c' a (hbf _ _ ha) (hbf _ _ ha')
 have hcm : ∀ k off, βc.m k off → k < w.heap.size := by
  rintro k off (h | ⟨a, o, h1, _, h2⟩)
  ·exact hH.m0 k off h
  ·exact hH.lt a k (bko h1 h2).1 (bko h1 h2).2
 have hcl : ∀ c k, look ch c ≠ none → bk βc c k → k < w.heap.size := fun c k hc hk => by
  obtain ⟨a, ha, hk⟩ := hbcc c k hc hk
  exact hH.lt a k (hpa c a ha) hk
 have hHc : HR βc (look ch) w := by
  refine ⟨hcm, hcl, hcf, hci, fun c o ho hob => ?_, fun c o ho => ?_, by rw [hin.pr]; exact hH.gl.evo hin.evo⟩
  ·obtain ⟨a, ha⟩ := m.sh.ch c o ho
   obtain ⟨o', h1, h2⟩ := m.sh.bo c a ha
   rw [ho] at h1; injection h1 with h1; subst h1
   rw [(hbc c a ha).2.2.1]
   exact hH.ye a _ h2 (by cases o <;> first | rfl | cases hob)
  ·obtain ⟨a, ha⟩ := m.sh.ch c o ho
   obtain ⟨o', h1, h2⟩ := m.sh.bo c a ha
   rw [ho] at h1
   injection h1 with h1
   subst h1
   have h3 := hH.blk a _ h2
   rw [← hρ c a (hbf c a ha)] at h3
   exact h3.in_ hin (by unfold dm; rw [ho]; simp) (heapOk_sound m.ok2 (look_mem ho)) fun hob => dis_of hcm hcl hcf hci ho hob
 have hvals : All2 (VT w (Mt βc (look ch)) βc (dm (look ch))) cargs vals := VTs.in_ hin (m.eqa ▸ hargs) m.ok1
 have hlv : vals.length = args.length := hargs.length.symm
 have hlc : cargs.length = vals.length := hvals.length
 have hlen := m.len
 refine callsIn_of_wp_marks hf hb' trivial ?_
 have hR0 : Rel X βc { s := args0 0 cargs, g := [], h := ch } { tmps := vals.toArray ++ Array.replicate (fn.ntmps - vals.toArray.size) undef, defers := [] } w := by
  refine ⟨?_, trivial, Fr.refl, fun c k hc hk => ?_, BEvo.refl, fun _ _ h => h, hHc, Evo.refl, fun t v h => ?_, fun t g b x h => by cases h⟩
  ·simp [hN, X]; omega
  ·obtain ⟨a, ha, hk⟩ := hbcc c k hc hk
   exact .inl ⟨c, a, ha, hk⟩
  ·obtain ⟨j, x, h1, h2, rfl⟩ := args0_look h
   have hj : j < cargs.length := (List.getElem?_eq_some_iff.1 h2).1
   obtain ⟨u, hu, hv⟩ := hvals.get h2
   refine ⟨by show t < φ.N; omega, ?_⟩
   have : (vals.toArray ++ Array.replicate (fn.ntmps - vals.toArray.size) undef).getD t undef = u := by
    rw [Array.getD_eq_getD_getElem?, Array.getElem?_append_left (by simp; omega)]
    have : t = j := by omega
    subst this
    simp [hu]
   rw [this]
   exact hv
 have hpost : ∀ β' σ a w', (postH L fn.results.toList rc uc σ).holds → Rel X β' σ a w' →
   LeavesInM Fence.wide 1 P fn a.tmps (fun e w' => ∃ v, e = .returned v ∧ FnPost hp (upd hp up) β r w w' v) a.defers .returning w' := by
  intro β' σ a w' hp0 R
  unfold postH at hp0
  split at hp0
  ·rename_i xs hxs
   refine Rel.leaves (Nat.le_refl _) R fun w' R => ?_
   obtain ⟨v, hv1, hv2⟩ := results_sound hL R hxs
   obtain ⟨β', σ, R, hv2, hue⟩ : ∃ β' σ', Rel X β' σ' { tmps := a.tmps, defers := [] } w' ∧ VA w' (Mt β' (look σ'.h)) β' (dm (look σ'.h)) rc v ∧ ∀ k o, (k, o) ∈ uc → look σ'.h k = some o := by
    split at hp0
    ·rcases hfz : frzA σ.h (resAV xs) with ⟨ps, y, es⟩
     rw [hfz] at hp0
     simp only at hp0
     have hp0 := VC.all_holds hp0
     simp only [List.mem_append] at hp0
     obtain ⟨β2, R2, _, _, hy⟩ := frzA_sound R hfz fun p hp => hp0 p (.inl hp)
     have hv3 := coA_sound (c := rc) (hy v hv2)
     rw [eqAV_sound fun p hp => hp0 p (.inr (.inl hp))] at hv3
     exact ⟨β2, { σ with h := upds es σ.h }, R2, hv3, entH_sound (σ := upds es σ.h) fun p hp => hp0 p (.inr (.inr hp))⟩
    ·have hp0 := VC.all_holds hp0
     simp only [List.mem_append] at hp0
     have hv3 := coA_sound (c := rc) hv2
     rw [eqAV_sound fun p hp => hp0 p (.inl hp)] at hv3
     exact ⟨β', σ, R, hv3, entH_sound fun p hp => hp0 p (.inr hp)⟩
   have hm : ∀ k off, βc.m k off → β'.m k off := R.bm
   -- in the names of uc alone
   have hue' : ∀ c o, look uc c = some o → look σ.h c = some o := fun c o hc => hue c o (look_mem hc)
   have hud : ∀ c, look uc c ≠ none → look σ.h c ≠ none := fun c hc => by
    cases ho : look uc c with
    | none => exact absurd ho hc
    | some o => rw [hue' c o ho]; simp
   have hMu : ∀ k off, Mt β' (look uc) k off → Mt β' (look σ.h) k off := fun k off h => by
    rcases h with h | ⟨c, o, h1, h2⟩
    ·exact .inl h
    ·exact .inr ⟨c, o, hue' c o h1, h2⟩
   have hev0 : Evo (Mt β' (look σ.h)) (Mt β' (look uc)) w' w' := Evo.less hMu
   have hv3 : VA w' (Mt β' (look uc)) β' (dm (look uc)) rc v := VA.re hev0 hv2 m.ok3
   have hblk : ∀ c o, look uc c = some o → HOR w' (Mt β' (look uc)) β' (dm (look uc)) c o := fun c o hc =>
    (R.hr.blk c _ (hue' c o hc)).re hMu (heapOk_sound m.ok4 (look_mem hc)) fun hob => dis_of R.hr.m0 R.hr.lt R.hr.fresh R.hr.inj (hue' c o hc) hob
   -- the caller's names
   let β'' : Bt := ⟨fun a => open Classical in if h : ∃ c, look (bs ++ fs) c = some a then β' h.choose else β a, fun a => open Classical in if h : ∃ c, look (bs ++ fs) c = some a then β'.o h.choose else β.o a, β.m,
    fun a => open Classical in if h : ∃ c, look (bs ++ fs) c = some a then β'.ym h.choose else β.ym a, fun a => open Classical in if h : ∃ c, look (bs ++ fs) c = some a then β'.yj h.choose else β.yj a, β.pr⟩
   have hβ1 : ∀ c a, look (bs ++ fs) c = some a → β'' a = β' c ∧ β''.o a = β'.o c ∧ β''.ym a = β'.ym c ∧ β''.yj a = β'.yj c := fun c a hc => by
    have hex : ∃ c, look (bs ++ fs) c = some a := ⟨c, hc⟩
    simp only [β'', dif_pos hex]
    rw [m.sh.inj _ c a hex.choose_spec hc]
    exact ⟨rfl, rfl, rfl, rfl⟩
   have hβ2 : ∀ a, (∀ c, look (bs ++ fs) c ≠ some a) → β'' a = β a ∧ β''.o a = β.o a ∧ β''.ym a = β.ym a ∧ β''.yj a = β.yj a := fun a ha => by
    have hex : ¬ ∃ c, look (bs ++ fs) c = some a := fun ⟨c, hc⟩ => ha c hc
    simp only [β'', dif_neg hex]
    exact ⟨trivial, trivial, trivial, trivial⟩
   have hk1 : ∀ c a k, look (bs ++ fs) c = some a → (bk β'' a k ↔ bk β' c k) := fun c a k hc => by unfold bk; rw [(hβ1 c a hc).1, (hβ1 c a hc).2.2.1]
   have hk2 : ∀ a k, (∀ c, look (bs ++ fs) c ≠ some a) → (bk β'' a k ↔ bk β a k) := fun a k ha => by unfold bk; rw [(hβ2 a ha).1, (hβ2 a ha).2.2.1]
   have hinjρ : ∀ c c', look uc c ≠ none → look uc c' ≠ none → rn (bs ++ fs) c = rn (bs ++ fs) c' → c = c' := fun c c' hc hc' he => by
    cases h1 : look (bs ++ fs) c with
    | none => exact absurd h1 (m.uc2 c hc)
    | some a =>
     cases h2 : look (bs ++ fs) c' with
     | none => exact absurd h2 (m.uc2 c' hc')
     | some a' =>
      rw [hρ c a h1, hρ c' a' h2] at he
      subst he
      exact m.sh.inj c c' a h1 h2
   -- what the caller's heap holds of each name
   have hexp : ∀ c o, look uc c = some o → ∃ a, look (bs ++ fs) c = some a ∧ upd hp up a = some (rnH (rn (bs ++ fs)) o) := fun c o hc => by
    cases h1 : look (bs ++ fs) c with
    | none => exact absurd h1 (m.uc2 c (by rw [hc]; simp))
    | some a =>
     refine ⟨a, rfl, ?_⟩
     rw [m.eqh a]
     have := look_map_inj (g := rnH (rn (bs ++ fs))) hinjρ hc
     rw [hρ c a h1] at this
     rw [this]
   have hnexp : ∀ a, (∀ c, look (bs ++ fs) c ≠ some a) → upd hp up a = hp a := fun a ha => by
    rw [m.eqh a, look_map_none fun c hc h => ?_]
    cases h1 : look (bs ++ fs) c with
    | none => exact m.uc2 c hc h1
    | some a' => rw [hρ c a' h1] at h; subst h; exact ha c h1
   have hcase : ∀ a o, upd hp up a = some o → (∃ c oc, look (bs ++ fs) c = some a ∧ look uc c = some oc ∧ o = rnH (rn (bs ++ fs)) oc) ∨ ((∀ c, look (bs ++ fs) c ≠ some a) ∧ hp a = some o) := fun a o ha => by
    by_cases hex : ∃ c, look (bs ++ fs) c = some a
    ·obtain ⟨c, hc⟩ := hex
     cases hu : look uc c with
     | none => exact absurd hu (m.uc1 c a hc)
     | some oc =>
      obtain ⟨a', h1, h2⟩ := hexp c oc hu
      rw [hc] at h1; injection h1 with h1; subst h1
      rw [h2] at ha; injection ha with ha
      exact .inl ⟨c, oc, hc, hu, ha.symm⟩
    ·have hno : ∀ c, look (bs ++ fs) c ≠ some a := fun c hc => hex ⟨c, hc⟩
     exact .inr ⟨hno, by rw [hnexp a hno] at ha; exact ha⟩
   have hcase' : ∀ a, upd hp up a ≠ none → ∃ o, upd hp up a = some o := fun a ha => by
    cases ho : upd hp up a with
    | none => exact absurd ho ha
    | some o => exact ⟨o, rfl⟩
   have hkeep : ∀ a, hp a ≠ none → upd hp up a ≠ none := fun a ha => by
    by_cases hex : ∃ c, look (bs ++ fs) c = some a
    ·obtain ⟨c, hc⟩ := hex
     cases ho : look uc c with
     | none => exact absurd ho (m.uc1 c a hc)
     | some o =>
      obtain ⟨a', h1, h2⟩ := hexp c o ho
      rw [hc] at h1; injection h1 with h1; subst h1
      rw [h2]; simp
    ·rw [hnexp a (fun c hc => hex ⟨c, hc⟩)]; exact ha
   have hshare : ∀ a, hp a ≠ none → (∃ c, look bs c = some a ∧ look (bs ++ fs) c = some a) ∨ ∀ c, look (bs ++ fs) c ≠ some a := fun a ha => by
    by_cases hex : ∃ c, look (bs ++ fs) c = some a
    ·obtain ⟨c, hc⟩ := hex
     cases h1 : look bs c with
     | some a' =>
      have := hbf c a' h1
      rw [hc] at this; injection this with this; subst this
      exact .inl ⟨c, h1, hc⟩
     | none =>
      have h2 : look fs c = some a := by rw [look_append, h1] at hc; exact hc
      exact absurd (m.sh.fr c a h1 h2) ha
    ·exact .inr fun c hc => hex ⟨c, hc⟩
   have hD0 : ∀ c a, look bs c = some a → X.D0 c := fun c a h => by
    obtain ⟨o, h1, _⟩ := m.sh.bo c a h
    show look ch c ≠ none
    rw [h1]; simp
   have hbevo : BEvo β β'' (dm hp) (dm (upd hp up)) := by
    refine ⟨hkeep, fun a ha h0 => ?_, fun a u ha hu => ?_, rfl⟩
    ·rcases hshare a ha with ⟨c, h1, h2⟩ | hno
     ·obtain ⟨g1, g2, g3⟩ := R.be.b c (hD0 c a h1) ((hbc c a h1).2.1.trans h0)
      exact ⟨(hβ1 c a h2).2.1.trans g1, (hβ1 c a h2).1.trans (g2.trans (hbc c a h1).1), (hβ1 c a h2).2.2.2.trans (g3.trans (hbc c a h1).2.2.2)⟩
     ·exact ⟨(hβ2 a hno).2.1.trans h0, (hβ2 a hno).1, (hβ2 a hno).2.2.2⟩
    ·rcases hshare a ha with ⟨c, h1, h2⟩ | hno
     ·obtain ⟨u', g1, g2⟩ := R.be.o c u (hD0 c a h1) ((hbc c a h1).2.1.trans hu)
      exact ⟨u', (hβ1 c a h2).2.1.trans g1, g2⟩
     ·exact ⟨u, (hβ2 a hno).2.1.trans hu, .inl rfl⟩
   -- what may be written in the end
   have hMt : ∀ k off, Mt β'' (upd hp up) k off → Mt β' (look uc) k off := fun k off h' => by
    rcases h' with h' | ⟨a, o, h1, h2⟩
    ·exact .inl (hm k off (.inl h'))
    ·rcases hcase a o h1 with ⟨c, oc, hc, hu, rfl⟩ | ⟨hno, ha⟩
     ·rw [(hβ1 c a hc).1, (hβ1 c a hc).2.2.1] at h2
      exact .inr ⟨c, oc, hu, h2.imp (fun h => ⟨h.1, mut_rn.1 h.2⟩) id⟩
     ·rw [(hβ2 a hno).1, (hβ2 a hno).2.2.1] at h2
      exact .inl (hm k off (.inr ⟨a, o, ha, fun c hc => hno c (hbf c a hc), h2⟩))
   have hout : Out (Mt β' (look uc)) (Mt β'' (upd hp up)) β' β'' (dm (look uc)) (dm (upd hp up)) (rn (bs ++ fs)) w' := by
    refine ⟨fun k off _ h h' => h (hMt k off h'), fun c hc => ?_, R.be.pr.symm, fun c hc => ?_⟩
    ·cases h1 : look (bs ++ fs) c with
     | none => exact absurd h1 (m.uc2 c hc)
     | some a => rw [hρ c a h1]; exact hβ1 c a h1
    ·cases ho : look uc c with
     | none => exact absurd ho hc
     | some o =>
      obtain ⟨a, h1, h2⟩ := hexp c o ho
      unfold dm
      rw [hρ c a h1, h2]; simp
   have hevo : Evo (Mt β hp) (Mt β'' (upd hp up)) w w' :=
    ⟨R.ev.size, fun p hp' hm' => R.ev.cell p hp' (hin.m _ _ hp' hm'), fun k off hk h h' => R.ev.mt k off hk (hin.m k off hk h) (hMu k off (hMt k off h')),
     fun k hk h => R.ev.blk k hk fun off => hin.m k off hk (h off), R.ev.sys⟩
   -- old memory
   have hplace : ∀ a k o, upd hp up a = some o → bk β'' a k → (∃ m, hp m ≠ none ∧ bk β m k) ∨ w.heap.size ≤ k := fun a k o ha hk => by
    rcases hcase a o ha with ⟨c, oc, hc, hu, rfl⟩ | ⟨hno, h⟩
    ·rcases R.own c k (hud c (by rw [hu]; simp)) ((hk1 c a k hc).1 hk) with ⟨c', a', h3, h4⟩ | h
     ·exact .inl ⟨a', hpa c' a' h3, h4⟩
     ·exact .inr h
    ·exact .inl ⟨a, by rw [h]; simp, (hk2 a k hno).1 hk⟩
   have hff : ∀ a k off, upd hp up a ≠ none → bk β'' a k → ¬ β''.m k off := fun a k off ha hk hM => by
    obtain ⟨o, ho⟩ := hcase' a ha
    rcases hcase a o ho with ⟨c, oc, hc, hu, rfl⟩ | ⟨hno, h⟩
    ·exact R.hr.fresh c k off (hud c (by rw [hu]; simp)) ((hk1 c a k hc).1 hk) (hm k off (.inl hM))
    ·exact hH.fresh a k off (by rw [h]; simp) ((hk2 a k hno).1 hk) hM
   have hii : ∀ a a' k, upd hp up a ≠ none → upd hp up a' ≠ none → bk β'' a k → bk β'' a' k → a = a' := fun a a' k ha ha' h1 h2 => by
    have clash : ∀ c b ob oc k, look uc c = some oc → bk β' c k → hp b = some ob → (∀ c, look (bs ++ fs) c ≠ some b) → bk β b k → False := fun c b ob oc k hu hk hb hno hkb => by
     have hno' : ∀ c, look bs c ≠ some b := fun c hc => hno c (hbf c b hc)
     rcases R.own c k (hud c (by rw [hu]; simp)) hk with ⟨c', a', h3, h4⟩ | h
     ·exact hno' c' (by rw [h3, hH.inj a' b k (hpa c' a' h3) (by rw [hb]; simp) h4 hkb])
     ·exact absurd (hH.lt b k (by rw [hb]; simp) hkb) (Nat.not_lt.2 h)
    obtain ⟨o, ho⟩ := hcase' a ha
    obtain ⟨o', ho'⟩ := hcase' a' ha'
    rcases hcase a o ho with ⟨c, oc, hc, hu, rfl⟩ | ⟨hno, h⟩ <;> rcases hcase a' o' ho' with ⟨c', oc', hc', hu', rfl⟩ | ⟨hno', h'⟩
    ·have := R.hr.inj c c' k (hud c (by rw [hu]; simp)) (hud c' (by rw [hu']; simp)) ((hk1 c a k hc).1 h1) ((hk1 c' a' k hc').1 h2)
     subst this
     rw [hc] at hc'; injection hc'
    ·exact (clash c a' o' oc k hu ((hk1 c a k hc).1 h1) h' hno' ((hk2 a' k hno').1 h2)).elim
    ·exact (clash c' a o oc' k hu' ((hk1 c' a' k hc').1 h2) h hno ((hk2 a k hno).1 h1)).elim
    ·exact hH.inj a a' k (by rw [h]; simp) (by rw [h']; simp) ((hk2 a k hno).1 h1) ((hk2 a' k hno').1 h2)
   have hfm : ∀ k off, β''.m k off → k < w'.heap.size := fun k off h => Nat.lt_of_lt_of_le (hH.m0 k off h) R.fr.size
   have hfl : ∀ a k, upd hp up a ≠ none → bk β'' a k → k < w'.heap.size := fun a k ha hk => by
    obtain ⟨o, ho⟩ := hcase' a ha
    rcases hcase a o ho with ⟨c, oc, hc, hu, rfl⟩ | ⟨hno, h⟩
    ·exact R.hr.lt c k (hud c (by rw [hu]; simp)) ((hk1 c a k hc).1 hk)
    ·exact Nat.lt_of_lt_of_le (hH.lt a k (by rw [h]; simp) ((hk2 a k hno).1 hk)) R.fr.size
   refine ⟨v, hv1, v, rfl, ⟨β'', hbevo, fun _ _ h => h, ?_, by rw [m.res]; exact VA.out hout hv3, fun a k ha hk => by obtain ⟨o, ho⟩ := hcase' a ha; exact hplace a k o ho hk, hevo⟩, ?_⟩
   ·refine ⟨hfm, hfl, hff, hii, fun a o ho hob => ?_, fun a o ho => ?_, hbevo.pr ▸ hH.gl.evo hevo⟩
    ·rcases hcase a o ho with ⟨c, oc, hc, hu, rfl⟩ | ⟨hno, h⟩
     ·rw [(hβ1 c a hc).2.2.1]
      exact R.hr.ye c oc (hue' c oc hu) (by cases oc <;> first | rfl | cases hob)
     ·rw [(hβ2 a hno).2.2.1]
      exact hH.ye a o h hob
    ·rcases hcase a o ho with ⟨c, oc, hc, hu, rfl⟩ | ⟨hno, h⟩
     ·have h1 := (hblk c oc hu).out hout (by unfold dm; rw [hu]; simp) (fun hob => by
       rw [hρ c a hc]
       exact dis_of hfm hfl hff hii ho (by cases oc <;> first | rfl | cases hob))
      rw [hρ c a hc] at h1
      exact h1
     ·refine (hH.blk a o h).evo hevo hbevo (hβ2 a hno).1 (hβ2 a hno).2.1 (hβ2 a hno).2.2.1 (hβ2 a hno).2.2.2 (fun k hk => ?_) fun hob => dis_of hfm hfl hff hii ho hob
      refine R.fr.block k (hH.lt a k (by rw [h]; simp) hk) fun ⟨c, a', h1, h2⟩ => ?_
      exact hno c (by rw [hbf c a' h1, hH.inj a a' k (by rw [h]; simp) (hpa c a' h1) hk h2])
   ·exact ⟨R.fr.os, R.fr.tape, R.fr.output, R.fr.size, fun k hk hB => R.fr.block k hk fun ⟨c, a, h1, h2⟩ => hB ⟨a, hpa c a h1, h2⟩⟩
  ·exact hp0.elim
 have := vc_sound (F := Fence.wide) (n := 1) (X := X) (Q := bodyPostM Fence.wide 1 P fn fun e w' => ∃ v, e = .returned v ∧ FnPost hp (upd hp up) β r w w' v) ⟨fun _ => trivial, rfl, rfl⟩ hpr hL hΓ (φ := φ) rfl (fun _ => ⟨rfl, Nat.le_refl _, fun d hd => namesGe_sound m.nb d hd⟩) hD
  (post := fun e σ => match e with | .ex _ => .ff | _ => postH L fn.results.toList rc uc σ) (fun e β' σ a w' h R => by cases e <;> first | exact hpost β' σ a w' h R | exact h.elim) 4000 [.code (fn.body.getD .skip)] _ βc _ w m.vc hR0
 exact this
end Go.Sy
namespace Go.Sy
variable {P : Program} {L : Nat → Option Lay} {Γ : Nat → Option Con} {F : Fence} {n : Nat}

/-! regions that draw their order: what an operation looks at and what it turns -/
structure Foot where
 rs : List Nat
 hr : Option (List Nat)
 hw : List Nat
 d : Option Nat

def tmpsOf : List Operand → List Nat
 | [] => []
 | .tmp t :: r => t :: tmpsOf r
 | _ :: r => tmpsOf r
def fsts : List (Nat × HO) → List Nat
 | [] => []
 | (a, _) :: r => a :: fsts r
def gslots : List (Nat × Bool) → List Nat
 | [] => []
 | (a, _) :: r => a :: gslots r

def hrO (Pu : Nat → Bool) (G : List (Nat × Bool)) (σ : St) (o : Oper) : Option (List Nat) :=
 match o.op with
 | .load _ p => match opT G σ p with
  | some (.one (.ptr n _)) => some [n]
  | _ => some []
 | .store _ p _ => match opT G σ p with
  | some (.one (.ptr n _)) => some [n]
  | _ => some []
 | .alloc _ => match o.dst with | some d => some [d, rm d] | none => some []
 | .move _ => match o.dst with | some d => some [rm d] | none => some []
 | .assign _ => match o.dst with | some d => some [rm d] | none => some []
 | .buildSlice _ _ _ => match o.dst with | some d => some [rm d] | none => some []
 | .call { callee := .builtin .append, args, .. } => match args.toList with
  | s :: _ => match opT G σ s with
   | some (.one (.own n _)) => some [n]
   | _ => match o.dst with | some d => some [rm d] | none => some []
  | [] => some []
 | .call { callee := .builtin .len, args, .. } => match mapT (opT G σ) args.toList with
  | some [.one (.mp n)] => some [n]
  | _ => some []
 | .call { callee := .builtin _, .. } => some []
 | .convert _ _ x => match opT G σ x with
  | some (.one (.own n _)) => some [n]
  | _ => some []
 | .range _ _ => match o.dst with | some d => some [d] | none => some []
 | .next it _ => match opT G σ it with
  | some (.one (.ptr n _)) => some [n]
  | _ => some []
 | .makeMap _ _ => match o.dst with | some d => some [md d] | none => some []
 | .makeSlice _ _ _ => match o.dst with | some d => some [rm d] | none => some []
 | .lookup _ m _ _ => match opT G σ m with
  | some (.one (.mp n)) => some [n]
  | _ => some []
 | .mapUpdate _ m _ _ => match opT G σ m with
  | some (.one (.mp n)) => some [n]
  | _ => some []
 | .insert _ m _ _ => match opT G σ m with
  | some (.one (.mp n)) => some [n]
  | _ => some []
 | .box _ _ => match o.dst with | some d => some [d] | none => some []
 | .call { callee := .value f, .. } => match opT G σ f with
  | some (.one (.clo fid _ _)) => if Pu fid then some [100000 + 100 * o.dst.getD 0] else none
  | some (.one (.yl n)) => some [n]
  | _ => none
 | _ => some []

def opN : Option Nat → List Nat
 | some n => [n]
 | none => []
def roomN (L : Nat → Option Lay) (t : TypeId) : Option Nat → List Nat
 | some d => d :: (match L t with | some y => y.cv.map (fun q => rm2 d q.1) | none => [])
 | none => []
def bOf (h : List (Nat × HO)) (n : Nat) : List Nat := match look h n with
 | some (.vh _ _ _ _ _ b _) => [b]
 | _ => []
def hrV (L : Nat → Option Lay) (Pu : Nat → Bool) (G : List (Nat × Bool)) (σ : St) (o : Oper) : Option (List Nat) :=
 match o.op with
 | .move _ | .assign _ => some (opN (o.dst.map rm) ++ opN (o.dst.map rmB))
 | .alloc t => some (roomN L t o.dst)
 | .build t _ => some (roomN L t o.dst)
 | .buildSlice _ _ _ => some (opN (o.dst.map rm))
 | .makeSlice _ _ _ => some (opN (o.dst.map rm))
 | .load _ p => some (opN (isVp (opT G σ p)))
 | .store _ p _ => some (opN (isVp (opT G σ p)))
 | .fieldAddr _ p _ => some (opN (isVp (opT G σ p)))
 | .indexAddr _ x _ => some (opN (isVr (opT G σ x)))
 | .slice _ x _ _ _ => some (opN (isVr (opT G σ x)))
 | .call { callee := .builtin .append, args, .. } => match args.toList with
  | s :: _ => some (opN (isVr (opT G σ s)) ++ opN (o.dst.map rm))
  | [] => some []
 | .call { callee := .builtin .len, .. } => some []
 | .call { callee := .value f, args, .. } => match opT G σ f with
  | some (.one (.clo fid _ _)) => if Pu fid then some ((100000 + 100 * o.dst.getD 0) :: (someV (mapT (opT G σ) args.toList) ++ (someV (mapT (opT G σ) args.toList)).flatMap (bOf σ.h))) else none
  | _ => none
 | _ => some []
def heapReads (L : Nat → Option Lay) (Pu : Nat → Bool) (G : List (Nat × Bool)) (σ : St) (o : Oper) : Option (List Nat) :=
 match isV L G σ o with
 | true => hrV L Pu G σ o
 | false => hrO Pu G σ o

def withW (G : List (Nat × Bool)) (w : List Nat) (l : Option (List Nat)) : Option (List Nat) :=
 match G, l with
 | [], l => l
 | _, none => none
 | _, some l => some (w ++ l)
def footOf (L : Nat → Option Lay) (Γ : Nat → Option Con) (Pu : Nat → Bool) (ops : List Oper) (o : Oper) (σ : St) : Option Foot :=
 match aopG L Γ (chain ops 10 o.guard) σ o with
 | some r => some { rs := tmpsOf o.op.operands.toList ++ gslots (chain ops 10 o.guard), hr := withW (chain ops 10 o.guard) (fsts r.h) (heapReads L Pu (chain ops 10 o.guard) σ o), hw := fsts r.h, d := o.dst }
 | none => none

def disj (a : List Nat) (b : Option (List Nat)) : Bool :=
 match a with
 | [] => true
 | x :: r => (match b with | none => false | some l => !mem l x) && disj r b
def dIn (d : Option Nat) (l : List Nat) : Bool := match d with | some x => mem l x | none => false
def dNe (a b : Option Nat) : Bool := match a, b with | some x, some y => x != y | _, _ => true
def apartF (f g : Foot) : Bool :=
 dNe f.d g.d && (!dIn f.d g.rs && (!dIn g.d f.rs && (disj f.hw g.hr && (disj g.hw f.hr && disj f.hw (some g.hw)))))

def mrg : List Nat → List Nat → List Nat
 | [], m => m
 | a :: r, m => match mem m a with
  | true => mrg r m
  | false => a :: mrg r m
def depsOf (acc : List (List Nat)) (o : Oper) : List Nat :=
 go acc (o.after.toList.filter (Region.binds .any ·))
where go (acc : List (List Nat)) : List Edge → List Nat
 | [] => []
 | e :: r => mrg (e.on :: acc.getD e.on []) (go acc r)
def backOk (i : Nat) (o : Oper) : Bool := (o.after.toList.filter (Region.binds .any ·)).all fun e => decide (e.on < i)

def drawGo (L : Nat → Option Lay) (Γ : Nat → Option Con) (Pu : Nat → Bool) (N : Nat) (ops : List Oper) : List Oper → Nat → List (List Nat) → List (Nat × Foot) → St → Bool
 | [], _, _, _, _ => true
 | o :: r, i, acc, seen, σ => match footOf L Γ Pu ops o σ, astep L Γ N ops o σ with
  | some f, some (_, σ') =>
   let ds := depsOf acc o
   backOk i o && (seen.all (fun q => mem ds q.1 || apartF q.2 f) && drawGo L Γ Pu N ops r (i + 1) (acc ++ [ds]) (seen ++ [(i, f)]) σ')
  | _, _ => false
def draws (L : Nat → Option Lay) (Γ : Nat → Option Con) (Pu : Nat → Bool) (N : Nat) (ops : List Oper) (σ : St) : Bool := drawGo L Γ Pu N ops ops 0 [] [] σ

def PuOk (Γ : Nat → Option Con) (Pu : Nat → Bool) : Prop := ∀ f con, Pu f = true → Γ f = some con → ∀ args (hp hp' : Nat → Option HO) fr, hp fr = hp' fr → con args hp fr = con args hp' fr

/-! an operation sees no more than its foot -/
structure Ag (rs : List Nat) (hr : Option (List Nat)) (σ τ : St) : Prop where
 s : ∀ t, t ∈ rs → look σ.s t = look τ.s t
 g : ∀ t, t ∈ rs → look σ.g t = look τ.g t
 h : ∀ n, (∀ l, hr = some l → n ∈ l) → look σ.h n = look τ.h n

section
variable {σ τ : St} {G : List (Nat × Bool)} {rs : List Nat}
theorem mem_tmpsOf {t : Nat} : ∀ {l : List Operand}, Operand.tmp t ∈ l → t ∈ tmpsOf l
 | .tmp u :: r, h => by
  rcases List.mem_cons.1 h with e | h
  ·injection e with e; subst e; exact List.mem_cons_self ..
  ·exact List.mem_cons_of_mem _ (mem_tmpsOf h)
 | .const _ :: r, h => by rcases List.mem_cons.1 h with e | h; cases e; exact mem_tmpsOf (l := r) h
 | .global _ :: r, h => by rcases List.mem_cons.1 h with e | h; cases e; exact mem_tmpsOf (l := r) h
 | .func _ :: r, h => by rcases List.mem_cons.1 h with e | h; cases e; exact mem_tmpsOf (l := r) h

theorem opd_local (hs : ∀ t, t ∈ rs → look σ.s t = look τ.s t) (hg : ∀ t, t ∈ rs → look σ.g t = look τ.g t) {o : Operand} (ho : ∀ t, o = .tmp t → t ∈ rs) : opd G σ o = opd G τ o := by
 cases o with
 | tmp t => simp only [opd]; rw [hg t (ho t rfl), hs t (ho t rfl)]
 | const => rfl
 | func => rfl
 | _ => rfl
theorem opT_local (hs : ∀ t, t ∈ rs → look σ.s t = look τ.s t) (hg : ∀ t, t ∈ rs → look σ.g t = look τ.g t) {o : Operand} (ho : ∀ t, o = .tmp t → t ∈ rs) : opT G σ o = opT G τ o := by
 unfold opT; rw [opd_local hs hg ho]
theorem mapT_local (hs : ∀ t, t ∈ rs → look σ.s t = look τ.s t) (hg : ∀ t, t ∈ rs → look σ.g t = look τ.g t) : ∀ {os : List Operand}, (∀ t, Operand.tmp t ∈ os → t ∈ rs) → mapT (opT G σ) os = mapT (opT G τ) os
 | [], _ => rfl
 | o :: r, h => by
  simp only [mapT]
  rw [opT_local hs hg (fun t e => h t (by rw [e]; exact List.mem_cons_self ..)), mapT_local hs hg (fun t ht => h t (List.mem_cons_of_mem _ ht))]
theorem mapP_local (hs : ∀ t, t ∈ rs → look σ.s t = look τ.s t) (hg : ∀ t, t ∈ rs → look σ.g t = look τ.g t) : ∀ {os : List (Nat × Operand)}, (∀ t, Operand.tmp t ∈ os.map (·.2) → t ∈ rs) → mapP (opT G σ) os = mapP (opT G τ) os
 | [], _ => rfl
 | (i, o) :: r, h => by
  simp only [mapP]
  rw [opT_local hs hg (fun t e => h t (by rw [e]; exact List.mem_cons_self ..)), mapP_local hs hg (fun t ht => h t (List.mem_cons_of_mem _ ht))]

theorem rmFree_local {dst : Option Tmp} (h : ∀ d, dst = some d → look σ.h (rm d) = look τ.h (rm d)) : rmFree σ dst = rmFree τ dst := by
 unfold rmFree
 cases dst with
 | none => rfl
 | some d => simp only [h d rfl]
theorem aNil_local {t : TypeId} {x : Operand} {dst : Option Tmp} (h : ∀ d, dst = some d → look σ.h (rm d) = look τ.h (rm d)) : aNil L σ t x dst = aNil L τ t x dst := by
 unfold aNil
 rw [rmFree_local h]
theorem appendA_local {hp hp' : Nat → Option HO} {ts : List TypeId} {dst : Option Nat} {s x : TV} (h1 : ∀ n y, s = .one (.own n y) → hp n = hp' n) (h2 : (∀ n y, s ≠ .one (.own n y)) → ∀ d, dst = some d → hp (rm d) = hp' (rm d)) :
  appendA L hp ts dst s x = appendA L hp' ts dst s x := by
 unfold appendA
 split
 ·split
  ·split
   ·split
    ·split
     ·rw [h1 _ _ rfl]
     ·rename_i s' _
      split
      ·rw [h2 (fun n y e => by cases e) _ rfl]
      ·rfl
     ·rfl
    ·rfl
   ·rfl
  ·rfl
 ·rfl

theorem appendS_local {hp hp' : Nat → Option HO} {ts : List TypeId} {dst : Option Nat} {s x : TV} (h1 : ∀ n y, s = .one (.own n y) → hp n = hp' n) (h2 : (∀ n y, s ≠ .one (.own n y)) → ∀ d, dst = some d → hp (rm d) = hp' (rm d)) :
  appendS L hp ts dst s x = appendS L hp' ts dst s x := by
 unfold appendS
 split
 ·split
  ·split
   ·split
    ·split
     ·rename_i n l
      rw [h1 n _ rfl]
     ·rename_i s'
      split
      ·rw [h2 (fun n y e => by cases e) _ rfl]
      ·rfl
     ·rfl
    ·rfl
   ·rfl
  ·rfl
 ·rfl
theorem aConvB_local {s t : TypeId} {x : Operand} (hx : opT G σ x = opT G τ x) (hB : ∀ n y, opT G σ x = some (.one (.own n y)) → look σ.h n = look τ.h n) : aConvB L G σ s t x = aConvB L G τ s t x := by
 unfold aConvB
 rw [← hx]
 split
 ·rename_i y n l hy ho
  rw [hB n _ ho]
 ·rfl
theorem bnd_local {d : Int} {y : Option Operand} (h : ∀ z, y = some z → opT G σ z = opT G τ z) : bnd G σ d y = bnd G τ d y := by
 cases y with
 | none => rfl
 | some z => simp only [bnd, h z rfl]

theorem aop0_local {Pu : Nat → Bool} (hPu : PuOk Γ Pu) {o : Oper} {r : Res} (h : aop0 L Γ G σ o = some r) (ha : Ag (tmpsOf o.op.operands.toList ++ rs) (hrO Pu G σ o) σ τ) :
  aop0 L Γ G τ o = some r ∧ hrO Pu G τ o = hrO Pu G σ o := by
 have hin : ∀ t, Operand.tmp t ∈ o.op.operands.toList → t ∈ tmpsOf o.op.operands.toList ++ rs := fun t ht => List.mem_append_left _ (mem_tmpsOf ht)
 have e1 : ∀ (G : List (Nat × Bool)) (x : Operand), x ∈ o.op.operands.toList → opd G σ x = opd G τ x := fun G x hx => opd_local ha.s ha.g fun t e => hin t (e ▸ hx)
 have e2 : ∀ (G : List (Nat × Bool)) (x : Operand), x ∈ o.op.operands.toList → opT G σ x = opT G τ x := fun G x hx => opT_local ha.s ha.g fun t e => hin t (e ▸ hx)
 have e3 : ∀ (xs : List Operand), (∀ x ∈ xs, x ∈ o.op.operands.toList) → mapT (opT G σ) xs = mapT (opT G τ) xs := fun xs hx => mapT_local ha.s ha.g fun t ht => hin t (hx _ ht)
 have e4 : ∀ (xs : List (Nat × Operand)), (∀ x ∈ xs.map (·.2), x ∈ o.op.operands.toList) → mapP (opT G σ) xs = mapP (opT G τ) xs := fun xs hx => mapP_local ha.s ha.g fun t ht => hin t (hx _ ht)
 have hh := ha.h
 clear ha hin
 unfold aop0 at h ⊢
 unfold hrO at hh ⊢
 cases ho : o.op <;> simp only [ho] at h hh ⊢ <;> simp only [ho, Op.operands, Call.operands] at e1 e2 e3 e4
 all_goals first | (cases h; done) | skip
 case move x =>
  rw [← aNil_local (σ := σ) (τ := τ) (fun d hd => by rw [hd] at hh; exact hh _ (fun l hl => by injection hl with hl; rw [← hl]; simp)), ← e1 G x (by simp)]; exact ⟨h, by first | rfl | trivial⟩
 case assign x =>
  rw [← aNil_local (σ := σ) (τ := τ) (fun d hd => by rw [hd] at hh; exact hh _ (fun l hl => by injection hl with hl; rw [← hl]; simp)), ← e1 G x (by simp)]; exact ⟨h, by first | rfl | trivial⟩
 case pick c x y =>
  cases c with
  | tmp tc => simp only [aPick] at h ⊢; rw [← e2 G (.tmp tc) (by simp), ← e2 _ x (by simp), ← e2 _ y (by simp)]; exact ⟨h, by first | rfl | trivial⟩
  | const => cases h
  | func => cases h
  | _ => cases h
 case alloc t =>
  simp only [aAlloc] at h ⊢
  cases hd : o.dst with
  | none => rw [hd] at h; split at h <;> first | cases h | (rename_i hx; cases hx)
  | some d =>
   rw [hd] at h hh
   have hx := hh d (fun l hl => by injection hl with hl; rw [← hl]; simp)
   have hx2 := hh (rm d) (fun l hl => by injection hl with hl; rw [← hl]; simp)
   have hx2 := rmFree_local (σ := σ) (τ := τ) (dst := some d) fun d' hd' => by injection hd' with hd'; rw [← hd']; exact hx2
   cases hLt : L t with
   | none => rw [hLt] at h; cases h
   | some y => rw [hLt] at h; simp only at h ⊢; rw [← hx, ← hx2]; exact ⟨h, by first | rfl | trivial⟩
 case box t x =>
  simp only [aBox] at h ⊢
  rw [← e2 G x (by simp)]
  cases hd : o.dst with
  | none => rw [hd] at h; split at h <;> first | cases h | (rename_i hx; cases hx)
  | some d =>
   rw [hd] at h hh
   have hx := hh d (fun l hl => by injection hl with hl; rw [← hl]; simp)
   cases hLt : opT G σ x with
   | none => rw [hLt] at h; cases h
   | some y => rw [hLt] at h; simp only at h ⊢; rw [← hx]; exact ⟨h, by first | rfl | trivial⟩
 case build t parts =>
  simp only [aBuild] at h ⊢
  rw [← e4 parts.toList (fun x hx => by simpa using hx)]; exact ⟨h, by first | rfl | trivial⟩
 case buildSlice t len parts =>
  simp only [aRows] at h ⊢
  rw [← e4 parts.toList (fun x hx => by simpa using hx)]
  rw [← rmFree_local (σ := σ) (τ := τ) (fun d hd => by rw [hd] at hh; exact hh _ (fun l hl => by injection hl with hl; rw [← hl]; simp))]
  exact ⟨h, by first | rfl | trivial⟩
 case load t p =>
  simp only [aLoad] at h ⊢
  rw [← e2 G p (by simp)]
  refine ⟨?_, by first | rfl | trivial⟩
  split at h
  ·rename_i y q hy hq
   rw [hq] at hh
   have : loadFrom σ y q = loadFrom τ y q := by
    unfold loadFrom
    split
    ·rename_i m off
     rw [hh m (fun l hl => by injection hl with hl; rw [← hl]; simp)]
    ·rfl
    ·rfl
   rw [← this]
   exact h
  ·cases h
 case store t p x =>
  simp only [aStore] at h ⊢
  rw [← e2 G p (by simp), ← e2 G x (by simp)]
  refine ⟨?_, by first | rfl | trivial⟩
  split at h
  ·rename_i y m off v hy hp hx
   rw [hp] at hh
   rw [← hh m (fun l hl => by injection hl with hl; rw [← hl]; simp)]
   exact h
  ·cases h
 case binOp op t x y t' =>
  simp only [aBinW, aBin, aBinB, aBinAgg, aBinN] at h ⊢
  rw [← e2 G x (by simp), ← e2 G y (by simp)]; exact ⟨h, by first | rfl | trivial⟩
 case unOp op t x => simp only [aUn] at h ⊢; rw [← e2 G x (by simp)]; exact ⟨h, by first | rfl | trivial⟩
 case nilCheck x => simp only [aNilCk] at h ⊢; rw [← e2 G x (by simp)]; exact ⟨h, by first | rfl | trivial⟩
 case convert s t x =>
  rw [← aConvB_local (σ := σ) (τ := τ) (s := s) (t := t) (e2 G x (by simp)) fun n y hx => hh n (fun l hl => by rw [hx] at hl; injection hl with hl; rw [← hl]; simp)]
  simp only [aConv, aConvS, opS] at h ⊢
  rw [← e2 G x (by simp)]
  exact ⟨h, by first | rfl | trivial⟩
 case index t x i => simp only [aIdx] at h ⊢; rw [← e2 G x (by simp), ← e2 G i (by simp)]; exact ⟨h, by first | rfl | trivial⟩
 case range t x =>
  simp only [aRange] at h ⊢
  rw [← e2 G x (by simp)]
  cases hd : o.dst with
  | none => rw [hd] at h; split at h <;> first | cases h | (rename_i hx; cases hx)
  | some d =>
   rw [hd] at h hh
   have hx := hh d (fun l hl => by injection hl with hl; rw [← hl]; simp)
   refine ⟨?_, by first | rfl | trivial⟩
   split at h
   ·rename_i y q d' hy hq hd'
    injection hd' with hd'; subst hd'
    simp only [← hx]
    exact h
   ·cases h
 case next it s =>
  simp only [aNext] at h ⊢
  rw [← e2 G it (by simp)]
  refine ⟨?_, by first | rfl | trivial⟩
  split at h
  ·rename_i n hp
   rw [hp] at hh
   rw [← hh n (fun l hl => by injection hl with hl; rw [← hl]; simp)]
   exact h
  ·cases h
 case makeFunc f a b =>
  cases f with
  | func f =>
   simp only [aFunc] at h ⊢
   rw [← e3 a.toList (fun x hx => by simp at hx ⊢; exact .inl hx), ← e3 b.toList (fun x hx => by simp at hx ⊢; exact .inr hx)]
   exact ⟨h, by first | rfl | trivial⟩
  | method => cases h
  | methodOf => cases h
  | via => cases h
  | yield => cases h
 case fieldAddr t p i => simp only [aField] at h ⊢; rw [← e2 G p (by simp)]; exact ⟨h, by first | rfl | trivial⟩
 case indexAddr t x i => simp only [aIndex, opS] at h ⊢; rw [← e2 G x (by simp), ← e2 G i (by simp)]; exact ⟨h, by first | rfl | trivial⟩
 case slice t x lo hi mx =>
  have hlo : ∀ d, bnd G τ d lo = bnd G σ d lo := fun d => (bnd_local fun z hz => e2 G z (by simp [hz])).symm
  have hhi : ∀ d, bnd G τ d hi = bnd G σ d hi := fun d => (bnd_local fun z hz => e2 G z (by simp [hz])).symm
  simp only [aSlice, opS] at h ⊢
  rw [← e2 G x (by simp)]
  simp only [hlo, hhi]
  exact ⟨h, by first | rfl | trivial⟩
 case extract t i => simp only [aExtract] at h ⊢; rw [← e1 G t (by simp)]; exact ⟨h, by first | rfl | trivial⟩
 case makeMap t x =>
  cases x with
  | some _ => cases h
  | none =>
   simp only [aMake] at h ⊢
   cases hd : o.dst with
   | none => rw [hd] at h; split at h <;> first | cases h | (rename_i hx; cases hx)
   | some d =>
    rw [hd] at h hh
    cases hLt : L t with
    | none => rw [hLt] at h; cases h
    | some y => rw [hLt] at h; simp only at h ⊢; rw [← hh (md d) (fun l hl => by injection hl with hl; rw [← hl]; simp)]; exact ⟨h, by first | rfl | trivial⟩
 case makeSlice t x y =>
  simp only [aMakeS] at h ⊢
  rw [← e2 G x (by simp), ← e2 G y (by simp)]
  rw [← rmFree_local (σ := σ) (τ := τ) (fun d hd => by rw [hd] at hh; exact hh _ (fun l hl => by injection hl with hl; rw [← hl]; simp))]
  exact ⟨h, by first | rfl | trivial⟩
 case lookup t m k ok =>
  have em := e2 G m (by simp)
  have ek := e2 G k (by simp)
  have key : ∀ n, opT G σ m = some (.one (.mp n)) → look τ.h n = look σ.h n := fun n hm => by
   rw [hm] at hh
   exact (hh n (fun l hl => by injection hl with hl; rw [← hl]; simp)).symm
  have g1 : aLook L G τ t m k ok = aLook L G σ t m k ok := by
   simp only [aLook, opS]
   rw [← em, ← ek]
   cases hLt : L t with
   | none => rfl
   | some y => cases hm : opT G σ m with
    | none => rfl
    | some z => cases z with
     | agg _ => rfl
     | one z => cases z with
      | mp n => cases opT G σ k <;> simp only [mapAt] <;> first | rfl | rw [key n hm]
      | _ => rfl
  have g2 : aLookF L G τ t m k ok = aLookF L G σ t m k ok := by
   simp only [aLookF]
   rw [← em, ← ek]
   cases hLt : L t with
   | none => rfl
   | some y => cases hm : opT G σ m with
    | none => rfl
    | some z => cases z with
     | agg _ => rfl
     | one z => cases z with
      | mp n => cases opT G σ k <;> first | rfl | (simp only; rw [key n hm])
      | _ => rfl
  rw [g1, g2, ← em]
  exact ⟨h, rfl⟩
 case mapUpdate t m k x =>
  have em := e2 G m (by simp)
  have ek := e2 G k (by simp)
  have ex := e2 G x (by simp)
  have key : ∀ n, opT G σ m = some (.one (.mp n)) → look τ.h n = look σ.h n := fun n hm => by
   rw [hm] at hh
   exact (hh n (fun l hl => by injection hl with hl; rw [← hl]; simp)).symm
  have g1 : aUpd L G τ t m k x = aUpd L G σ t m k x := by
   simp only [aUpd, opS]
   rw [← em, ← ek, ← ex]
   cases hLt : L t with
   | none => rfl
   | some y => cases hm : opT G σ m with
    | none => rfl
    | some z => cases z with
     | agg _ => rfl
     | one z => cases z with
      | mp n => cases opT G σ k <;> cases opT G σ x <;> simp only [mapAt] <;> first | rfl | rw [key n hm]
      | _ => rfl
  have g2 : aUpdF L G τ t m k x = aUpdF L G σ t m k x := by
   simp only [aUpdF, opS]
   rw [← em, ← ek, ← ex]
   cases hLt : L t with
   | none => rfl
   | some y => cases hm : opT G σ m with
    | none => rfl
    | some z => cases z with
     | agg _ => rfl
     | one z => cases z with
      | mp n => cases opT G σ k <;> cases opT G σ x <;> first | rfl | (simp only; rw [key n hm])
      | _ => rfl
  rw [g1, g2, ← em]
  exact ⟨h, rfl⟩
 case insert t m k x =>
  have em := e2 G m (by simp)
  have ek := e2 G k (by simp)
  have ex := e2 G x (by simp)
  have key : ∀ n, opT G σ m = some (.one (.mp n)) → look τ.h n = look σ.h n := fun n hm => by
   rw [hm] at hh
   exact (hh n (fun l hl => by injection hl with hl; rw [← hl]; simp)).symm
  have g1 : aUpd L G τ t m k x = aUpd L G σ t m k x := by
   simp only [aUpd, opS]
   rw [← em, ← ek, ← ex]
   cases hLt : L t with
   | none => rfl
   | some y => cases hm : opT G σ m with
    | none => rfl
    | some z => cases z with
     | agg _ => rfl
     | one z => cases z with
      | mp n => cases opT G σ k <;> cases opT G σ x <;> simp only [mapAt] <;> first | rfl | rw [key n hm]
      | _ => rfl
  have g2 : aUpdF L G τ t m k x = aUpdF L G σ t m k x := by
   simp only [aUpdF, opS]
   rw [← em, ← ek, ← ex]
   cases hLt : L t with
   | none => rfl
   | some y => cases hm : opT G σ m with
    | none => rfl
    | some z => cases z with
     | agg _ => rfl
     | one z => cases z with
      | mp n => cases opT G σ k <;> cases opT G σ x <;> first | rfl | (simp only; rw [key n hm])
      | _ => rfl
  rw [g1, g2, ← em]
  exact ⟨h, rfl⟩
 case call c =>
  obtain ⟨callee, args, ts⟩ := c
  cases callee with
  | value f =>
   simp only at e2 e3
   have hop := e2 G f (by simp)
   have har := e3 args.toList (fun x hx => by simp at hx ⊢; exact .inr hx)
   simp only at h hh ⊢
   refine ⟨?_, by rw [← hop]⟩
   have hnil : aNilF L G τ o.type f = aNilF L G σ o.type f := by unfold aNilF; rw [← hop]
   rw [hnil]
   cases hq : aNilF L G σ o.type f with
   | some r' => rw [hq] at h; exact h
   | none =>
   rw [hq] at h
   simp only at h ⊢
   cases hy : aYield G σ f args.toList with
   | some r' =>
    rw [hy] at h
    have : aYield G τ f args.toList = aYield G σ f args.toList := by
     unfold aYield at hy ⊢
     rw [← hop, ← har]
     split at hy
     ·rename_i m hm
      rw [hm] at hh
      rw [hh m (fun l hl => by injection hl with hl; rw [← hl]; simp)]
     ·cases hy
    rw [this, hy]
    exact h
   | none =>
    rw [hy] at h
    have hyn : aYield G τ f args.toList = none := by
     simp only [aCall] at h
     split at h
     ·rename_i xs fid fi ca hxs hf
      unfold aYield
      rw [← hop, hf]
     ·cases h
    rw [hyn]
    simp only [aCall] at h ⊢
    rw [← har, ← hop]
    split at h
    ·rename_i xs fid fi ca hxs hf
     rw [hf] at hh
     simp only at hh
     split at h
     ·rename_i con hcon
      by_cases hpu : Pu fid = true
      ·have := hPu fid con hpu hcon
       rw [if_pos hpu] at hh
       rw [this _ (look τ.h) (look σ.h) _ (hh _ fun l hl => by injection hl with hl; rw [← hl]; simp).symm]
       exact h
      ·rw [if_neg hpu] at hh
       have : look σ.h = look τ.h := by funext m; exact hh m (fun l hl => by cases hl)
       rw [← this]
       exact h
     ·cases h
    ·cases h
  | builtin b =>
   simp only [aBuiltin] at h ⊢
   simp only at e3 e2
   rw [← e3 args.toList (fun x hx => by simpa using hx)]
   refine ⟨?_, ?_⟩
   ·split at h
    ·rename_i xs hxs
     split at h
     ·split at h
      ·rename_i s x
       have hAD : (∀ n y, s = .one (.own n y) → look σ.h n = look τ.h n) ∧ ((∀ n y, s ≠ .one (.own n y)) → ∀ d, o.dst = some d → look σ.h (rm d) = look τ.h (rm d)) := by
        refine ⟨fun n y hs => ?_, fun hs d hd => ?_⟩
        ·subst hs
         match hl : args.toList, hxs with
         | p :: r, hxs =>
          simp only [mapT] at hxs
          split at hxs
          ·rename_i u hu
           split at hxs
           ·injection hxs with hxs; injection hxs with h1 h2
            subst h1
            refine hh n fun l hl' => ?_
            simp only [hl, hu] at hl'
            injection hl' with hl'; rw [← hl']; simp
           ·cases hxs
          ·cases hxs
        ·match hl : args.toList, hxs with
         | p :: r, hxs =>
          simp only [mapT] at hxs
          split at hxs
          ·rename_i u hu
           split at hxs
           ·injection hxs with hxs; injection hxs with h1 h2
            subst h1
            refine hh (rm d) fun l hl' => ?_
            simp only [hl, hu] at hl'
            split at hl'
            ·rename_i n y heq
             injection heq with heq
             exact absurd heq (hs n y)
            ·simp only [hd] at hl'
             injection hl' with hl'; rw [← hl']; simp
           ·cases hxs
          ·cases hxs
       rw [appendA_local (L := L) (hp := look τ.h) (hp' := look σ.h) (fun n y hs => (hAD.1 n y hs).symm) fun hs d hd => (hAD.2 hs d hd).symm, appendS_local (L := L) (hp := look τ.h) (hp' := look σ.h) (fun n y hs => (hAD.1 n y hs).symm) fun hs d hd => (hAD.2 hs d hd).symm]
       exact h
      ·cases h
     ·split at h
      ·rename_i n
       simp only [hxs] at hh
       have hn := hh n (fun l hl => by injection hl with hl; rw [← hl]; simp)
       rw [← h]
       simp only [mapLen, hn]
      ·exact h
     ·exact h
    ·cases h
   ·cases b <;> first | rfl | skip
    ·simp only
     cases hl : args.toList with
     | nil => rfl
     | cons p r => simp only [e2 G p (by
       have : p ∈ args.toList := by rw [hl]; simp
       simpa using this)]
    ·simp only
     rw [← e3 args.toList (fun x hx => by simpa using hx)]
  | invoke => cases h

theorem rooms_congr {hp hp' : Nat → Option HO} {d : Nat} : ∀ {cv : List (Nat × (Ty × (Nat × Bool)))} {cs : List LV}, (∀ q ∈ cv, hp (rm2 d q.1) = hp' (rm2 d q.1)) → rooms hp d cv cs = rooms hp' d cv cs
 | [], _, _ => rfl
 | (j, (τ, (e, vec))) :: r, cs, h => by
  unfold rooms
  rw [← h (j, (τ, (e, vec))) (by simp)]
  have ih : ∀ cs, rooms hp d r cs = rooms hp' d r cs := fun cs => rooms_congr fun q hq => h q (List.mem_cons_of_mem _ hq)
  simp only [ih]
theorem look_upds_eq {es h h' : List (Nat × HO)} {n : Nat} (e : look h n = look h' n) : look (upds es h) n = look (upds es h') n := by rw [look_upds, look_upds, e]
theorem flat_congr {α β : Type _} {f g : α → List β} : ∀ {l : List α}, (∀ x ∈ l, f x = g x) → l.flatMap f = l.flatMap g
 | [], _ => rfl
 | x :: l, h => by rw [List.flatMap_cons, List.flatMap_cons, h x (.head _), flat_congr fun y hy => h y (.tail _ hy)]
def HO.isVh : HO → Bool
 | .vh _ _ _ _ _ _ _ => true
 | _ => false
def Eqs (h h' : List (Nat × HO)) (ns : List Nat) : Prop := ∀ n ∈ ns, look h n = look h' n ∧ ∀ b ∈ bOf h n, look h b = look h' b
theorem bOf_upds {E h : List (Nat × HO)} (hE : ∀ q ∈ E, q.2.isVh = false) {n b : Nat} (hb : b ∈ bOf (upds E h) n) : b ∈ bOf h n := by
 unfold bOf at hb ⊢
 rw [look_upds] at hb
 cases hl : look E.reverse n with
 | none => rw [hl] at hb; exact hb
 | some o =>
  rw [hl] at hb
  have := hE _ (List.mem_reverse.1 (look_mem hl))
  cases o <;> first | (cases hb; done) | (cases this; done)
theorem Eqs.upds {E h h' : List (Nat × HO)} {ns : List Nat} (hE : ∀ q ∈ E, q.2.isVh = false) (e : Eqs h h' ns) : Eqs (upds E h) (upds E h') ns :=
 fun n hn => ⟨look_upds_eq (e n hn).1, fun b hb => look_upds_eq ((e n hn).2 b (bOf_upds hE hb))⟩
theorem frzL_noh {h : List (Nat × HO)} {x : LV} : ∀ q ∈ (frzL h x).2.2, q.2.isVh = false := by
 intro q hq
 unfold frzL at hq
 split at hq
 ·split at hq
  ·split at hq
   ·simp only [List.mem_singleton] at hq; rw [hq]; rfl
   ·cases hq
  ·split at hq <;> cases hq
  ·split at hq
   ·split at hq
    ·split at hq
     ·simp only [List.mem_cons, List.not_mem_nil, or_false] at hq
      rcases hq with hq | hq | hq <;> rw [hq] <;> rfl
     ·cases hq
    ·cases hq
   ·cases hq
  ·cases hq
 ·cases hq
theorem frzLs_noh : ∀ {xs : List LV} {h : List (Nat × HO)}, ∀ q ∈ (frzLs h xs).2.2, q.2.isVh = false
 | [], _, q, hq => by cases hq
 | x :: r, h, q, hq => by
  simp only [frzLs, List.mem_append] at hq
  rcases hq with hq | hq
  ·exact frzL_noh q hq
  ·exact frzLs_noh q hq
theorem frzT_noh {h : List (Nat × HO)} {x : TV} : ∀ q ∈ (frzT h x).2.2, q.2.isVh = false := by
 cases x with
 | one x => exact frzL_noh
 | agg xs => exact frzLs_noh
theorem frzL_congr {h h' : List (Nat × HO)} {x : LV} (e : Eqs h h' (vrL x)) : frzL h x = frzL h' x := by
 cases x <;> try rfl
 rename_i n k
 obtain ⟨e1, e2⟩ := e n (by simp [vrL])
 simp only [frzL]
 rw [← e1]
 unfold bOf at e2
 cases hl : look h n with
 | none => rfl
 | some o =>
  cases o <;> first | rfl | skip
  rw [hl] at e2
  simp only [e2 _ (List.mem_singleton.2 rfl)]
theorem frzLs_congr : ∀ {xs : List LV} {h h' : List (Nat × HO)}, Eqs h h' (vrLs xs) → frzLs h xs = frzLs h' xs
 | [], _, _, _ => rfl
 | x :: r, h, h', e => by
  simp only [frzLs]
  rw [frzL_congr (h := h) (h' := h') fun n hn => e n (by simp only [vrLs, List.mem_append]; exact .inl hn)]
  rw [frzLs_congr (h := Go.Sy.upds (frzL h' x).2.2 h) (h' := Go.Sy.upds (frzL h' x).2.2 h') (Eqs.upds frzL_noh fun n hn => e n (by simp only [vrLs, List.mem_append]; exact .inr hn))]
theorem frzT_congr {h h' : List (Nat × HO)} {x : TV} (e : Eqs h h' (vrT x)) : frzT h x = frzT h' x := by
 cases x with
 | one x => simp only [frzT]; rw [frzL_congr e]
 | agg xs => simp only [frzT]; rw [frzLs_congr e]
theorem frzTs_congr : ∀ {xs : List TV} {h h' : List (Nat × HO)}, Eqs h h' (vrTs xs) → frzTs h xs = frzTs h' xs
 | [], _, _, _ => rfl
 | x :: r, h, h', e => by
  simp only [frzTs]
  rw [frzT_congr (h := h) (h' := h') fun n hn => e n (by simp only [vrTs, List.mem_append]; exact .inl hn)]
  rw [frzTs_congr (h := Go.Sy.upds (frzT h' x).2.2 h) (h' := Go.Sy.upds (frzT h' x).2.2 h') (Eqs.upds frzT_noh fun n hn => e n (by simp only [vrTs, List.mem_append]; exact .inr hn))]
theorem vrL_st (x : LV) : vrL x.st = vrL x := by cases x <;> rfl
theorem vrLs_st : ∀ (xs : List LV), vrLs (stL xs) = vrLs xs
 | [] => rfl
 | x :: r => by simp only [stL, vrLs, vrL_st, vrLs_st r]
theorem vrT_st (x : TV) : vrT x.st = vrT x := by
 cases x with
 | one x => exact vrL_st x
 | agg xs => exact vrLs_st xs
theorem vrTs_st : ∀ (xs : List TV), vrTs (stT xs) = vrTs xs
 | [] => rfl
 | x :: r => by simp only [stT, vrTs, vrT_st, vrTs_st r]
theorem vrLs_set : ∀ {xs : List LV} {j : Nat} {x : LV} {n : Nat}, n ∈ vrLs (xs.set j x) → n ∈ vrL x ∨ n ∈ vrLs xs
 | [], j, x, n, h => by simp [vrLs] at h
 | y :: r, 0, x, n, h => by
  simp only [List.set_cons_zero, vrLs, List.mem_append] at h ⊢
  exact h.imp id .inr
 | y :: r, j + 1, x, n, h => by
  simp only [List.set_cons_succ, vrLs, List.mem_append] at h ⊢
  rcases h with h | h
  ·exact .inr (.inl h)
  ·exact (vrLs_set h).imp id .inr
theorem vrLs_nilCs : ∀ (cz : List (Nat × Ty)) (xs : List LV), ∀ n ∈ vrLs (nilCs cz xs), n ∈ vrLs xs
 | [], _, _, h => h
 | (j, τ) :: r, xs, n, h => by
  unfold nilCs at h
  split at h
  ·have := vrLs_nilCs r _ n h
   rcases vrLs_set this with h | h
   ·simp [vrL] at h
   ·exact h
  ·exact vrLs_nilCs r _ n h
theorem vrT_nil (t : TypeId) (x : TV) : ∀ n ∈ vrT (nilT L t x), n ∈ vrT x := by
 intro n hn
 unfold nilT at hn
 split at hn
 ·split at hn
  ·split at hn
   ·simp [vrT, vrL] at hn
   ·exact hn
  ·exact hn
 ·split at hn
  ·exact vrLs_nilCs _ _ n hn
  ·exact hn
 ·exact hn
theorem vrTs_nil : ∀ (ts : List TypeId) (xs : List TV), ∀ n ∈ vrTs (nilTs L ts xs), n ∈ vrTs xs
 | t :: ts, x :: xs, n, hn => by
  simp only [nilTs, vrTs, List.mem_append] at hn ⊢
  exact hn.imp (vrT_nil t x n) (vrTs_nil ts xs n)
 | [], _, n, hn => by simpa [nilTs] using hn
 | _ :: _, [], n, hn => by simpa [nilTs] using hn

theorem isV_local {o : Oper} (e2 : ∀ (x : Operand), x ∈ o.op.operands.toList → opT G σ x = opT G τ x) (e3 : ∀ (xs : List Operand), (∀ x ∈ xs, x ∈ o.op.operands.toList) → mapT (opT G σ) xs = mapT (opT G τ) xs) : isV L G τ o = isV L G σ o := by
 unfold isV
 cases ho : o.op <;> simp only [ho, Op.operands, Call.operands] at e2 e3 ⊢
 case load => rw [← e2 _ (by simp)]
 case store => rw [← e2 _ (by simp)]
 case fieldAddr => rw [← e2 _ (by simp)]
 case indexAddr => rw [← e2 _ (by simp)]
 case slice => rw [← e2 _ (by simp)]
 case call c =>
  obtain ⟨callee, args, ts⟩ := c
  cases callee with
  | value f =>
   simp only at e2 e3 ⊢
   rw [← e2 f (by simp), ← e3 args.toList (fun x hx => by simp at hx ⊢; exact .inr hx)]
  | builtin b =>
   simp only at e2 e3
   cases b <;> try rfl
   ·simp only
    split
    ·rename_i s r t q hl hq
     rw [← e2 s (by
       have : s ∈ args.toList := by rw [hl]; simp
       simpa using this)]
    ·rfl
   ·simp only
    split
    ·rename_i s hl
     rw [← e2 s (by
       have : s ∈ args.toList := by rw [hl]; simp
       simpa using this)]
    ·rfl
  | invoke => rfl

theorem rmFreeV_local {σ τ : St} {dst : Option Tmp} (h : ∀ d, dst = some d → look σ.h (rm d) = look τ.h (rm d)) (h' : ∀ d, dst = some d → look σ.h (rmB d) = look τ.h (rmB d)) : rmFreeV σ dst = rmFreeV τ dst := by
 unfold rmFreeV
 cases dst with
 | none => rfl
 | some d => simp only [h d rfl, h' d rfl]
theorem aopV_local {Pu : Nat → Bool} (hPu : PuOk Γ Pu) {o : Oper} {r : Res} (h : aopV L Γ G σ o = some r) (ha : Ag (tmpsOf o.op.operands.toList ++ rs) (hrV L Pu G σ o) σ τ) :
  aopV L Γ G τ o = some r ∧ hrV L Pu G τ o = hrV L Pu G σ o := by
 have hin : ∀ t, Operand.tmp t ∈ o.op.operands.toList → t ∈ tmpsOf o.op.operands.toList ++ rs := fun t ht => List.mem_append_left _ (mem_tmpsOf ht)
 have e1 : ∀ (x : Operand), x ∈ o.op.operands.toList → opd G σ x = opd G τ x := fun x hx => opd_local ha.s ha.g fun t e => hin t (e ▸ hx)
 have e2 : ∀ (x : Operand), x ∈ o.op.operands.toList → opT G σ x = opT G τ x := fun x hx => opT_local ha.s ha.g fun t e => hin t (e ▸ hx)
 have e3 : ∀ (xs : List Operand), (∀ x ∈ xs, x ∈ o.op.operands.toList) → mapT (opT G σ) xs = mapT (opT G τ) xs := fun xs hx => mapT_local ha.s ha.g fun t ht => hin t (hx _ ht)
 have e4 : ∀ (xs : List (Nat × Operand)), (∀ x ∈ xs.map (·.2), x ∈ o.op.operands.toList) → mapP (opT G σ) xs = mapP (opT G τ) xs := fun xs hx => mapP_local ha.s ha.g fun t ht => hin t (hx _ ht)
 have hh := ha.h
 clear ha hin
 unfold aopV at h ⊢
 unfold hrV at hh ⊢
 have rml : ∀ l : List Nat, (∀ d, o.dst = some d → rm d ∈ l) → (∀ n, n ∈ l → look σ.h n = look τ.h n) → rmFree τ o.dst = rmFree σ o.dst := fun l h1 h2 => (rmFree_local fun d hd => h2 _ (h1 d hd)).symm
 cases ho : o.op <;> simp only [ho] at h hh ⊢ <;> simp only [ho, Op.operands, Call.operands] at e1 e2 e3 e4
 all_goals first | (cases h; done) | skip
 case move x =>
  refine ⟨?_, trivial⟩
  unfold vNil at h ⊢
  rw [rmFreeV_local (σ := σ) (τ := τ) (fun d hd => hh _ fun l hl => by injection hl with hl; rw [← hl, hd]; simp [opN]) (fun d hd => hh _ fun l hl => by injection hl with hl; rw [← hl, hd]; simp [opN])] at h
  exact h
 case assign x =>
  refine ⟨?_, trivial⟩
  unfold vNil at h ⊢
  rw [rmFreeV_local (σ := σ) (τ := τ) (fun d hd => hh _ fun l hl => by injection hl with hl; rw [← hl, hd]; simp [opN]) (fun d hd => hh _ fun l hl => by injection hl with hl; rw [← hl, hd]; simp [opN])] at h
  exact h
 case alloc t =>
  refine ⟨?_, trivial⟩
  unfold vAlloc at h ⊢
  cases hd : o.dst with
  | none => rw [hd] at h; cases hL : L t <;> rw [hL] at h <;> cases h
  | some d =>
   rw [hd] at h hh
   cases hL : L t with
   | none => rw [hL] at h; cases h
   | some y =>
    rw [hL] at h
    have hk : ∀ n, n ∈ roomN L t (some d) → look σ.h n = look τ.h n := fun n hn => hh n fun l hl => by injection hl with hl; rw [← hl]; exact hn
    simp only at h ⊢
    rw [← hk d (by simp [roomN]), ← rooms_congr (hp := look σ.h) (hp' := look τ.h) fun q hq => hk _ (by simp only [roomN, hL, List.mem_cons, List.mem_map]; exact .inr ⟨q, hq, rfl⟩)]
    exact h
 case build t parts =>
  refine ⟨?_, trivial⟩
  have hab : aBuild L G τ t parts.toList = aBuild L G σ t parts.toList := by
   unfold aBuild
   rw [← e4 parts.toList (fun x hx => by simpa using hx)]
  unfold vBuild at h ⊢
  rw [hab]
  cases hd : o.dst with
  | none => rw [hd] at h; cases hL : L t <;> rw [hL] at h <;> cases h
  | some d =>
   rw [hd] at h hh
   cases hL : L t with
   | none => rw [hL] at h; cases h
   | some y =>
    rw [hL] at h
    have hk : ∀ n, n ∈ roomN L t (some d) → look σ.h n = look τ.h n := fun n hn => hh n fun l hl => by injection hl with hl; rw [← hl]; exact hn
    have hr : rooms (look τ.h) d y.cv = rooms (look σ.h) d y.cv := funext fun cs => (rooms_congr (hp := look σ.h) (hp' := look τ.h) fun q hq => hk _ (by simp only [roomN, hL, List.mem_cons, List.mem_map]; exact .inr ⟨q, hq, rfl⟩)).symm
    cases hb : aBuild L G σ t parts.toList with
    | none => rw [hb] at h; cases h
    | some r0 =>
     rw [hb] at h
     simp only at h ⊢
     rw [hr]
     exact h
 case buildSlice t len parts =>
  refine ⟨?_, trivial⟩
  unfold vRows at h ⊢
  rw [rml (opN (o.dst.map rm)) (fun d hd => by rw [hd]; simp [opN]) (fun n hn => hh n fun l hl => by injection hl with hl; rw [← hl]; exact hn), ← e4 parts.toList (fun x hx => by simpa using hx)]
  exact h
 case makeSlice t x y =>
  refine ⟨?_, trivial⟩
  unfold vMakeS at h ⊢
  rw [rml (opN (o.dst.map rm)) (fun d hd => by rw [hd]; simp [opN]) (fun n hn => hh n fun l hl => by injection hl with hl; rw [← hl]; exact hn), ← e2 x (by simp), ← e2 y (by simp)]
  exact h
 case load t p =>
  rw [← e2 p (by simp)]
  refine ⟨?_, rfl⟩
  unfold vLoad at h ⊢
  rw [← e2 p (by simp)]
  split at h
  ·rename_i y n k sz j off wd hy hp
   rw [hp] at hh
   rw [← hh n (fun l hl => by injection hl with hl; rw [← hl]; simp [opN, isVp])]
   exact h
  ·cases h
 case store t p x =>
  rw [← e2 p (by simp)]
  refine ⟨?_, rfl⟩
  unfold vStore at h ⊢
  rw [← e2 p (by simp), ← e2 x (by simp)]
  split at h
  ·rename_i y n k sz j off wd v hy hp hx
   rw [hp] at hh
   rw [← hh n (fun l hl => by injection hl with hl; rw [← hl]; simp [opN, isVp])]
   exact h
  ·cases h
 case fieldAddr t p i =>
  rw [← e2 p (by simp)]
  refine ⟨?_, rfl⟩
  unfold vField at h ⊢
  rw [← e2 p (by simp)]
  split at h
  ·rename_i y n k sz j off wd hy hp
   rw [hp] at hh
   rw [← hh n (fun l hl => by injection hl with hl; rw [← hl]; simp [opN, isVp])]
   exact h
  ·cases h
 case indexAddr t x i =>
  rw [← e2 x (by simp)]
  refine ⟨?_, rfl⟩
  unfold vIndex at h ⊢
  rw [← e2 x (by simp), ← e2 i (by simp)]
  split at h
  ·rename_i y n k kk j hy hp hq
   rw [hp] at hh
   rw [← hh n (fun l hl => by injection hl with hl; rw [← hl]; simp [opN, isVr])]
   exact h
  ·cases h
 case slice t x lo hi mx =>
  rw [← e2 x (by simp)]
  refine ⟨?_, rfl⟩
  unfold vSlice at h ⊢
  rw [← e2 x (by simp)]
  split at h
  ·rename_i y n k hy hp
   rw [hp] at hh
   rw [← hh n (fun l hl => by injection hl with hl; rw [← hl]; simp [opN, isVr])]
   split at h
   ·rename_i τ' e l hn
    rw [← bnd_local (σ := σ) (τ := τ) (d := 0) (y := lo) fun z hz => e2 z (by subst hz; simp), ← bnd_local (σ := σ) (τ := τ) (d := (l.length : Int)) (y := hi) fun z hz => e2 z (by subst hz; simp)]
    exact h
   ·cases h
  ·cases h
 case call c =>
  obtain ⟨callee, args, ts⟩ := c
  cases callee with
  | value f =>
   simp only at e2 e3 h hh ⊢
   have hop := e2 f (by simp)
   have har := e3 args.toList (fun x hx => by simp at hx ⊢; exact .inr hx)
   rw [← hop, ← har]
   refine ⟨?_, ?_⟩
   rotate_left
   ·cases hf : opT G σ f with
    | none => rfl
    | some fv =>
     match fv with
     | .one (.clo fid fi ca) =>
      rw [hf] at hh
      simp only at hh ⊢
      by_cases hpu : Pu fid = true
      ·rw [if_pos hpu] at hh
       rw [if_pos hpu, if_pos hpu]
       rw [flat_congr (f := bOf τ.h) (g := bOf σ.h) fun n hn => by unfold bOf; rw [hh n fun l hl => by injection hl with hl; rw [← hl]; exact List.mem_cons_of_mem _ (List.mem_append_left _ hn)]]
      ·rw [if_neg hpu, if_neg hpu]
     | .one (.d _) => rfl
     | .one (.ptr _ _) => rfl
     | .one (.dptr _ _) => rfl
     | .one (.own _ _) => rfl
     | .one (.mp _) => rfl
     | .one (.yl _) => rfl
     | .one (.vr _ _) => rfl
     | .one (.vp _ _ _ _ _ _) => rfl
     | .one (.nn _ _) => rfl
     | .one (.kn _) => rfl
     | .agg _ => rfl
   unfold vCall aCall at h ⊢
   rw [← hop, ← har]
   cases hf : opT G σ f with
   | none => rw [hf] at h; cases hx : mapT (opT G σ) args.toList <;> simp [hx] at h
   | some fv =>
    rw [hf] at h hh
    cases hx : mapT (opT G σ) args.toList with
    | none => rw [hx] at h; simp at h
    | some xs =>
     rw [hx] at h hh
     match fv with
     | .one (.clo fid fi ca) =>
      simp only at h hh ⊢
      cases hcon : Γ fid with
      | none => rw [hcon] at h; simp at h
      | some con =>
       rw [hcon] at h
       simp only at h ⊢
       by_cases hpu : Pu fid = true
       ·have hp := hPu fid con hpu hcon
        rw [if_pos hpu] at hh
        have hk : Eqs σ.h τ.h (vrTs xs) := fun n hn => ⟨hh n fun l hl => by injection hl with hl; rw [← hl]; exact List.mem_cons_of_mem _ (List.mem_append_left _ hn), fun b hb => hh b fun l hl => by injection hl with hl; rw [← hl]; exact List.mem_cons_of_mem _ (List.mem_append_right _ (List.mem_flatMap.2 ⟨n, hn, hb⟩))⟩
        have hkf := hh (100000 + 100 * o.dst.getD 0) fun l hl => by injection hl with hl; rw [← hl]; exact List.mem_cons_self ..
        have hfz : frzTs τ.h (nilTs L ts.toList (stT xs)) = frzTs σ.h (nilTs L ts.toList (stT xs)) := (frzTs_congr fun n hn => hk n (by have := vrTs_nil _ _ n hn; rwa [vrTs_st] at this)).symm
        rw [hp _ (look τ.h) (look σ.h) _ hkf.symm, hfz]
        rcases hq : frzTs σ.h (nilTs L ts.toList (stT xs)) with ⟨ps, ys, es⟩
        rw [hq] at h
        simp only at h ⊢
        rw [hp _ (look (upds es τ.h)) (look (upds es σ.h)) _ (look_upds_eq hkf.symm)]
        exact h
       ·rw [if_neg hpu] at hh
        have hlk : look τ.h = look σ.h := by funext m; exact (hh m (fun l hl => by cases hl)).symm
        have hfz : frzTs τ.h (nilTs L ts.toList (stT xs)) = frzTs σ.h (nilTs L ts.toList (stT xs)) := frzTs_congr fun n _ => ⟨by rw [hlk], fun b _ => by rw [hlk]⟩
        rw [hlk, hfz]
        rcases hq : frzTs σ.h (nilTs L ts.toList (stT xs)) with ⟨ps, ys, es⟩
        rw [hq] at h
        simp only at h ⊢
        have : look (upds es τ.h) = look (upds es σ.h) := by funext m; exact look_upds_eq (by rw [hlk])
        rw [this]
        exact h
     | .one (.d _) => simp at h
     | .one (.ptr _ _) => simp at h
     | .one (.dptr _ _) => simp at h
     | .one (.own _ _) => simp at h
     | .one (.mp _) => simp at h
     | .one (.yl _) => simp at h
     | .one (.vr _ _) => simp at h
     | .one (.vp _ _ _ _ _ _) => simp at h
     | .agg _ => simp at h
  | builtin b =>
   simp only at e2 e3
   cases b <;> simp only at h hh ⊢ <;> first | (cases h; done) | skip
   ·rw [← e3 args.toList (fun x hx => by simpa using hx)]
    split at h
    ·rename_i s x hxs
     match hl : args.toList with
     | [] => rw [hl] at hxs; cases hxs
     | p :: q =>
      rw [hl] at hh
      simp only at hh ⊢
      rw [← e2 p (by
        have : p ∈ args.toList := by rw [hl]; simp
        simpa using this)]
      refine ⟨?_, rfl⟩
      have hps : opT G σ p = some s := by
       rw [hl] at hxs
       simp only [mapT] at hxs
       split at hxs
       ·rename_i u hu
        split at hxs
        ·injection hxs with hxs; injection hxs with h1 h2; rw [hu, h1]
        ·cases hxs
       ·cases hxs
      rw [hps] at hh
      have hk : ∀ n, n ∈ opN (isVr (some s)) ++ opN (o.dst.map rm) → look σ.h n = look τ.h n := fun n hn => hh n fun l hl' => by injection hl' with hl'; rw [← hl']; exact hn
      unfold vAppend at h ⊢
      split at h
      ·split at h
       ·rename_i htt
        rw [if_pos htt]
        split at h
        ·split at h
         ·split at h
          ·rename_i n k hl'
           rw [← hk n (by simp [isVr, opN])]
           exact h
          ·split at h
           ·rename_i d hnil hd
            rw [← hk (rm d) (by rw [hd]; simp [opN])]
            exact h
           ·cases h
          ·cases h
         ·cases h
        ·cases h
       ·cases h
      ·cases h
    ·cases h
   ·rw [← e3 args.toList (fun x hx => by simpa using hx)]
    exact ⟨h, by first | rfl | trivial⟩
  | invoke => cases h

theorem aop_local {Pu : Nat → Bool} (hPu : PuOk Γ Pu) {o : Oper} {r : Res} (h : aop L Γ G σ o = some r) (ha : Ag (tmpsOf o.op.operands.toList ++ rs) (heapReads L Pu G σ o) σ τ) :
  aop L Γ G τ o = some r ∧ heapReads L Pu G τ o = heapReads L Pu G σ o := by
 have hin : ∀ t, Operand.tmp t ∈ o.op.operands.toList → t ∈ tmpsOf o.op.operands.toList ++ rs := fun t ht => List.mem_append_left _ (mem_tmpsOf ht)
 have hV : isV L G τ o = isV L G σ o := isV_local (fun x hx => opT_local ha.s ha.g fun t e => hin t (e ▸ hx)) fun xs hx => mapT_local ha.s ha.g fun t ht => hin t (hx _ ht)
 unfold aop at h ⊢
 unfold heapReads at ha ⊢
 rw [hV]
 cases hv : isV L G σ o with
 | true => rw [hv] at h ha; exact aopV_local hPu h ha
 | false => rw [hv] at h ha; exact aop0_local hPu h ha

theorem gbool_local {σ τ : St} : ∀ {G : List (Nat × Bool)}, (∀ t, t ∈ gslots G → look σ.s t = look τ.s t) → (∀ t, t ∈ gslots G → look σ.g t = look τ.g t) → gbool σ G = gbool τ G
 | [], _, _ => rfl
 | [(t, w)], hs, hg => by
  have h1 := hs t (by simp [gslots])
  have h2 := hg t (by simp [gslots])
  simp only [gbool, h1, h2]
 | (t, w) :: (t', w') :: r, hs, hg => by
  have h2 := hg t (by simp [gslots])
  have ih := gbool_local (G := (t', w') :: r) (fun t ht => hs t (by simp only [gslots, List.mem_cons] at ht ⊢; exact .inr ht)) (fun t ht => hg t (by simp only [gslots, List.mem_cons] at ht ⊢; exact .inr ht))
  unfold gbool
  simp only [h2, ih]
theorem gres_fsts {G : List (Nat × Bool)} {σ : St} {r r' : Res} (h : gres σ G r = some r') : fsts r'.h = fsts r.h := by
 unfold gres at h
 split at h
 ·injection h with h; rw [h]
 ·injection h with h; rw [h]
 ·rename_i n o _ hh
  split at h
  ·split at h
   ·injection h with h; rw [← h, hh]; rfl
   ·cases h
  ·cases h
 ·cases h
theorem Ag.less {rs : List Nat} {hr : Option (List Nat)} {w : List Nat} {G : List (Nat × Bool)} (ha : Ag rs (withW G w hr) σ τ) : Ag rs hr σ τ := by
 refine ⟨ha.s, ha.g, fun n hn => ha.h n fun l hl => ?_⟩
 unfold withW at hl
 split at hl
 ·exact hn l hl
 ·cases hl
 ·injection hl with hl; rw [← hl]; exact List.mem_append_right _ (hn _ rfl)
theorem aopG_local {Pu : Nat → Bool} (hPu : PuOk Γ Pu) {o : Oper} {r : Res} (h : aopG L Γ G σ o = some r) (hrs : ∀ t, t ∈ gslots G → t ∈ rs) (ha : Ag (tmpsOf o.op.operands.toList ++ rs) (withW G (fsts r.h) (heapReads L Pu G σ o)) σ τ) :
  aopG L Γ G τ o = some r ∧ heapReads L Pu G τ o = heapReads L Pu G σ o := by
 unfold aopG at h ⊢
 split at h
 ·rename_i r0 hrO
  obtain ⟨h1, h2⟩ := aop_local (rs := rs) hPu hrO ha.less
  rw [h1]
  refine ⟨?_, h2⟩
  have hb := gbool_local (G := G) (fun t ht => ha.s t (List.mem_append_right _ (hrs t ht))) (fun t ht => ha.g t (List.mem_append_right _ (hrs t ht)))
  have hf := gres_fsts h
  rw [← h]
  unfold gres
  cases G with
  | nil => rfl
  | cons q G =>
   simp only
   match hh : r0.h with
   | [] => rfl
   | [(n, o')] =>
    simp only
    have hn : look σ.h n = look τ.h n := ha.h n fun l hl => by
     unfold withW at hl
     cases hq : heapReads L Pu (q :: G) σ o with
     | none => rw [hq] at hl; cases hl
     | some l' =>
      rw [hq] at hl
      injection hl with hl
      rw [← hl, hf, hh]
      exact List.mem_append_left _ (by simp [fsts])
    rw [hb, hn]
   | _ :: _ :: _ => rfl
 ·cases h
end
end Go.Sy
namespace Go.Sy
variable {P : Program} {L : Nat → Option Lay} {Γ : Nat → Option Con} {F : Fence} {n : Nat} {Pu : Nat → Bool} {N : Nat} {ops : List Oper}

structure Eqv (σ τ : St) : Prop where
 s : ∀ k, look σ.s k = look τ.s k
 g : ∀ k, look σ.g k = look τ.g k
 gf : ∀ d, gfree d σ.g = gfree d τ.g
 h : ∀ k, look σ.h k = look τ.h k
theorem Eqv.refl {σ : St} : Eqv σ σ := ⟨fun _ => rfl, fun _ => rfl, fun _ => rfl, fun _ => rfl⟩
theorem Eqv.trans {σ τ υ : St} (a : Eqv σ τ) (b : Eqv τ υ) : Eqv σ υ := ⟨fun k => (a.s k).trans (b.s k), fun k => (a.g k).trans (b.g k), fun k => (a.gf k).trans (b.gf k), fun k => (a.h k).trans (b.h k)⟩

def app (o : Oper) (G : List (Nat × Bool)) (r : Res) (σ : St) : St :=
 match o.dst, G with
 | none, _ => { σ with h := upds r.h σ.h }
 | some d, [] => { σ with s := (d, r.v) :: σ.s, h := upds r.h σ.h }
 | some d, (t, w) :: _ => match r.v with
  | .t x => { σ with g := (d, (t, w, x)) :: σ.g, h := upds r.h σ.h }
  | _ => { σ with h := upds r.h σ.h }
def okc (N : Nat) (o : Oper) (G : List (Nat × Bool)) (r : Res) (σ : St) : Prop :=
 match o.dst, G with
 | none, [] => True
 | none, _ :: _ => False
 | some d, [] => gfree d σ.g = true ∧ d < N
 | some d, (t, _) :: _ => gfree d σ.g = true ∧ d ≠ t ∧ d < N ∧ (∃ x, r.v = .t x) ∧ True ∧ look σ.s d = none

theorem astep_iff {o : Oper} {σ σ' : St} {c : List Cd} : astep L Γ N ops o σ = some (c, σ') ↔
  (o.guard.isSome && (chain ops 10 o.guard).isEmpty) = false ∧ ∃ gs r, guards σ (chain ops 10 o.guard) = some gs ∧ aopG L Γ (chain ops 10 o.guard) σ o = some r ∧ okc N o (chain ops 10 o.guard) r σ ∧ c = cds gs r ∧ σ' = app o (chain ops 10 o.guard) r σ := by
 unfold astep
 constructor
 ·intro h
  split at h
  ·cases h
  ·rename_i hchk
   refine ⟨by simpa using hchk, ?_⟩
   split at h
   ·cases h
   ·rename_i gs hgs
    split at h
    ·cases h
    ·rename_i r hr
     refine ⟨gs, r, hgs, hr, ?_⟩
     unfold okc app
     cases hd : o.dst with
     | none =>
      cases hG : chain ops 10 o.guard with
      | nil => simp only [hd, hG] at h; injection h with h; injection h with h1 h2; exact ⟨trivial, h1.symm, h2.symm⟩
      | cons q G => simp only [hd, hG] at h; cases h
     | some d =>
      cases hG : chain ops 10 o.guard with
      | nil =>
       simp only [hd, hG] at h
       split at h
       ·rename_i hf
        simp only [Bool.and_eq_true, decide_eq_true_eq] at hf
        injection h with h; injection h with h1 h2
        exact ⟨hf, h1.symm, h2.symm⟩
       ·cases h
      | cons q G =>
       obtain ⟨t, w⟩ := q
       simp only [hd, hG] at h
       split at h
       ·rename_i hf
        simp only [Bool.and_eq_true, decide_eq_true_eq, bne_iff_ne, ne_eq] at hf
        split at h
        ·rename_i x hx hl
         injection h with h; injection h with h1 h2
         simp only [hx]
         exact ⟨⟨hf.1, hf.2.1, hf.2.2, ⟨x, rfl⟩, trivial, hl⟩, h1.symm, h2.symm⟩
        ·cases h
       ·cases h
 ·rintro ⟨hchk, gs, r, hgs, hr, hok, rfl, rfl⟩
  rw [if_neg (by rw [hchk]; simp)]
  rw [hgs]
  simp only
  rw [hr]
  simp only
  unfold okc at hok
  unfold app
  cases hd : o.dst with
  | none =>
   cases hG : chain ops 10 o.guard with
   | nil => rfl
   | cons q G => rw [hd, hG] at hok; exact hok.elim
  | some d =>
   cases hG : chain ops 10 o.guard with
   | nil =>
    rw [hd, hG] at hok
    simp only
    rw [if_pos (by simp [hok.1, hok.2])]
   | cons q G =>
    obtain ⟨t, w⟩ := q
    rw [hd, hG] at hok
    obtain ⟨h1, h2, h3, ⟨x, h4⟩, h5, h6⟩ := hok
    simp only [h4]
    rw [if_pos (by simp [h1, h2, h3]), h6]

theorem guards_local {σ τ : St} : ∀ {G : List (Nat × Bool)}, (∀ t, t ∈ gslots G → look σ.s t = look τ.s t) → (∀ t, t ∈ gslots G → look σ.g t = look τ.g t) → guards σ G = guards τ G
 | [], _, _ => rfl
 | [(t, w)], hs, hg => by
  have h1 := hs t (by simp [gslots])
  have h2 := hg t (by simp [gslots])
  simp only [guards, h1, h2]
 | (t, w) :: (t', w') :: r, hs, hg => by
  have h2 := hg t (by simp [gslots])
  have ih := guards_local (G := (t', w') :: r) (fun t ht => hs t (by simp only [gslots, List.mem_cons] at ht ⊢; exact .inr ht)) (fun t ht => hg t (by simp only [gslots, List.mem_cons] at ht ⊢; exact .inr ht))
  unfold guards
  simp only [h2, ih]

theorem gfree_cons {d a t : Nat} {w : Bool} {x : TV} {g : List (Nat × (Nat × Bool × TV))} : gfree d ((a, (t, w, x)) :: g) = (a != d && (t != d && gfree d g)) := rfl

theorem look_upds_congr {up h h' : List (Nat × HO)} {k : Nat} (e : look h k = look h' k) : look (upds up h) k = look (upds up h') k := by
 rw [look_upds, look_upds, e]

theorem app_congr {o : Oper} {G : List (Nat × Bool)} {r : Res} {σ τ : St} (e : Eqv σ τ) : Eqv (app o G r σ) (app o G r τ) := by
 unfold app
 cases o.dst with
 | none => exact ⟨e.s, e.g, e.gf, fun k => look_upds_congr (e.h k)⟩
 | some d =>
  cases G with
  | nil => exact ⟨fun k => by simp only [look_cons, e.s], e.g, e.gf, fun k => look_upds_congr (e.h k)⟩
  | cons q G =>
   obtain ⟨t, w⟩ := q
   simp only
   split
   ·exact ⟨e.s, fun k => by simp only [look_cons, e.g], fun d' => by simp only [gfree_cons, e.gf], fun k => look_upds_congr (e.h k)⟩
   ·exact ⟨e.s, e.g, e.gf, fun k => look_upds_congr (e.h k)⟩

theorem okc_congr {o : Oper} {G : List (Nat × Bool)} {r : Res} {σ τ : St} (e : Eqv σ τ) (h : okc N o G r σ) : okc N o G r τ := by
 unfold okc at h ⊢
 cases hd : o.dst with
 | none => cases G <;> simp_all
 | some d =>
  cases G with
  | nil => rw [hd] at h; simp only at h ⊢; rw [← e.gf]; exact h
  | cons q G =>
   obtain ⟨t, w⟩ := q
   rw [hd] at h
   simp only at h ⊢
   rw [← e.gf, ← e.s]
   exact h

theorem step_at (hPu : PuOk Γ Pu) {o : Oper} {σ τ σ' : St} {c : List Cd} {f : Foot} (hs : astep L Γ N ops o σ = some (c, σ')) (hf : footOf L Γ Pu ops o σ = some f) (ha : Ag f.rs f.hr σ τ) :
  ∃ r, aopG L Γ (chain ops 10 o.guard) σ o = some r ∧ σ' = app o (chain ops 10 o.guard) r σ ∧ fsts r.h = f.hw ∧ o.dst = f.d ∧ gslots (chain ops 10 o.guard) ⊆ f.rs ∧ okc N o (chain ops 10 o.guard) r σ ∧
   (okc N o (chain ops 10 o.guard) r τ → astep L Γ N ops o τ = some (c, app o (chain ops 10 o.guard) r τ) ∧ footOf L Γ Pu ops o τ = some f) := by
 obtain ⟨hchk, gs, r, hgs, hr, hok, rfl, rfl⟩ := astep_iff.1 hs
 unfold footOf at hf
 rw [hr] at hf
 injection hf with hf
 subst hf
 have hsub : ∀ t, t ∈ gslots (chain ops 10 o.guard) → t ∈ tmpsOf o.op.operands.toList ++ gslots (chain ops 10 o.guard) := fun t ht => List.mem_append_right _ ht
 obtain ⟨h1, h2⟩ := aopG_local (rs := gslots (chain ops 10 o.guard)) hPu hr (fun _ h => h) ha
 refine ⟨r, hr, rfl, rfl, rfl, hsub, hok, fun hok' => ⟨astep_iff.2 ⟨hchk, gs, r, ?_, h1, hok', rfl, rfl⟩, ?_⟩⟩
 ·rw [← guards_local (fun t ht => ha.s t (hsub t ht)) (fun t ht => ha.g t (hsub t ht))]; exact hgs
 ·unfold footOf; rw [h1, h2]

theorem look_fsts_none {up : List (Nat × HO)} {k : Nat} (h : k ∉ fsts up) : look up.reverse k = none := by
 cases hl : look up.reverse k with
 | none => rfl
 | some o =>
  exfalso
  have hm := look_mem hl
  rw [List.mem_reverse] at hm
  have : ∀ (l : List (Nat × HO)), (k, o) ∈ l → k ∈ fsts l := by
   intro l
   induction l with
   | nil => intro h; cases h
   | cons q l ih =>
    obtain ⟨a, x⟩ := q
    intro h
    rcases List.mem_cons.1 h with e | h
    ·injection e with e; subst e; exact List.mem_cons_self ..
    ·exact List.mem_cons_of_mem _ (ih h)
  exact h (this up hm)

theorem app_s {o : Oper} {G : List (Nat × Bool)} {r : Res} {σ : St} {t : Nat} (ht : o.dst ≠ some t) : look (app o G r σ).s t = look σ.s t := by
 unfold app
 cases hd : o.dst with
 | none => rfl
 | some d =>
  have hdt : ¬ d = t := fun e => ht (by rw [hd, e])
  cases G with
  | nil => simp only [look_cons, if_neg hdt]
  | cons q G => obtain ⟨t', w⟩ := q; simp only; split <;> rfl
theorem app_g {o : Oper} {G : List (Nat × Bool)} {r : Res} {σ : St} {t : Nat} (ht : o.dst ≠ some t) : look (app o G r σ).g t = look σ.g t := by
 unfold app
 cases hd : o.dst with
 | none => rfl
 | some d =>
  have hdt : ¬ d = t := fun e => ht (by rw [hd, e])
  cases G with
  | nil => rfl
  | cons q G =>
   obtain ⟨t', w⟩ := q
   simp only
   split
   ·simp only [look_cons, if_neg hdt]
   ·rfl
theorem app_h {o : Oper} {G : List (Nat × Bool)} {r : Res} {σ : St} {k : Nat} (hk : k ∉ fsts r.h) : look (app o G r σ).h k = look σ.h k := by
 have key : look (upds r.h σ.h) k = look σ.h k := by rw [look_upds, look_fsts_none hk]
 unfold app
 cases o.dst with
 | none => exact key
 | some d => cases G with
  | nil => exact key
  | cons q G => obtain ⟨t', w⟩ := q; simp only; split <;> exact key
theorem app_gfree {o : Oper} {G : List (Nat × Bool)} {r : Res} {σ : St} {d : Nat} (h : gfree d (app o G r σ).g = true) : gfree d σ.g = true := by
 unfold app at h
 cases hd : o.dst with
 | none => rw [hd] at h; exact h
 | some d' =>
  rw [hd] at h
  cases G with
  | nil => exact h
  | cons q G =>
   obtain ⟨t', w⟩ := q
   simp only at h
   split at h
   ·rw [gfree_cons] at h
    simp only [Bool.and_eq_true] at h
    exact h.2.2
   ·exact h
theorem app_gfree' {o : Oper} {G : List (Nat × Bool)} {r : Res} {σ : St} {d : Nat} (h : gfree d σ.g = true) (h1 : o.dst ≠ some d) (h2 : d ∉ gslots G) : gfree d (app o G r σ).g = true := by
 unfold app
 cases hd : o.dst with
 | none => exact h
 | some d' =>
  cases G with
  | nil => exact h
  | cons q G =>
   obtain ⟨t', w⟩ := q
   simp only
   split
   ·rw [gfree_cons]
    simp only [Bool.and_eq_true, bne_iff_ne, ne_eq]
    refine ⟨fun e => h1 (by rw [hd, e]), fun e => h2 (by simp [gslots, e]), h⟩
   ·exact h

theorem dIn_spec {d : Option Nat} {l : List Nat} (h : dIn d l = false) {t : Nat} (ht : t ∈ l) : d ≠ some t := by
 intro e
 subst e
 simp only [dIn] at h
 rw [mem_iff.2 ht] at h
 cases h
theorem disj_spec {b : Option (List Nat)} : ∀ {a : List Nat}, disj a b = true → ∀ k, (∀ l, b = some l → k ∈ l) → k ∉ a
 | [], _, _, _ => by simp
 | x :: r, h, k, hk => by
  simp only [disj, Bool.and_eq_true] at h
  cases b with
  | none => simp at h
  | some l =>
   simp only [Bool.not_eq_true'] at h
   intro hm
   rcases List.mem_cons.1 hm with e | hm
   ·have := mem_iff.2 (hk l rfl)
    rw [e, h.1] at this
    cases this
   ·exact disj_spec h.2 k hk hm

theorem okc_app_back {o o' : Oper} {G G' : List (Nat × Bool)} {r r' : Res} {σ : St} (h : okc N o G r (app o' G' r' σ)) : okc N o G r σ := by
 unfold okc at h ⊢
 cases hd : o.dst with
 | none => rw [hd] at h; cases G <;> exact h
 | some d =>
  rw [hd] at h
  cases G with
  | nil => exact ⟨app_gfree h.1, h.2⟩
  | cons q G =>
   obtain ⟨t, w⟩ := q
   simp only at h ⊢
   refine ⟨app_gfree h.1, h.2.1, h.2.2.1, h.2.2.2.1, h.2.2.2.2.1, ?_⟩
   have h6 := h.2.2.2.2.2
   unfold app at h6
   cases hd' : o'.dst with
   | none => rw [hd'] at h6; exact h6
   | some d' =>
    rw [hd'] at h6
    cases G' with
    | nil => simp only [look_cons] at h6; split at h6 <;> first | cases h6 | exact h6
    | cons q' G' => obtain ⟨t', w'⟩ := q'; simp only at h6; split at h6 <;> exact h6
theorem okc_app {o o' : Oper} {G G' : List (Nat × Bool)} {r r' : Res} {σ : St} (h : okc N o G r σ) (h1 : dNe o'.dst o.dst = true) (h2 : ∀ d, o.dst = some d → d ∉ gslots G') : okc N o G r (app o' G' r' σ) := by
 unfold okc at h ⊢
 cases hd : o.dst with
 | none => rw [hd] at h; cases G <;> exact h
 | some d =>
  rw [hd] at h
  have hne : o'.dst ≠ some d := by
   intro e
   rw [e, hd] at h1
   simp [dNe] at h1
  cases G with
  | nil => exact ⟨app_gfree' h.1 hne (h2 d hd), h.2⟩
  | cons q G =>
   obtain ⟨t, w⟩ := q
   simp only at h ⊢
   exact ⟨app_gfree' h.1 hne (h2 d hd), h.2.1, h.2.2.1, h.2.2.2.1, h.2.2.2.2.1, by rw [app_s hne]; exact h.2.2.2.2.2⟩

theorem app_comm {o o' : Oper} {G G' : List (Nat × Bool)} {r r' : Res} {σ : St} (h1 : dNe o.dst o'.dst = true) (h2 : disj (fsts r.h) (some (fsts r'.h)) = true) : Eqv (app o' G' r' (app o G r σ)) (app o G r (app o' G' r' σ)) := by
 have hcomm : ∀ k, look (upds r'.h (upds r.h σ.h)) k = look (upds r.h (upds r'.h σ.h)) k := by
  intro k
  rw [look_upds, look_upds, look_upds, look_upds]
  cases ha : look r.h.reverse k with
  | none => cases look r'.h.reverse k <;> rfl
  | some x =>
   cases hb : look r'.h.reverse k with
   | none => rfl
   | some y =>
    exfalso
    have ha' : k ∈ fsts r.h := by
     by_cases h : k ∈ fsts r.h
     ·exact h
     ·rw [look_fsts_none h] at ha; cases ha
    have hb' : k ∈ fsts r'.h := by
     by_cases h : k ∈ fsts r'.h
     ·exact h
     ·rw [look_fsts_none h] at hb; cases hb
    exact disj_spec h2 k (fun l hl => by injection hl with hl; rw [← hl]; exact hb') ha'
 have hne : ∀ d d', o.dst = some d → o'.dst = some d' → d ≠ d' := by
  intro d d' e e' h
  rw [e, e', h] at h1
  simp [dNe] at h1
 unfold app
 cases hd : o.dst with
 | none =>
  cases hd' : o'.dst with
  | none => exact ⟨fun _ => rfl, fun _ => rfl, fun _ => rfl, hcomm⟩
  | some d' =>
   cases G' with
   | nil => exact ⟨fun _ => rfl, fun _ => rfl, fun _ => rfl, hcomm⟩
   | cons q' G' => obtain ⟨t', w'⟩ := q'; cases hv' : r'.v <;> exact ⟨fun _ => rfl, fun _ => rfl, fun _ => rfl, hcomm⟩
 | some d =>
  cases hd' : o'.dst with
  | none =>
   cases G with
   | nil => exact ⟨fun _ => rfl, fun _ => rfl, fun _ => rfl, hcomm⟩
   | cons q G => obtain ⟨t, w⟩ := q; cases hv : r.v <;> exact ⟨fun _ => rfl, fun _ => rfl, fun _ => rfl, hcomm⟩
  | some d' =>
   have hdd := hne d d' hd hd'
   have hsw : ∀ {β : Type} (x y : β) (l : List (Nat × β)) (k : Nat), look ((d', y) :: (d, x) :: l) k = look ((d, x) :: (d', y) :: l) k := by
    intro β x y l k
    simp only [look_cons]
    by_cases e1 : d' = k
    ·have e2 : ¬ d = k := fun e2 => hdd (e2.trans e1.symm)
     simp [e1, e2]
    ·simp [e1]
   cases G with
   | nil =>
    cases G' with
    | nil => exact ⟨fun k => hsw _ _ _ k, fun _ => rfl, fun _ => rfl, hcomm⟩
    | cons q' G' => obtain ⟨t', w'⟩ := q'; cases hv' : r'.v <;> exact ⟨fun _ => rfl, fun _ => rfl, fun _ => rfl, hcomm⟩
   | cons q G =>
    obtain ⟨t, w⟩ := q
    cases G' with
    | nil => cases hv : r.v <;> exact ⟨fun _ => rfl, fun _ => rfl, fun _ => rfl, hcomm⟩
    | cons q' G' =>
     obtain ⟨t', w'⟩ := q'
     cases hv : r.v with
     | t x =>
      cases hv' : r'.v with
      | t x' =>
       refine ⟨fun _ => rfl, fun k => hsw _ _ _ k, fun e => ?_, hcomm⟩
       simp only [gfree_cons]
       cases d != e <;> cases t != e <;> cases d' != e <;> cases t' != e <;> cases gfree e σ.g <;> rfl
      | tup _ => exact ⟨fun _ => rfl, fun _ => rfl, fun _ => rfl, hcomm⟩
      | nx _ _ _ => exact ⟨fun _ => rfl, fun _ => rfl, fun _ => rfl, hcomm⟩
     | tup _ =>
      cases hv' : r'.v <;> exact ⟨fun _ => rfl, fun _ => rfl, fun _ => rfl, hcomm⟩
     | nx _ _ _ =>
      cases hv' : r'.v <;> exact ⟨fun _ => rfl, fun _ => rfl, fun _ => rfl, hcomm⟩

theorem apartF_spec {f g : Foot} (h : apartF f g = true) : dNe f.d g.d = true ∧ dIn f.d g.rs = false ∧ dIn g.d f.rs = false ∧ disj f.hw g.hr = true ∧ disj g.hw f.hr = true ∧ disj f.hw (some g.hw) = true := by
 simpa only [apartF, Bool.and_eq_true, Bool.not_eq_true'] using h

theorem swap (hPu : PuOk Γ Pu) {k i : Oper} {σ σk σki : St} {ck ci : List Cd} {fk fi : Foot} (h1 : footOf L Γ Pu ops k σ = some fk) (h2 : astep L Γ N ops k σ = some (ck, σk))
  (h3 : footOf L Γ Pu ops i σk = some fi) (h4 : astep L Γ N ops i σk = some (ci, σki)) (ha : apartF fk fi = true) :
  ∃ σi σik, footOf L Γ Pu ops i σ = some fi ∧ astep L Γ N ops i σ = some (ci, σi) ∧ footOf L Γ Pu ops k σi = some fk ∧ astep L Γ N ops k σi = some (ck, σik) ∧ Eqv σki σik := by
 obtain ⟨a1, a2, a3, a4, a5, a6⟩ := apartF_spec ha
 obtain ⟨rk, rk0, ek, hwk, hdk, gk, okk, _⟩ := step_at hPu h2 h1 (τ := σ) ⟨fun _ _ => rfl, fun _ _ => rfl, fun _ _ => rfl⟩
 subst ek
 have agi : Ag fi.rs fi.hr (app k (chain ops 10 k.guard) rk σ) σ := by
  refine ⟨fun t ht => app_s ?_, fun t ht => app_g ?_, fun m hm => app_h ?_⟩
  ·rw [hdk]; exact dIn_spec a2 ht
  ·rw [hdk]; exact dIn_spec a2 ht
  ·rw [hwk]; exact disj_spec a4 m hm
 obtain ⟨ri, _, ei, hwi, hdi, gi, oki, hi⟩ := step_at hPu h4 h3 agi
 subst ei
 obtain ⟨i1, i2⟩ := hi (okc_app_back oki)
 have agk : Ag fk.rs fk.hr σ (app i (chain ops 10 i.guard) ri σ) := by
  refine ⟨fun t ht => (app_s ?_).symm, fun t ht => (app_g ?_).symm, fun m hm => (app_h ?_).symm⟩
  ·rw [hdi]; exact dIn_spec a3 ht
  ·rw [hdi]; exact dIn_spec a3 ht
  ·rw [hwi]; exact disj_spec a5 m hm
 obtain ⟨rk', rk1, _, _, _, _, _, hk⟩ := step_at hPu h2 h1 agk
 obtain rfl : rk = rk' := Option.some.inj (rk0.symm.trans rk1)
 have hne : dNe i.dst k.dst = true := by
  rw [hdk, hdi]
  revert a1
  cases fk.d <;> cases fi.d <;> simp [dNe]
  intro h e
  exact h e.symm
 obtain ⟨k1, k2⟩ := hk (okc_app okk hne (fun d hd hg => by
  have := gi hg
  rw [hdk] at hd
  exact dIn_spec a2 this hd))
 exact ⟨_, _, i2, i1, k2, k1, app_comm (by rw [hdk, hdi]; exact a1) (by rw [hwk, hwi]; exact a6)⟩

inductive Run (L : Nat → Option Lay) (Γ : Nat → Option Con) (Pu : Nat → Bool) (N : Nat) (ops : List Oper) : List (Nat × Oper × Foot) → St → List Cd → St → Prop
 | nil {σ : St} : Run L Γ Pu N ops [] σ [] σ
 | cons {i : Nat} {o : Oper} {f : Foot} {l : List (Nat × Oper × Foot)} {σ σ1 σ' : St} {c cs : List Cd} (h1 : footOf L Γ Pu ops o σ = some f) (h2 : astep L Γ N ops o σ = some (c, σ1)) (h3 : Run L Γ Pu N ops l σ1 cs σ') :
   Run L Γ Pu N ops ((i, o, f) :: l) σ (c ++ cs) σ'

theorem step_congr (hPu : PuOk Γ Pu) {o : Oper} {σ τ σ' : St} {c : List Cd} {f : Foot} (h2 : astep L Γ N ops o σ = some (c, σ')) (h1 : footOf L Γ Pu ops o σ = some f) (e : Eqv σ τ) :
  ∃ τ', astep L Γ N ops o τ = some (c, τ') ∧ footOf L Γ Pu ops o τ = some f ∧ Eqv σ' τ' := by
 obtain ⟨r, _, er, _, _, _, ok, hk⟩ := step_at hPu h2 h1 (τ := τ) ⟨fun t _ => e.s t, fun t _ => e.g t, fun m _ => e.h m⟩
 obtain ⟨k1, k2⟩ := hk (okc_congr e ok)
 exact ⟨_, k1, k2, er ▸ app_congr e⟩

theorem Run.congr (hPu : PuOk Γ Pu) {l : List (Nat × Oper × Foot)} {σ σ' : St} {cs : List Cd} (h : Run L Γ Pu N ops l σ cs σ') : ∀ {τ : St}, Eqv σ τ → ∃ τ', Run L Γ Pu N ops l τ cs τ' ∧ Eqv σ' τ' := by
 induction h with
 | nil => intro τ e; exact ⟨τ, .nil, e⟩
 | cons h1 h2 _ ih =>
  intro τ e
  obtain ⟨τ1, k1, k2, k3⟩ := step_congr hPu h2 h1 e
  obtain ⟨τ', k4, k5⟩ := ih k3
  exact ⟨τ', .cons k2 k1 k4, k5⟩

theorem Run.front (hPu : PuOk Γ Pu) {q : Nat × Oper × Foot} {B : List (Nat × Oper × Foot)} : ∀ {A : List (Nat × Oper × Foot)} {σ σ' : St} {cs : List Cd}, Run L Γ Pu N ops (A ++ q :: B) σ cs σ' → (∀ k ∈ A, apartF k.2.2 q.2.2 = true) →
  ∃ ci σi cs' σ'', footOf L Γ Pu ops q.2.1 σ = some q.2.2 ∧ astep L Γ N ops q.2.1 σ = some (ci, σi) ∧ Run L Γ Pu N ops (A ++ B) σi cs' σ'' ∧ Eqv σ' σ'' ∧ ∀ x, x ∈ cs ↔ x ∈ ci ∨ x ∈ cs'
 | [], σ, σ', cs, h, _ => by
  cases h with
  | cons h1 h2 h3 => exact ⟨_, _, _, _, h1, h2, h3, Eqv.refl, fun x => by simp⟩
 | k :: A, σ, σ', cs, h, ha => by
  rw [List.cons_append] at h
  cases h with
  | @cons j o f _ _ σ1 _ c cs1 h1 h2 h3 =>
   obtain ⟨ci, σi, cs', σ'', g1, g2, g3, g4, g5⟩ := Run.front hPu h3 (fun k hk => ha k (List.mem_cons_of_mem _ hk))
   obtain ⟨τi, τik, s1, s2, s3, s4, s5⟩ := swap hPu h1 h2 g1 g2 (ha (j, o, f) (List.mem_cons_self ..))
   obtain ⟨ρ, r1, r2⟩ := g3.congr hPu s5
   exact ⟨ci, τi, c ++ cs', ρ, s1, s2, .cons s3 s4 r1, g4.trans r2, fun x => by
    rw [List.mem_append, g5 x, List.mem_append]
    exact ⟨fun h => h.elim (fun h => .inr (.inl h)) (fun h => h.elim .inl (fun h => .inr (.inr h))), fun h => h.elim (fun h => .inr (.inl h)) (fun h => h.elim .inl (fun h => .inr (.inr h)))⟩⟩
end Go.Sy
namespace Go.Sy
variable {P : Program} {L : Nat → Option Lay} {Γ : Nat → Option Con} {F : Fence} {n : Nat} {Pu : Nat → Bool} {N : Nat}

def Good (D : Nat → List Nat) (q : Nat × Oper × Foot) : Prop :=
 (∀ e ∈ q.2.1.after, Region.binds .any e = true → e.on < q.1) ∧ ∀ x ∈ D q.1, ∃ e ∈ q.2.1.after, Region.binds .any e = true ∧ (x = e.on ∨ x ∈ D e.on)
def Ahead (D : Nat → List Nat) (p q : Nat × Oper × Foot) : Prop := p.1 < q.1 ∧ (p.1 ∈ D q.1 ∨ apartF p.2.2 q.2.2 = true)

theorem mrg_mem {x : Nat} : ∀ {a m : List Nat}, x ∈ mrg a m → x ∈ a ∨ x ∈ m
 | [], m, h => .inr h
 | a :: r, m, h => by
  rw [mrg] at h
  split at h
  ·rcases mrg_mem h with h | h
   ·exact .inl (List.mem_cons_of_mem _ h)
   ·exact .inr h
  ·rcases List.mem_cons.1 h with h | h
   ·exact .inl (h ▸ List.mem_cons_self)
   ·rcases mrg_mem h with h | h
    ·exact .inl (List.mem_cons_of_mem _ h)
    ·exact .inr h
theorem depsOf_mem {acc : List (List Nat)} {o : Oper} {x : Nat} (h : x ∈ depsOf acc o) : ∃ e ∈ o.after, Region.binds .any e = true ∧ (x = e.on ∨ x ∈ acc.getD e.on []) := by
 unfold depsOf at h
 have key : ∀ (l : List Edge), x ∈ depsOf.go acc l → ∃ e ∈ l, x = e.on ∨ x ∈ acc.getD e.on [] := by
  intro l
  induction l with
  | nil => intro h; cases h
  | cons e l ih =>
   intro h
   rw [depsOf.go] at h
   rcases mrg_mem h with h | h
   rcases List.mem_cons.1 h with h | h
   ·exact ⟨e, List.mem_cons_self .., .inl h⟩
   ·exact ⟨e, List.mem_cons_self .., .inr h⟩
   ·obtain ⟨e', h1, h2⟩ := ih h
    exact ⟨e', List.mem_cons_of_mem _ h1, h2⟩
 obtain ⟨e, h1, h2⟩ := key _ h
 rw [List.mem_filter] at h1
 exact ⟨e, by simpa using h1.1, h1.2, h2⟩

theorem backOk_spec {i : Nat} {o : Oper} (h : backOk i o = true) : ∀ e ∈ o.after, Region.binds .any e = true → e.on < i := by
 intro e he hb
 unfold backOk at h
 have := List.all_eq_true.1 h e (by rw [List.mem_filter]; exact ⟨by simpa using he, hb⟩)
 simpa using this

theorem drawGo_run {ops : List Oper} : ∀ {r : List Oper} {i : Nat} {acc : List (List Nat)} {seen : List (Nat × Foot)} {σ σ' : St} {cs : List Cd}, drawGo L Γ Pu N ops r i acc seen σ = true → asteps L Γ N ops r σ = some (cs, σ') → acc.length = i →
  ∃ (items : List (Nat × Oper × Foot)) (ext : List (List Nat)), Run L Γ Pu N ops items σ cs σ' ∧ items.length = r.length ∧
   (∀ q ∈ items, i ≤ q.1 ∧ r[q.1 - i]? = some q.2.1 ∧ Good (fun j => (acc ++ ext).getD j []) q ∧ ∀ p ∈ seen, p.1 ∈ (acc ++ ext).getD q.1 [] ∨ apartF p.2 q.2.2 = true) ∧
   items.Pairwise (Ahead fun j => (acc ++ ext).getD j []) ∧ (∀ j o, r[j]? = some o → ∃ f, (i + j, o, f) ∈ items)
 | [], i, acc, seen, σ, σ', cs, h, hs, hl => by
  injection hs with hs; injection hs with e1 e2; subst e1 e2
  exact ⟨[], [], .nil, rfl, (fun q hq => by cases hq), List.Pairwise.nil, (fun j o hj => by simp at hj)⟩
 | o :: r, i, acc, seen, σ, σ', cs, h, hs, hl => by
  simp only [asteps] at hs
  simp only [drawGo] at h
  split at h
  ·rename_i f c1 σ1 hf h1
   rw [h1] at hs
   simp only at hs
   split at hs
   ·rename_i c2 σ2 h2
    injection hs with hs; injection hs with e1 e2; subst e1 e2
    simp only [Bool.and_eq_true] at h
    obtain ⟨hb, hseen, hgo⟩ := h
    obtain ⟨items, ext, g1, g2, g3, g4, g5⟩ := drawGo_run hgo h2 (by simp [hl])
    have hD : (acc ++ [depsOf acc o]) ++ ext = acc ++ (depsOf acc o :: ext) := by simp
    rw [hD] at g3 g4
    have hDi : (acc ++ (depsOf acc o :: ext)).getD i [] = depsOf acc o := by
     rw [List.getD_eq_getElem?_getD, List.getElem?_append_right (by omega), hl]
     simp
    have hDlt : ∀ j, j < i → (acc ++ (depsOf acc o :: ext)).getD j [] = acc.getD j [] := by
     intro j hj
     rw [List.getD_eq_getElem?_getD, List.getElem?_append_left (by omega), List.getD_eq_getElem?_getD]
    refine ⟨(i, o, f) :: items, depsOf acc o :: ext, .cons hf h1 g1, by simp [g2], fun q hq => ?_, ?_, fun j o' hj => ?_⟩
    ·rcases List.mem_cons.1 hq with e | hq
     ·subst e
      refine ⟨Nat.le_refl _, by simp, ⟨backOk_spec hb, fun x hx => ?_⟩, fun p hp => ?_⟩
      ·simp only [hDi] at hx
       obtain ⟨e, h1, h2, h3⟩ := depsOf_mem hx
       refine ⟨e, h1, h2, h3.imp id fun h3 => ?_⟩
       show x ∈ (acc ++ (depsOf acc o :: ext)).getD e.on []
       rw [hDlt _ (backOk_spec hb e h1 h2)]
       exact h3
      ·have := List.all_eq_true.1 hseen p hp
       rw [Bool.or_eq_true, mem_iff] at this
       rw [hDi]
       exact this
     ·obtain ⟨a1, a2, a3, a4⟩ := g3 q hq
      refine ⟨by omega, ?_, a3, fun p hp => a4 p (List.mem_append_left _ hp)⟩
      have : q.1 - i = (q.1 - (i + 1)) + 1 := by omega
      rw [this]
      simpa using a2
    ·refine List.Pairwise.cons (fun q hq => ?_) g4
     obtain ⟨a1, _, _, a4⟩ := g3 q hq
     exact ⟨by show i < q.1; omega, a4 (i, f) (by simp)⟩
    ·cases j with
     | zero => simp at hj; subst hj; exact ⟨f, by simp⟩
     | succ j =>
      obtain ⟨f', hf'⟩ := g5 j o' (by simpa using hj)
      exact ⟨f', List.mem_cons_of_mem _ (by rw [show i + (j + 1) = i + 1 + j by omega]; exact hf')⟩
   ·cases hs
  ·cases h

theorem ands_intro : ∀ {cs : List Cd} {u : VC}, (∀ p, Cd.ob p ∈ cs → p) → ((∀ f, Cd.fact f ∈ cs → f) → u.holds) → (VC.ands cs u).holds
 | [], u, _, h => h fun f hf => by cases hf
 | .ob p :: cs, u, ho, h => ⟨ho p (List.mem_cons_self ..), ands_intro (fun q hq => ho q (List.mem_cons_of_mem _ hq)) fun hf => h fun f hm => by
   rcases List.mem_cons.1 hm with e | hm
   ·cases e
   ·exact hf f hm⟩
 | .fact p :: cs, u, ho, h => fun hp => ands_intro (fun q hq => ho q (List.mem_cons_of_mem _ hq)) fun hf => h fun f hm => by
   rcases List.mem_cons.1 hm with e | hm
   ·injection e with e; rw [e]; exact hp
   ·exact hf f hm
theorem obs_elim : ∀ {cs : List Cd} {u : VC}, (VC.obs cs u).holds → (∀ p, Cd.ob p ∈ cs → p) ∧ u.holds
 | [], _, h => ⟨(fun p hp => by cases hp), h⟩
 | .ob q :: cs, u, h => by
  obtain ⟨h1, h2⟩ := obs_elim h.2
  exact ⟨fun p hp => by
   rcases List.mem_cons.1 hp with e | hp
   ·injection e with e; rw [e]; exact h.1
   ·exact h1 p hp, h2⟩
 | .fact q :: cs, u, h => by
  obtain ⟨h1, h2⟩ := obs_elim (cs := cs) h
  exact ⟨fun p hp => by
   rcases List.mem_cons.1 hp with e | hp
   ·cases e
   ·exact h1 p hp, h2⟩
theorem fcts_elim : ∀ {cs : List Cd} {u : VC}, (VC.fcts cs u).holds → (∀ p, Cd.fact p ∈ cs → p) → u.holds
 | [], _, h, _ => h
 | .ob _ :: cs, _, h, hf => fcts_elim (cs := cs) h fun p hp => hf p (List.mem_cons_of_mem _ hp)
 | .fact q :: cs, _, h, hf => fcts_elim (cs := cs) (h (hf q (List.mem_cons_self ..))) fun p hp => hf p (List.mem_cons_of_mem _ hp)

theorem getD_both' {listed : Array Bool} {j : Nat} (hj : j < listed.size) : (listed.getD j true = false ↔ ¬ listed.getD j false = true) := by
 simp [Array.getD, hj]

section
variable {X : Cx}
theorem any_sound (hF : Wide F) (hpr : X.b0.pr = P) (hL : LOk P L) (hΓ : ConOk P Γ) (hPu : PuOk Γ Pu) {ops : Array Oper} {D : Nat → List Nat} {Q : Exit → Act → World → Prop} {v : VC} {σe : St} (hn : ∀ a' w' β' σe', Eqv σe σe' → Rel X β' σe' a' w' → v.holds → Q .normal a' w') :
  ∀ (m : Nat) (rem : List (Nat × Oper × Foot)) (listed : Array Bool) (σ σf : St) (cs : List Cd) (β : Bt) (a : Act) (w : World), rem.length = m → Run L Γ Pu X.N ops.toList rem σ cs σf → Eqv σe σf → Rel X β σ a w →
   rem.Pairwise (Ahead D) → (∀ q ∈ rem, Good D q) → (∀ q ∈ rem, ops[q.1]? = some q.2.1) → listed.size = ops.size → (∀ j, j < ops.size → (listed.getD j true = false ↔ ∃ o f, (j, o, f) ∈ rem)) →
   (∀ j, listed.getD j false = true → ∀ x ∈ D j, x < ops.size → listed.getD x false = true) →
   (∀ p, Cd.ob p ∈ cs → p) → ((∀ f, Cd.fact f ∈ cs → f) → v.holds) → wpAnyIn F n P .any ops Q m listed a w := by
 intro m
 induction m with
 | zero =>
  intro rem listed σ σf cs β a w hm hr he R _ _ _ hsz hlist _ _ hv
  have hrem : rem = [] := List.eq_nil_of_length_eq_zero hm
  subst hrem
  cases hr
  refine ⟨?_, hn a w β σ he R (hv fun f hf => by cases hf)⟩
  refine List.eq_nil_iff_forall_not_mem.2 fun j hj => ?_
  obtain ⟨h0, o, ho, _⟩ := mem_ready.1 hj
  have hlt : j < ops.size := (Array.getElem?_eq_some_iff.1 ho).1
  obtain ⟨_, _, h⟩ := (hlist j hlt).1 h0
  cases h
 | succ m ih =>
  intro rem listed σ σf cs β a w hm hr he R hpw hgood hops hsz hlist hclo hob hv
  refine ⟨fun hre => ?_, fun i hi => ?_⟩
  ·exfalso
   match rem, hm with
   | q :: rem', _ =>
    have hq := hops q (List.mem_cons_self ..)
    have hlt : q.1 < ops.size := (Array.getElem?_eq_some_iff.1 hq).1
    have : q.1 ∈ Region.ready .any ops listed := by
     refine mem_ready.2 ⟨(hlist q.1 hlt).2 ⟨q.2.1, q.2.2, List.mem_cons_self ..⟩, q.2.1, hq, fun e he hb => ?_⟩
     have hlt' := (hgood q (List.mem_cons_self ..)).1 e he hb
     cases hc : listed.getD e.on false with
     | true => rfl
     | false =>
      exfalso
      have h2 := (getD_both' (listed := listed) (j := e.on) (by omega)).2 (by rw [hc]; simp)
      obtain ⟨o, f, hmem⟩ := (hlist e.on (by omega)).1 h2
      rcases List.mem_cons.1 hmem with h3 | h3
      ·have : q.1 = e.on := by rw [← h3]
       omega
      ·have := (List.rel_of_pairwise_cons hpw h3).1
       simp only at this
       omega
    rw [hre] at this
    cases this
  ·obtain ⟨hun, o, ho, hall⟩ := mem_ready.1 hi
   have hlt : i < ops.size := (Array.getElem?_eq_some_iff.1 ho).1
   obtain ⟨o', f, hmem⟩ := (hlist i hlt).1 hun
   have ho' : o' = o := by
    have h1 := hops _ hmem
    simp only at h1
    rw [ho] at h1
    exact (Option.some.inj h1).symm
   subst ho'
   obtain ⟨A, B, rfl⟩ := List.append_of_mem hmem
   have hDl : ∀ x ∈ D i, x < ops.size → listed.getD x false = true := fun x hx hxs => by
    obtain ⟨e, h1, h2, h3⟩ := (hgood _ hmem).2 x hx
    rcases h3 with rfl | h3
    ·exact hall e h1 h2
    ·exact hclo e.on (hall e h1 h2) x h3 hxs
   have hapart : ∀ k ∈ A, apartF k.2.2 (i, o', f).2.2 = true := fun k hk => by
    have hk1 := (List.pairwise_append.1 hpw).2.2 k hk (i, o', f) (List.mem_cons_self ..)
    rcases hk1.2 with h | h
    ·exfalso
     have hklt : k.1 < ops.size := by have := hk1.1; simp only at this; omega
     have h2 := hDl k.1 h hklt
     have h3 := (hlist k.1 hklt).2 ⟨k.2.1, k.2.2, List.mem_append_left _ hk⟩
     rw [getD_both' (by omega)] at h3
     exact h3 h2
    ·exact h
   obtain ⟨ci, σi, cs', σ'', g1, g2, g3, g4, g5⟩ := hr.front hPu hapart
   unfold wpOpIn
   simp only [ho]
   refine step_sound hF hpr hL hΓ R g2 (v := .at (∀ f, Cd.fact f ∈ ci → f)) (ands_intro (fun p hp => hob p ((g5 _).2 (.inl hp))) (fun h => h)) fun a' w' β' R' hf => ?_
   have hsub : ∀ q, q ∈ A ++ B → q ∈ A ++ (i, o', f) :: B := fun q hq => by
    rcases List.mem_append.1 hq with h | h
    ·exact List.mem_append_left _ h
    ·exact List.mem_append_right _ (List.mem_cons_of_mem _ h)
   have hsl : (A ++ B).Sublist (A ++ (i, o', f) :: B) := (List.Sublist.refl A).append (List.sublist_cons_self ..)
   refine ih (A ++ B) (listed.setIfInBounds i true) σi σ'' cs' β' a' w' (by simp at hm ⊢; omega) g3 (he.trans g4) R' (hpw.sublist hsl) (fun q hq => hgood q (hsub q hq)) (fun q hq => hops q (hsub q hq)) (by simp [hsz]) (fun j hj => ?_) (fun j hj x hx hxs => ?_)
    (fun p hp => hob p ((g5 _).2 (.inr hp))) (fun hf' => hv fun f hfm => ((g5 _).1 hfm).elim (hf f) (hf' f))
   ·by_cases hji : j = i
    ·subst hji
     have h1 : (listed.setIfInBounds j true).getD j true = true := by simp [Array.getD, hsz, hlt]
     rw [h1]
     refine ⟨(fun h => by cases h), fun ⟨o, f', h⟩ => ?_⟩
     exfalso
     rcases List.mem_append.1 h with h | h
     ·have := ((List.pairwise_append.1 hpw).2.2 _ h (j, o', _) (List.mem_cons_self ..)).1
      simp at this
     ·have := (List.rel_of_pairwise_cons (List.pairwise_append.1 hpw).2.1 h).1
      simp at this
    ·rw [getD_set_ne true (Ne.symm hji), hlist j hj]
     constructor
     ·rintro ⟨o, f', h⟩
      refine ⟨o, f', ?_⟩
      rcases List.mem_append.1 h with h | h
      ·exact List.mem_append_left _ h
      ·rcases List.mem_cons.1 h with e | h
       ·injection e with e; exact absurd e hji
       ·exact List.mem_append_right _ h
     ·rintro ⟨o, f', h⟩
      exact ⟨o, f', hsub _ h⟩
   ·by_cases hji : j = i
    ·subst hji
     exact getD_set_true (hDl x hx hxs)
    ·rw [getD_set_ne false (Ne.symm hji)] at hj
     exact getD_set_true (hclo j hj x hx hxs)

theorem drawOk (hF : Wide F) (hpr : X.b0.pr = P) (hL : LOk P L) (hΓ : ConOk P Γ) (hPu : PuOk Γ Pu) (hm : P.follows .mixedOrders = true) : DrawOk P L Γ F n X (draws L Γ Pu X.N) := by
 intro ops id cs σ σ' β a w v Q hd R hs hv hn
 unfold draws at hd
 obtain ⟨items, ext, h1, h2, h3, h4, h5⟩ := drawGo_run hd hs rfl
 obtain ⟨ho, hf⟩ := obs_elim hv
 have hsize : items.length = ops.size := by rw [h2]; simp
 refine wpIn_region_any hm ?_
 have R' : Rel X β σ a { w with drawn := w.drawn + 1 } := by
  have hev : Evo (Mt β (look σ.h)) (Mt β (look σ.h)) w { w with drawn := w.drawn + 1 } := ⟨Nat.le_refl _, fun _ _ _ => rfl, fun _ _ _ h => h, fun _ _ _ => rfl, rfl, rfl, rfl⟩
  exact R.evo (β' := β) (h' := σ.h) (w' := { w with drawn := w.drawn + 1 }) hev BEvo.refl (fun _ _ h => h) (fun _ _ h => h) ⟨R.fr.os, R.fr.tape, R.fr.output, R.fr.size, R.fr.block⟩ R.own
   ⟨R.hr.m0, R.hr.lt, R.hr.fresh, R.hr.inj, R.hr.ye, fun m o hm => (R.hr.blk m o hm).evo hev BEvo.refl rfl rfl rfl rfl (fun _ _ => rfl) fun hob => dis_of R.hr.m0 R.hr.lt R.hr.fresh R.hr.inj hm hob, R.hr.gl.evo hev⟩
 refine any_sound hF hpr hL hΓ hPu (D := fun j => ([] ++ ext).getD j []) (σe := σ') (v := v) (fun a' w' β' σe' e R'' hv' => ?_) ops.size items _ σ σ' cs β a _ hsize h1 Eqv.refl R' h4 (fun q hq => (h3 q hq).2.2.1) (fun q hq => by
  have := (h3 q hq).2.1
  simpa using this) (by simp) (fun j hj => ?_) (fun j hj => ?_) ho (fcts_elim hf)
 ·refine hn a' w' β' ?_ hv'
  have hl : look σe'.h = look σ'.h := by funext k; exact (e.h k).symm
  refine ⟨R''.tn, R''.df, R''.fr, fun m k hm hk => R''.own m k (by rw [hl]; exact hm) hk, by rw [← hl]; exact R''.be, R''.bm, ?_, by rw [← hl]; exact R''.ev, fun t u h => ?_, fun t g b x h => ?_⟩
  ·rw [← hl]; exact R''.hr
  ·rw [← hl]; exact R''.sl t u (by rw [← e.s]; exact h)
  ·rw [← hl]; exact R''.gd t g b x (by rw [← e.g]; exact h)
 ·have hget : (Array.replicate ops.size false).getD j true = false := by simp [Array.getD, hj]
  rw [hget]
  refine ⟨fun _ => ?_, fun _ => rfl⟩
  obtain ⟨f, hf⟩ := h5 j ops[j] (by simp [hj])
  exact ⟨ops[j], f, by simpa using hf⟩
 ·exfalso
  by_cases hj' : j < ops.size
  ·simp [Array.getD, hj'] at hj
  ·simp [Array.getD, hj'] at hj
end
end Go.Sy
namespace Go.Sy
variable {P : Program} {L : Nat → Option Lay}

/-! tables of contracts -/
abbrev PCon := List TV → Option (List Prop × AV)
abbrev FCon := List TV → Nat → Option (List Prop × AV × List (Nat × HO))
inductive CE : Type
 | pu (c : PCon)
 | gen (c : Con)
 | fr (c : FCon)
def CE.con : CE → Con
 | .pu c => fun args _ _ => match c args with
  | some (cs, r) => some (cs, r, [])
  | none => none
 | .gen c => c
 | .fr c => fun args hp fr => match hp fr with
  | none => c args fr
  | some _ => none
theorem distinct_ne : ∀ {l : List Nat} {i j a b : Nat}, distinct l = true → i < j → l[i]? = some a → l[j]? = some b → a ≠ b
 | x :: l, 0, j + 1, a, b, h, _, ha, hb => by
  simp only [distinct, Bool.and_eq_true, Bool.not_eq_true'] at h
  simp at ha hb
  subst ha
  intro e
  have := mem_iff.2 (e ▸ List.mem_of_getElem? hb : x ∈ l)
  rw [this] at h
  exact absurd h.1 (by simp)
 | x :: l, i + 1, j + 1, a, b, h, hij, ha, hb => by
  simp only [distinct, Bool.and_eq_true] at h
  exact distinct_ne h.2 (Nat.lt_of_succ_lt_succ hij) (by simpa using ha) (by simpa using hb)
def orC (c d : Con) : Con := fun args hp fr => match c args hp fr with
 | some x => some x
 | none => d args hp fr
theorem FnOk.or {f : FuncId} {c d : Con} (h1 : FnOk P f (CE.gen c).con) (h2 : FnOk P f (CE.gen d).con) : FnOk P f (CE.gen (orC c d)).con := by
 refine ⟨h1.enter, fun args hp fr cs r up hc => ?_⟩
 simp only [CE.con, orC] at hc
 split at hc
 ·rename_i x hx
  injection hc with hc; subst hc
  exact h1.call args hp fr cs r up hx
 ·exact h2.call args hp fr cs r up hc
theorem FnOk.cases {f : FuncId} {con c1 c2 : Con} (h1 : FnOk P f c1) (h2 : FnOk P f c2)
  (h : ∀ args hp fr cs r up, con args hp fr = some (cs, r, up) → (∀ c ∈ cs, c) → ∃ c, (c = c1 ∨ c = c2) ∧ ∃ cs', c args hp fr = some (cs', r, up) ∧ ∀ p ∈ cs', p) : FnOk P f con :=
 ⟨h1.enter, fun args hp fr cs r up hc hcs => by
  obtain ⟨c, hcc, cs', e, hp'⟩ := h args hp fr cs r up hc hcs
  rcases hcc with rfl | rfl
  ·exact h1.call args hp fr cs' r up e hp'
  ·exact h2.call args hp fr cs' r up e hp'⟩
theorem FnOk.toFr {f : FuncId} {c : Con} {d : FCon} (h : FnOk P f (CE.gen c).con) (e : ∀ args hp fr, hp fr = none → c args hp fr = d args fr) : FnOk P f (CE.fr d).con := by
 refine ⟨h.enter, fun args hp fr cs r up hc => h.call args hp fr cs r up ?_⟩
 simp only [CE.con] at hc
 split at hc
 ·rename_i hn
  show c args hp fr = _
  rw [e args hp fr hn]; exact hc
 ·cases hc
abbrev Tab := List (Nat × CE)
def ΓT (T : Tab) (f : Nat) : Option Con := match look T f with
 | some e => some e.con
 | none => none
def PuT (T : Tab) (f : Nat) : Bool := match look T f with
 | some (.pu _) => true
 | some (.fr _) => true
 | _ => false
theorem puOk (T : Tab) : PuOk (ΓT T) (PuT T) := by
 intro f con h1 h2 args hp hp' fr hfr
 unfold PuT at h1
 unfold ΓT at h2
 split at h1
 ·rename_i c hc
  rw [hc] at h2
  injection h2 with h2
  subst h2
  rfl
 ·rename_i c hc
  rw [hc] at h2
  injection h2 with h2
  subst h2
  simp only [CE.con, hfr]
 ·cases h1
def TOk (P : Program) : Tab → Prop
 | [] => True
 | (f, e) :: r => FnOk P f e.con ∧ TOk P r
theorem TOk.con : ∀ {T : Tab}, TOk P T → ConOk P (ΓT T)
 | [], _, f, con, h => by cases h
 | (g, e) :: r, ht, f, con, h => by
  unfold ΓT at h
  rw [look_cons] at h
  by_cases hg : g = f
  ·subst hg
   rw [if_pos rfl] at h
   injection h with h
   subst h
   exact ht.1
  ·rw [if_neg hg] at h
   exact TOk.con ht.2 f con h

def fnOf (L : Nat → Option Lay) (T : Tab) (fn : Func) (keep : List Nat) (ann : Nat → St → Option Ann) (rann : Nat → St → Option RAnn := fun _ _ => none) : Fn := { N := fn.ntmps, keep := keep, ann := ann, draw := draws L (ΓT T) (PuT T) fn.ntmps, rann := rann }
def vcPu (L : Nat → Option Lay) (T : Tab) (fn : Func) (keep : List Nat) (ann : Nat → St → Option Ann) (args : List TV) (r : AV) (rann : Nat → St → Option RAnn := fun _ _ => none) : VC :=
 vcFn L (ΓT T) (fnOf L T fn keep ann rann) fn.results.toList (fn.body.getD .skip) args r
def vcGe (L : Nat → Option Lay) (T : Tab) (fn : Func) (keep : List Nat) (ann : Nat → St → Option Ann) (args : List TV) (ch : List (Nat × HO)) (r : AV) (uc : List (Nat × HO)) (rann : Nat → St → Option RAnn := fun _ _ => none) : VC :=
 vcH L (ΓT T) (fnOf L T fn keep ann rann) fn.results.toList (fn.body.getD .skip) args ch r uc

theorem drawsOk {T : Tab} (hL : LOk P L) (hT : TOk P T) (hm : P.follows .mixedOrders = true) {N : Nat} {F : Fence} {n : Nat} {X : Cx} (hF : Wide F) (hX : X.N = N) (hpr : X.b0.pr = P) : DrawOk P L (ΓT T) F n X (draws L (ΓT T) (PuT T) N) := by
 subst hX
 exact drawOk hF hpr hL hT.con (puOk T) hm

theorem fnPuR (T : Tab) (c : PCon) {f : FuncId} {fn : Func} (hL : LOk P L) (hT : TOk P T) (hm : P.follows .mixedOrders = true) (hf : P.funcs[f]? = some fn) (hb : fn.body.isSome = true) (hn : (fn.name == "runtime.NumGoroutine") = false)
  (h : ∀ args cs r, c args = some (cs, r) → (∀ p ∈ cs, p) → ∃ keep ann rann, Nat.ble args.length fn.ntmps = true ∧ tvsOk [] args = true ∧ avOk [] r = true ∧ (vcPu L T fn keep ann args r rann).holds) : FnOk P f (CE.pu c).con := by
 have hb' : fn.body = some (fn.body.getD .skip) := by
  cases hx : fn.body with
  | none => rw [hx] at hb; cases hb
  | some c => rfl
 refine fnOk_of_vc hL hT.con hf hb' (enters hf hb' hn) fun args hp fr cs r up hc hcs => ?_
 have hc' : c args = some (cs, r) ∧ up = [] := by
  simp only [CE.con] at hc
  split at hc
  ·rename_i cs' r' h'
   injection hc with hc; injection hc with h1 h2; injection h2 with h2 h3
   subst h1 h2
   exact ⟨h', h3.symm⟩
  ·cases hc
 obtain ⟨keep, ann, rann, h1, h2, h3, h4⟩ := h args cs r hc'.1 hcs
 exact ⟨fnOf L T fn keep ann rann, rfl, fun F n X hF hX hpr => drawsOk hL hT hm hF hX hpr, hc'.2, Nat.le_of_ble_eq_true h1, h2, h3, h4⟩

theorem fnPu (T : Tab) (c : PCon) {f : FuncId} {fn : Func} (hL : LOk P L) (hT : TOk P T) (hm : P.follows .mixedOrders = true) (hf : P.funcs[f]? = some fn) (hb : fn.body.isSome = true) (hn : (fn.name == "runtime.NumGoroutine") = false)
  (h : ∀ args cs r, c args = some (cs, r) → (∀ p ∈ cs, p) → ∃ keep ann, Nat.ble args.length fn.ntmps = true ∧ tvsOk [] args = true ∧ avOk [] r = true ∧ (vcPu L T fn keep ann args r).holds) : FnOk P f (CE.pu c).con :=
 fnPuR T c hL hT hm hf hb hn fun args cs r hc hcs => by
  obtain ⟨keep, ann, h⟩ := h args cs r hc hcs
  exact ⟨keep, ann, _, h⟩

theorem fnGen (T : Tab) (con : Con) {f : FuncId} {fn : Func} (hL : LOk P L) (hT : TOk P T) (hm : P.follows .mixedOrders = true) (hf : P.funcs[f]? = some fn) (hb : fn.body.isSome = true) (hn : (fn.name == "runtime.NumGoroutine") = false)
  (h : ∀ args hp fr cs r up, con args hp fr = some (cs, r, up) → (∀ p ∈ cs, p) → ∃ keep ann bs fs cargs ch rc uc, Meets L (ΓT T) (fnOf L T fn keep ann) fn args hp r up bs fs cargs ch rc uc) : FnOk P f (CE.gen con).con := by
 refine fnOk_of_meets hL hT.con hf hb hn fun args hp fr cs r up hc hcs => ?_
 obtain ⟨keep, ann, bs, fs, cargs, ch, rc, uc, hmeets⟩ := h args hp fr cs r up hc hcs
 exact ⟨fnOf L T fn keep ann, bs, fs, cargs, ch, rc, uc, rfl, fun F n X hF hX hpr => drawsOk hL hT hm hF hX hpr, hmeets⟩

theorem fnGe (T : Tab) (con : Con) {f : FuncId} {fn : Func} (hL : LOk P L) (hT : TOk P T) (hm : P.follows .mixedOrders = true) (hf : P.funcs[f]? = some fn) (hb : fn.body.isSome = true) (hn : (fn.name == "runtime.NumGoroutine") = false)
  (h : ∀ args hp fr cs r up, con args hp fr = some (cs, r, up) → (∀ p ∈ cs, p) → ∃ keep ann rann bs fs cargs ch rc uc, Meets L (ΓT T) (fnOf L T fn keep ann rann) fn args hp r up bs fs cargs ch rc uc) : FnOk P f (CE.gen con).con := by
 refine fnOk_of_meets hL hT.con hf hb hn fun args hp fr cs r up hc hcs => ?_
 obtain ⟨keep, ann, rann, bs, fs, cargs, ch, rc, uc, hmeets⟩ := h args hp fr cs r up hc hcs
 exact ⟨fnOf L T fn keep ann rann, bs, fs, cargs, ch, rc, uc, rfl, fun F n X hF hX hpr => drawsOk hL hT hm hF hX hpr, hmeets⟩

theorem look_fst {β : Type _} : ∀ {l : List (Nat × β)} {k : Nat}, look l k ≠ none ↔ k ∈ l.map (·.1)
 | [], k => by simp [look]
 | (a, x) :: r, k => by
  rw [look_cons]
  by_cases h : a = k
  ·subst h; simp
  ·rw [if_neg h, look_fst]; simp [Ne.symm h]
theorem look_nodup {β : Type _} : ∀ {l : List (Nat × β)} {k : Nat} {x : β}, (l.map (·.1)).Nodup → (k, x) ∈ l → look l k = some x
 | (a, y) :: r, k, x, hn, hm => by
  simp only [List.map_cons, List.nodup_cons] at hn
  rcases List.mem_cons.1 hm with e | hm
  ·injection e with e1 e2; subst e1 e2; rw [look_cons, if_pos rfl]
  ·rw [look_cons, if_neg fun (e : a = k) => hn.1 (e ▸ List.mem_map.2 ⟨(k, x), hm, rfl⟩)]
   exact look_nodup hn.2 hm
theorem nodup_fst_inj : ∀ {l : List (Nat × Nat)} {c c' a : Nat}, (l.map (·.2)).Nodup → (c, a) ∈ l → (c', a) ∈ l → c = c'
 | (x, y) :: r, c, c', a, hn, h, h' => by
  simp only [List.map_cons, List.nodup_cons] at hn
  rcases List.mem_cons.1 h with e | g <;> rcases List.mem_cons.1 h' with e' | g'
  ·injection e with e1 e2; injection e' with e3 e4; rw [e1, e3]
  ·injection e with e1 e2; exact (hn.1 (e2 ▸ List.mem_map.2 ⟨(c', a), g', rfl⟩)).elim
  ·injection e' with e1 e2; exact (hn.1 (e2 ▸ List.mem_map.2 ⟨(c, a), g, rfl⟩)).elim
  ·exact nodup_fst_inj hn.2 g g'

theorem Meets.of {L : Nat → Option Lay} {Γ : Nat → Option Con} {φ : Fn} {fn : Func} {args : List TV} {hp : Nat → Option HO} {r : AV} {up : List (Nat × HO)} (bs fs : List (Nat × Nat)) (cargs : List TV) (ch : List (Nat × HO)) (rc : AV) (uc : List (Nat × HO))
  (n1 : ((bs ++ fs).map (·.1)).Nodup) (n2 : ((bs ++ fs).map (·.2)).Nodup) (hch : ch.map (·.1) = bs.map (·.1)) (huc : uc.map (·.1) = (bs ++ fs).map (·.1))
  (hbo : ∀ q ∈ bs, ∃ o, look ch q.1 = some o ∧ hp q.2 = some (rnH (rn (bs ++ fs)) o)) (hfs : ∀ q ∈ fs, hp q.2 = none)
  (hup : ∀ q ∈ bs ++ fs, ∀ o, look uc q.1 = some o → upd hp up q.2 = some (rnH (rn (bs ++ fs)) o)) (hup2 : ∀ q ∈ up, q.1 ∈ (bs ++ fs).map (·.2))
  (hlen : Nat.ble args.length φ.N = true) (hargs : args = cargs.map (rnT (rn (bs ++ fs)))) (ok1 : tvsOk ch cargs = true) (ok2 : heapOk ch ch = true) (hres : r = rnA (rn (bs ++ fs)) rc) (ok3 : avOk uc rc = true) (ok4 : heapOk uc uc = true)
  (hvc : (vcH L Γ φ fn.results.toList (fn.body.getD .skip) cargs ch rc uc).holds) (hnb : namesGe φ.N ch = true := by rfl) : Meets L Γ φ fn args hp r up bs fs cargs ch rc uc := by
 have hρ : ∀ q ∈ bs ++ fs, rn (bs ++ fs) q.1 = q.2 := fun q hq => by unfold rn; rw [look_nodup n1 (x := q.2) hq]; rfl
 refine ⟨⟨fun c c' a h h' => nodup_fst_inj n2 (look_mem h) (look_mem h'), fun c a h => hbo (c, a) (look_mem h), fun c o h => ?_, fun c a _ h => hfs (c, a) (look_mem h)⟩, Nat.le_of_ble_eq_true hlen, hargs, ok1, ok2, hres, fun a => ?_, fun c a h => ?_, fun c h => ?_, ok3, ok4, hvc, hnb⟩
 ·have hm : c ∈ bs.map (·.1) := hch ▸ look_fst.1 (by rw [h]; simp)
  cases hb : look bs c with
  | some a => exact ⟨a, rfl⟩
  | none => exact absurd hb (look_fst.2 hm)
 ·by_cases hex : ∃ c, (c, a) ∈ bs ++ fs
  ·obtain ⟨c, hc⟩ := hex
   have hr : rn (bs ++ fs) c = a := hρ (c, a) hc
   have hcu : look uc c ≠ none := look_fst.2 (huc ▸ List.mem_map.2 ⟨_, hc, rfl⟩)
   cases ho : look uc c with
   | none => exact absurd ho hcu
   | some o =>
    have h3 := look_map_inj (g := rnH (rn (bs ++ fs))) (ρ := rn (bs ++ fs)) (l := uc) (fun x y hx hy hxy => by
     obtain ⟨⟨_, ax⟩, hx1, rfl⟩ := List.mem_map.1 (huc ▸ look_fst.1 hx)
     obtain ⟨⟨_, ay⟩, hy1, rfl⟩ := List.mem_map.1 (huc ▸ look_fst.1 hy)
     have e1 := hρ _ hx1
     have e2 := hρ _ hy1
     simp only at e1 e2 hxy
     rw [e1, e2] at hxy
     subst hxy
     exact nodup_fst_inj n2 hx1 hy1) ho
    rw [hr] at h3
    rw [h3]
    exact hup (c, a) hc o ho
  ·have hno : look up.reverse a = none := by
    cases hl : look up.reverse a with
    | none => rfl
    | some o =>
     have := look_mem hl
     obtain ⟨⟨c, _⟩, h1, h2⟩ := List.mem_map.1 (hup2 _ (List.mem_reverse.1 this))
     simp only at h2
     subst h2
     exact absurd ⟨c, h1⟩ hex
   have h1 : upd hp up a = hp a := by unfold upd; rw [hno]
   rw [h1, look_map_none fun c hc h => ?_]
   obtain ⟨⟨_, a'⟩, hx1, rfl⟩ := List.mem_map.1 (huc ▸ look_fst.1 hc)
   have e1 := hρ _ hx1
   simp only at e1 h
   rw [e1] at h
   subst h
   exact hex ⟨_, hx1⟩
 ·refine look_fst.2 (huc ▸ List.mem_map.2 ⟨_, look_mem h, rfl⟩)
 ·exact look_fst.2 (huc ▸ look_fst.1 h)

/-! short forms for generated texts -/
theorem okV {v : VC} {p : Prop} (hp : p) (h : v.holds = p) : v.holds ∧ True := ⟨h ▸ hp, trivial⟩
abbrev nA : Nat → St → Option Ann := fun _ _ => none
abbrev nR : Nat → St → Option RAnn := fun _ _ => none
theorem okP (T : Tab) {c : PCon} {f : FuncId} {fn : Func} (hL : LOk P L) (hT : TOk P T) (hm : P.follows .mixedOrders = true) (hf : P.funcs[f]? = some fn)
  (h : ∀ args cs r, c args = some (cs, r) → (∀ p ∈ cs, p) → ∃ keep ann rann, Nat.ble args.length fn.ntmps = true ∧ tvsOk [] args = true ∧ avOk [] r = true ∧ (vcPu L T fn keep ann args r rann).holds)
  (hb : fn.body.isSome = true := by kernel_rfl) (hn : (fn.name == "runtime.NumGoroutine") = false := by kernel_rfl) : FnOk P f (CE.pu c).con := fnPuR T c hL hT hm hf hb hn h
theorem okG (T : Tab) {c : Con} {f : FuncId} {fn : Func} (hL : LOk P L) (hT : TOk P T) (hm : P.follows .mixedOrders = true) (hf : P.funcs[f]? = some fn)
  (h : ∀ args hp fr cs r up, c args hp fr = some (cs, r, up) → (∀ p ∈ cs, p) → ∃ keep ann rann bs fs cargs ch rc uc, Meets L (ΓT T) (fnOf L T fn keep ann rann) fn args hp r up bs fs cargs ch rc uc)
  (hb : fn.body.isSome = true := by kernel_rfl) (hn : (fn.name == "runtime.NumGoroutine") = false := by kernel_rfl) : FnOk P f (CE.gen c).con := fnGe T c hL hT hm hf hb hn h
theorem puV {L : Nat → Option Lay} {T : Tab} {fn : Func} {args : List TV} {r : AV} (keep : List Nat) (ann : Nat → St → Option Ann) (rann : Nat → St → Option RAnn)
  (hvc : (vcPu L T fn keep ann args r rann).holds ∧ True) (h1 : Nat.ble args.length fn.ntmps = true := by exact rfl) (h2 : tvsOk [] args = true := by exact rfl) (h3 : avOk [] r = true := by exact rfl) :
  ∃ keep ann rann, Nat.ble args.length fn.ntmps = true ∧ tvsOk [] args = true ∧ avOk [] r = true ∧ (vcPu L T fn keep ann args r rann).holds := ⟨keep, ann, rann, h1, h2, h3, hvc.1⟩
theorem geV {L : Nat → Option Lay} {T : Tab} {fn : Func} {keep : List Nat} {ann : Nat → St → Option Ann} {rann : Nat → St → Option RAnn} {args : List TV} {hp : Nat → Option HO} {r : AV} {up : List (Nat × HO)} {cargs : List TV} {ch : List (Nat × HO)} {rc : AV} {uc : List (Nat × HO)}
  (hvc : (vcGe L T fn keep ann cargs ch rc uc rann).holds ∧ True) (bs fs : List (Nat × Nat))
  (hbo : ∀ q ∈ bs, ∃ o, look ch q.1 = some o ∧ hp q.2 = some (rnH (rn (bs ++ fs)) o)) (hfs : ∀ q ∈ fs, hp q.2 = none)
  (hup : ∀ q ∈ bs ++ fs, ∀ o, look uc q.1 = some o → upd hp up q.2 = some (rnH (rn (bs ++ fs)) o))
  (n2 : ((bs ++ fs).map (·.2)).Nodup := by simp) (n1 : ((bs ++ fs).map (·.1)).Nodup := by simp) (hch : ch.map (·.1) = bs.map (·.1) := by exact rfl) (huc : uc.map (·.1) = (bs ++ fs).map (·.1) := by exact rfl)
  (hup2 : ∀ q ∈ up, q.1 ∈ (bs ++ fs).map (·.2) := by simp)
  (hlen : Nat.ble args.length fn.ntmps = true := by exact rfl) (hargs : args = cargs.map (rnT (rn (bs ++ fs))) := by exact rfl) (ok1 : tvsOk ch cargs = true := by exact rfl) (ok2 : heapOk ch ch = true := by exact rfl)
  (hres : r = rnA (rn (bs ++ fs)) rc := by exact rfl) (ok3 : avOk uc rc = true := by exact rfl) (ok4 : heapOk uc uc = true := by exact rfl) (hnb : namesGe fn.ntmps ch = true := by exact rfl) :
  ∃ keep ann rann bs fs cargs ch rc uc, Meets L (ΓT T) (fnOf L T fn keep ann rann) fn args hp r up bs fs cargs ch rc uc :=
 ⟨keep, ann, rann, bs, fs, cargs, ch, rc, uc, Meets.of bs fs cargs ch rc uc n1 n2 hch huc hbo hfs hup hup2 hlen hargs ok1 ok2 hres ok3 ok4 hvc.1 hnb⟩
theorem all0 {α : Type _} {p : α → Prop} : ∀ q ∈ ([] : List α), p q := fun _ h => by cases h
theorem inC {hp : Nat → Option HO} {ch : List (Nat × HO)} {ρ : Nat → Nat} {c a : Nat} {l : List (Nat × Nat)} (h : ∃ o, look ch c = some o ∧ hp a = some (rnH ρ o)) (t : ∀ q ∈ l, ∃ o, look ch q.1 = some o ∧ hp q.2 = some (rnH ρ o)) : ∀ q ∈ (c, a) :: l, ∃ o, look ch q.1 = some o ∧ hp q.2 = some (rnH ρ o) :=
 fun _ hq => (List.mem_cons.1 hq).elim (fun e => e ▸ h) (t _)
theorem frC {hp : Nat → Option HO} {c a : Nat} {l : List (Nat × Nat)} (h : hp a = none) (t : ∀ q ∈ l, hp q.2 = none) : ∀ q ∈ (c, a) :: l, hp q.2 = none :=
 fun _ hq => (List.mem_cons.1 hq).elim (fun e => e ▸ h) (t _)
theorem upC {hp : Nat → Option HO} {up uc : List (Nat × HO)} {ρ : Nat → Nat} {c a : Nat} {l : List (Nat × Nat)} (h : ∀ o, look uc c = some o → upd hp up a = some (rnH ρ o)) (t : ∀ q ∈ l, ∀ o, look uc q.1 = some o → upd hp up q.2 = some (rnH ρ o)) : ∀ q ∈ (c, a) :: l, ∀ o, look uc q.1 = some o → upd hp up q.2 = some (rnH ρ o) :=
 fun _ hq => (List.mem_cons.1 hq).elim (fun e => e ▸ h) (t _)

theorem Meets.reads {L : Nat → Option Lay} {Γ : Nat → Option Con} {φ : Fn} {fn : Func} {args cargs : List TV} {hp : Nat → Option HO} {r rc : AV} {bs : List (Nat × Nat)} {ch : List (Nat × HO)}
  (hinj : ∀ c c' a, look bs c = some a → look bs c' = some a → c = c') (hbo : ∀ c a, look bs c = some a → ∃ o, look ch c = some o ∧ hp a = some (rnH (rn bs) o)) (hch : ∀ c o, look ch c = some o → ∃ a, look bs c = some a)
  (hlen : args.length ≤ φ.N) (hargs : args = cargs.map (rnT (rn bs))) (ok1 : tvsOk ch cargs = true) (ok2 : heapOk ch ch = true) (hres : r = rnA (rn bs) rc) (ok3 : avOk ch rc = true)
  (hvc : (vcH L Γ φ fn.results.toList (fn.body.getD .skip) cargs ch rc ch).holds) (hnb : namesGe φ.N ch = true := by rfl) : Meets L Γ φ fn args hp r [] bs [] cargs ch rc ch := by
 have e : bs ++ [] = bs := List.append_nil bs
 refine ⟨⟨by rw [e]; exact hinj, by rw [e]; exact hbo, hch, fun c a _ h => by cases h⟩, hlen, by rw [e]; exact hargs, ok1, ok2, by rw [e]; exact hres, fun a => ?_, fun c a h => ?_, fun c h => ?_, ok3, ok2, hvc, hnb⟩
 ·rw [e]
  show hp a = _
  cases hl : look (ch.map fun q => (rn bs q.1, rnH (rn bs) q.2)) a with
  | none => rfl
  | some o =>
   obtain ⟨c, hc⟩ : ∃ c, look bs c = some a := by
    by_cases hex : ∃ c, look bs c = some a
    ·exact hex
    ·exfalso
     rw [look_map_none fun c hc h => ?_] at hl
     ·cases hl
     ·cases ho : look ch c with
      | none => exact hc ho
      | some o' =>
       obtain ⟨a', ha'⟩ := hch c o' ho
       have : rn bs c = a' := by simp [rn, ha']
       rw [this] at h
       subst h
       exact hex ⟨c, ha'⟩
   obtain ⟨o', h1, h2⟩ := hbo c a hc
   have h3 := look_map_inj (g := rnH (rn bs)) (ρ := rn bs) (l := ch) (fun x y hx hy hxy => by
    cases hx' : look ch x with
    | none => exact absurd hx' hx
    | some ox =>
     cases hy' : look ch y with
     | none => exact absurd hy' hy
     | some oy =>
      obtain ⟨ax, hax⟩ := hch x ox hx'
      obtain ⟨ay, hay⟩ := hch y oy hy'
      have ex : rn bs x = ax := by simp [rn, hax]
      have ey : rn bs y = ay := by simp [rn, hay]
      rw [ex, ey] at hxy
      subst hxy
      exact hinj x y ax hax hay) h1
   rw [show rn bs c = a by simp [rn, hc], hl] at h3
   injection h3 with h3
   rw [h2, h3]
 ·rw [e] at h
  obtain ⟨o, h1, _⟩ := hbo c a h
  rw [h1]; simp
 ·rw [e]
  cases ho : look ch c with
  | none => exact absurd ho h
  | some o => obtain ⟨a, ha⟩ := hch c o ho; rw [ha]; simp

theorem look1 {β : Type _} {x : β} {c : Nat} {y : β} (h : look [(2000, x)] c = some y) : c = 2000 ∧ y = x := by
 rw [look_cons] at h
 split at h
 ·rename_i e; injection h with h; exact ⟨e.symm, h.symm⟩
 ·cases h
theorem look2 {β : Type _} {x x2 : β} {c : Nat} {y : β} (h : look [(2000, x), (2001, x2)] c = some y) : (c = 2000 ∧ y = x) ∨ (c = 2001 ∧ y = x2) := by
 rw [look_cons] at h
 split at h
 ·rename_i e; injection h with h; exact .inl ⟨e.symm, h.symm⟩
 ·rw [look_cons] at h
  split at h
  ·rename_i e; injection h with h; exact .inr ⟨e.symm, h.symm⟩
  ·cases h

theorem Meets.reads1 {L : Nat → Option Lay} {Γ : Nat → Option Con} {φ : Fn} {fn : Func} {args : List TV} {hp : Nat → Option HO} {r : AV} (p : Nat) (cargs : List TV) (o : HO) (rc : AV)
  (hbo : hp p = some (rnH (rn [(2000, p)]) o)) (hlen : Nat.ble args.length φ.N = true) (hargs : args = cargs.map (rnT (rn [(2000, p)]))) (ok1 : tvsOk [(2000, o)] cargs = true) (ok2 : heapOk [(2000, o)] [(2000, o)] = true) (hres : r = rnA (rn [(2000, p)]) rc)
  (ok3 : avOk [(2000, o)] rc = true) (hvc : (vcH L Γ φ fn.results.toList (fn.body.getD .skip) cargs [(2000, o)] rc [(2000, o)]).holds) (hnb : namesGe φ.N [(2000, o)] = true := by rfl) : Meets L Γ φ fn args hp r [] [(2000, p)] [] cargs [(2000, o)] rc [(2000, o)] := by
 refine Meets.reads (fun c c' a h h' => ?_) (fun c a h => ?_) (fun c o' h => ?_) (Nat.le_of_ble_eq_true hlen) hargs ok1 ok2 hres ok3 hvc hnb
 ·rw [(look1 h).1, (look1 h').1]
 ·obtain ⟨rfl, rfl⟩ := look1 h
  exact ⟨o, by rw [look_cons, if_pos rfl], hbo⟩
 ·obtain ⟨rfl, rfl⟩ := look1 h
  exact ⟨p, by rw [look_cons, if_pos rfl]⟩

theorem Meets.reads2 {L : Nat → Option Lay} {Γ : Nat → Option Con} {φ : Fn} {fn : Func} {args : List TV} {hp : Nat → Option HO} {r : AV} (p q : Nat) (hpq : p ≠ q) (cargs : List TV) (o o2 : HO) (rc : AV)
  (hbo : hp p = some (rnH (rn [(2000, p), (2001, q)]) o)) (hbo2 : hp q = some (rnH (rn [(2000, p), (2001, q)]) o2)) (hlen : Nat.ble args.length φ.N = true) (hargs : args = cargs.map (rnT (rn [(2000, p), (2001, q)])))
  (ok1 : tvsOk [(2000, o), (2001, o2)] cargs = true) (ok2 : heapOk [(2000, o), (2001, o2)] [(2000, o), (2001, o2)] = true) (hres : r = rnA (rn [(2000, p), (2001, q)]) rc)
  (ok3 : avOk [(2000, o), (2001, o2)] rc = true) (hvc : (vcH L Γ φ fn.results.toList (fn.body.getD .skip) cargs [(2000, o), (2001, o2)] rc [(2000, o), (2001, o2)]).holds) (hnb : namesGe φ.N [(2000, o), (2001, o2)] = true := by rfl) :
  Meets L Γ φ fn args hp r [] [(2000, p), (2001, q)] [] cargs [(2000, o), (2001, o2)] rc [(2000, o), (2001, o2)] := by
 refine Meets.reads (fun c c' a h h' => ?_) (fun c a h => ?_) (fun c o' h => ?_) (Nat.le_of_ble_eq_true hlen) hargs ok1 ok2 hres ok3 hvc hnb
 ·rcases look2 h with ⟨rfl, rfl⟩ | ⟨rfl, rfl⟩ <;> rcases look2 h' with ⟨rfl, e⟩ | ⟨rfl, e⟩
  ·rfl
  ·exact absurd e hpq
  ·exact absurd e.symm hpq
  ·rfl
 ·rcases look2 h with ⟨rfl, rfl⟩ | ⟨rfl, rfl⟩
  ·exact ⟨o, by rw [look_cons, if_pos rfl], hbo⟩
  ·exact ⟨o2, by rfl, hbo2⟩
 ·rcases look2 h with ⟨rfl, rfl⟩ | ⟨rfl, rfl⟩
  ·exact ⟨p, by rw [look_cons, if_pos rfl]⟩
  ·exact ⟨q, by rfl⟩

theorem upd1 (hp : Nat → Option HO) (n : Nat) (o : HO) : upd hp [(n, o)] n = some o := by
 unfold upd; simp [look_cons]
theorem upd1_ne (hp : Nat → Option HO) (n : Nat) (o : HO) {m : Nat} (h : m ≠ n) : upd hp [(n, o)] m = hp m := by
 unfold upd; simp [look_cons, Ne.symm h, look]

def filtV (os vs : List Nat) : List (Nat × (Ty × (Nat × Bool))) → List (Nat × (Ty × (Nat × Bool)))
 | [] => []
 | (j, (τ, (e, _))) :: r => match mem vs e, mem os e with
  | true, _ => (j, (τ, (e, true))) :: filtV os vs r
  | false, true => (j, (τ, (e, false))) :: filtV os vs r
  | false, false => filtV os vs r
def LVar (L : Nat → Option Lay) (os vs : List Nat) (wr : Bool) (t : Nat) : Option Lay := match L t with
 | some y => some { y with vec := (match y.ety with | some (_, e, _) => mem vs e | none => false), cv := filtV os vs y.cv, wr := wr, nov := vs }
 | none => none
theorem LVar_ok {L : Nat → Option Lay} (h : LOk P L) (os vs : List Nat) (wr : Bool) : LOk P (LVar L os vs wr) := fun t y hy => by
 unfold LVar at hy
 split at hy
 ·rename_i y0 h0
  have k := h t y0 h0
  obtain rfl := Option.some.inj hy
  exact ⟨k.agg, k.one, k.size, k.zero, k.fs, k.el, k.ety, k.kind, k.eqs, k.sk, k.mpt, k.fmt, k.ars⟩
 ·cases hy
end Go.Sy
namespace Go.Sy
open Go.ChangeShapes Go.WideShapes Go.ChangeAt Go.RowKit Go.WideElems
variable {P : Program} {L : Nat → Option Lay}

/-! from a contract to a row that says: true, and the arguments read as they did -/
theorem trodAll_stays {H : Type} {enc : TypeId × Value → H} (hl : laidOutB P = true) {W W' : World} {sp' : Nat → Bool} : ∀ {ts : List TypeId} {vs : List Value} {ds : List (DataW H)} {ps : List MemPlace},
  ts.all (fun t => P.readableRec t && Nat.blt t P.types.size) = true → DataW.TrodAll enc P W 0 (fun _ => true) true ts vs ds ps → (∀ p ∈ ps, W.sameAt W' p) → (∀ p ∈ ps, sp' p.block = true) → DataW.TrodAll enc P W' 0 sp' true ts vs ds ps
 | [], [], [], _, _, h, _, _ => h
 | t :: ts, v :: vs, d :: ds, ps, ht, h, h1, h2 => by
  obtain ⟨p, q, hp, hq, rfl⟩ := h
  simp only [List.all_cons, Bool.and_eq_true] at ht
  exact ⟨p, q, Trod_stays hl ht.1.1 (Nat.le_of_ble_eq_true ht.1.2) hp (fun x hx => h1 x (List.mem_append_left _ hx)) (fun x hx => h2 x (List.mem_append_left _ hx)),
   trodAll_stays hl (by simpa using ht.2) hq (fun x hx => h1 x (List.mem_append_right _ hx)) (fun x hx => h2 x (List.mem_append_right _ hx)), rfl⟩
 | [], [], _ :: _, _, _, h, _, _ => h.elim
 | [], _ :: _, _, _, _, h, _, _ => by cases h
 | _ :: _, [], _, _, _, h, _, _ => by cases h
 | _ :: _, _ :: _, [], _, _, h, _, _ => by cases h

theorem Fr.below {w w' : World} {B : Nat → Prop} (h : Fr B w w') (hB : ∀ k, ¬ B k) : Below w.heap.size w w' := ⟨h.os, h.tape, h.output, h.size, fun k hk => h.block k hk (hB k)⟩

abbrev b00 (P : Program) : Bt := ⟨fun _ => none, fun _ => none, fun _ _ => False, fun _ _ _ => False, fun _ _ _ _ _ => True, P⟩
abbrev M0 : CM := fun _ _ => False
abbrev VT0 (w : World) : TV → Value → Prop := VT w M0 (b00 default) (dm fun _ => none)
theorem M0_not (k off : Nat) : ¬ M0 k off := fun h => h
def Tabs (P : Program) (w : World) : Prop := ∀ g, P.globalNamed tabName = some g → ∃ e fz, w.heap[g]? = some (.cells tabCells e fz)
theorem tabs_none {P : Program} {w : World} (h : P.globalNamed tabName = none) : Tabs P w := fun g hg => by rw [h] at hg; cases hg
theorem mt00 (P : Program) (k off : Nat) : ¬ Mt (b00 P) (fun _ => none) k off := fun h => by
 rcases h with h | ⟨_, _, h, _⟩
 ·exact h
 ·cases h
theorem hr0 (P : Program) (w : World) (ht : Tabs P w) : HR (b00 P) (fun _ => none) w := ⟨fun _ _ h => h.elim, fun _ _ h => (h rfl).elim, fun _ _ _ h => (h rfl).elim, fun _ _ _ h => (h rfl).elim, (fun _ _ h => by cases h), (fun _ _ h => by cases h), fun g hg => ⟨ht g hg, fun off => mt00 P g off⟩⟩
theorem vt0s {W : World} {args : List TV} {vals : List Value} (h : All2 (VT0 W) args vals) : All2 (VT W (Mt (b00 P) fun _ => none) (b00 P) (dm fun _ => none)) args vals := by
 have ok : ∀ {x : TV} {v : Value}, VT0 W x v → tvOk [] x = true := fun hx => tvOk_of (h := []) hx
 have e : Evo M0 (Mt (b00 P) fun _ => none) W W := Evo.less fun k off h => by
  rcases h with h | ⟨n, o, h, _⟩
  ·exact h
  ·cases h
 induction h with
 | nil => exact .nil
 | cons h1 _ ih => exact .cons (VT.any e h1 (ok h1)) ih

theorem law_calls {f : FuncId} {con : Con} (hok : FnOk P f con) {args : List TV} {cs : List Prop} {b : Bool} (hcon : con args (fun _ => none) 0 = some (cs, .t (.one (.d (.lit (.bool b)))), [])) (hcs : ∀ c ∈ cs, c)
  {W : World} (ht : Tabs P W) {vals : List Value} (hv : All2 (VT0 W) args vals) : Calls P f vals.toArray W fun e W' => e = .returned (.bool b) ∧ Below W.heap.size W W' :=
 (hok.call args (fun _ => none) 0 cs _ [] hcon hcs W (b00 P) vals rfl (hr0 P W ht) (vt0s hv)).mono fun e W' ⟨v, he, post⟩ => by
  obtain ⟨β', _, _, _, hva, _⟩ := post.ex
  have e2 := VT.bool hva
  subst e2
  exact ⟨he, post.fr.below fun k ⟨n, hn, _⟩ => hn rfl⟩

theorem law_post {H : Type} {enc : TypeId × Value → H} {s : ChangeSpec} {f : Func} {apart fresh handsOn : Bool} {W W' : World} {args : Array Value} {ds gs : List (DataW H)} {before : List MemPlace} {tb : TypeId}
  (hl : laidOutB P = true) (hp : f.params.toList.all (fun t => P.readableRec t && Nat.blt t P.types.size) = true) (hr : f.resultTypes = #[tb]) (hb : P.underlying tb = some .bool) (hvars : s.vars = [])
  (hspec : s.fn H ds = { results := [.lit (.bool true)], args := ds }) (hbl : Below W.heap.size W W') (hW : DataW.Whole enc P f.params.toList s.vars apart W args.toList ds gs before) :
  s.post enc P f apart fresh handsOn false W args (.bool true) W' := by
 have hlt : ∀ p ∈ before, p.block < W.heap.size := hW.lt
 have hW' := hW
 obtain ⟨p, q, hA, hV, rfl, _, _⟩ := hW'
 rw [hvars] at hV
 have hgs : gs = [] ∧ q = [] := by
  cases gs with
  | nil => exact ⟨rfl, hV⟩
  | cons => exact hV.elim
 obtain ⟨rfl, rfl⟩ := hgs
 have hs : s.fn H (ds ++ []) = { results := [.lit (.bool true)], args := ds } := by rw [List.append_nil]; exact hspec
 refine ⟨ds, [], p ++ [], [], p, [], hW, ?_, ?_, ?_, hbl.frame _, fun h => by cases h⟩
 ·rw [hs, hr]
  exact ⟨[], [], ⟨1, by simp [DataW.trod, Value.cells, hb]⟩, rfl, rfl⟩
 ·rw [hs]
  exact trodAll_stays hl hp hA (fun x hx => hbl.same (hlt x (List.mem_append_left _ hx))) (fun x hx => by simpa using hlt x (List.mem_append_left _ hx))
 ·rw [hs, hvars]
  rfl

theorem fnOk_lib {f : FuncId} (c : PCon) (henter : ∀ (args : Array Value) (w : World), (callFunc f args).run P w = .ok (.enter f args) w)
  (h : ∀ args cs r, c args = some (cs, r) → (∀ p ∈ cs, p) → ∀ (w : World) (M : CM) (β : Bt) (D : Nat → Prop) (vals : List Value), GInv P w M → All2 (VT w M β D) args vals →
   Calls P f vals.toArray w fun e w' => ∃ v, e = .returned v ∧ Fr (fun _ => False) w w' ∧ VA w' M β D r v) : FnOk P f (CE.pu c).con := by
 refine ⟨henter, fun args hp fr cs r up hc hcs w β vals hpr hH hargs => ?_⟩
 simp only [CE.con] at hc
 split at hc
 ·rename_i cs' r' h'
  injection hc with hc; injection hc with h1 h2; injection h2 with h2 h3
  subst h1 h2 h3
  have hu : upd hp [] = hp := by funext k; rfl
  refine (h args _ _ h' hcs w (Mt β hp) β (dm hp) vals (by have := hH.gl; rw [hpr] at this; exact this) hargs).mono fun e w' ⟨v, he, hfr, hv⟩ => ⟨v, he, ?_⟩
  rw [hu]
  exact ⟨⟨β, BEvo.refl, fun _ _ h => h, hH.fr hfr, hv, fun n k hn hk => .inl ⟨n, hn, hk⟩, Evo.of_fr hfr fun _ _ hb => hb.elim⟩, ⟨hfr.os, hfr.tape, hfr.output, hfr.size, fun k hk _ => hfr.block k hk fun h => h⟩⟩
 ·cases hc
def cloneC (τ : Ty) (e mx : Nat) : FCon := fun args fr => match args with
 | [.one (.d x)] => match asL τ x with
  | some l => some ([l.length ≤ mx], .t (.one (.vr fr l.length)), [(fr, .vec τ e l)])
  | none => none
 | _ => none
theorem clone_ok {f : FuncId} {c' : Con} {τ : Ty} {e mx : Nat} (h' : FnOk P f (CE.gen c').con)
  (hT : ∀ (hp : Nat → Option HO) fr, hp fr = none → c' [.one (.nn true (.sl τ []))] hp fr = some ([], .t (.one (.vr fr 0)), [(fr, .vec τ e [])]))
  (hF : ∀ l (hp : Nat → Option HO) fr, hp fr = none → c' [.one (.nn false (.sl τ l))] hp fr = some ([l.length ≤ mx], .t (.one (.vr fr l.length)), [(fr, .vec τ e l)])) : FnOk P f (CE.fr (cloneC τ e mx)).con := by
 refine ⟨h'.enter, fun args hp fr cs r up hc hcs w β vals hpr hH hargs => ?_⟩
 simp only [CE.con] at hc
 split at hc
 ·rename_i hfr
  unfold cloneC at hc
  split at hc
  ·rename_i x
   split at hc
   ·rename_i l hl
    injection hc with hc; injection hc with h1 h2; injection h2 with h2 h3
    subst h1 h2 h3
    obtain ⟨v, rfl, hv⟩ := hargs.one_left
    have hv : VL w (Mt β hp) β (dm hp) (.d x) v := hv
    cases hv with
    | d hv =>
     have hv := asL_sound hl hv
     cases hv with
     | nil => exact h'.call _ hp fr _ _ _ (hT hp fr hfr) (fun _ h => by cases h) w β _ hpr hH (.cons (show VL _ _ _ _ _ _ from .nn .nil ⟨none, 0, 0, rfl, rfl⟩) .nil)
     | sl vs h0 hb hcap hmax hM hcc hvv => exact h'.call _ hp fr _ _ _ (hF l hp fr hfr) hcs w β _ hpr hH (.cons (show VL _ _ _ _ _ _ from .nn (.sl vs h0 hb hcap hmax hM hcc hvv) ⟨_, _, _, rfl, rfl⟩) .nil)
   ·cases hc
  ·cases hc
 ·cases hc
end Go.Sy
namespace Go.Sy
open Go.ChangeShapes Go.WideShapes
variable {P : Program}

/-! an argument that is read, as a plain value -/
def Ty.In : (τ : Ty) → τ.T → Prop
 | .tu, _ => True
 | .ti k, n => (Lit.int k n).wf = true
 | .tb, _ => True
 | .ts, q => (show ByteArray from q).size ≤ maxLen
 | .tp x y, v => x.In v.1 ∧ y.In v.2
 | .tl x, v => ∀ u, u ∈ (show List x.T from v) → x.In u

def Ty.Bd (B : Nat) : (τ : Ty) → τ.T → Prop
 | .tu, _ => True
 | .ti _, _ => True
 | .tb, _ => True
 | .ts, q => (show ByteArray from q).size ≤ B
 | .tp x y, v => x.Bd B v.1 ∧ y.Bd B v.2
 | .tl x, v => (show List x.T from v).length ≤ B ∧ ∀ u, u ∈ (show List x.T from v) → x.Bd B u
def Ty.Top {H : Type} : (τ : Ty) → τ.T → DataW H → Prop
 | .tl x, v, d => (d = .nil ∧ (show List x.T from v) = []) ∨ (∃ l r, d = .slice l r ∧ (show List x.T from v).length = l.length) ∨ ∃ l, d = .agg l
 | _, _, _ => True
structure Bulk (P : Program) {H : Type} (bk : TypeId → DataW H → Nat) : Prop where
 len : ∀ t e l r, P.underlying t = some (.slice e) → 0 < P.bytesOf e → l.length ≤ bk t (.slice l r)
 el : ∀ t e l r d, P.underlying t = some (.slice e) → d ∈ l → bk e d ≤ bk t (.slice l r)
 part : ∀ t (fs : Array Field) l (f : Field) d (j : Nat), P.underlying t = some (.struct fs) → fs.toList[j]? = some f → l[j]? = some d → bk f.type d ≤ bk t (.agg l)
 str : ∀ t (s : List UInt8), s.length ≤ bk t (.lit (.string s))
def CellsOf (w : World) (τ : Ty) (v : τ.T) (cs : List Value) : Prop := cs.length = τ.size ∧ ∀ (j : Nat) u, cs[j]? = some u → VD w M0 (τ.enc v j) u
def Rd (P : Program) (t : TypeId) (τ : Ty) : Prop := P.cellsOf t = τ.size ∧ 0 < τ.size ∧
 ∀ {H : Type} {enc : TypeId × Value → H} {w : World} {base : Nat} {spare : Nat → Bool} {held : Bool} {fuel : Nat} {cs : List Value} {x : DataW H × List MemPlace}, DataW.trod enc P w base spare held fuel t cs = some x → ∃ v : τ.T, τ.In v ∧ CellsOf w τ v cs ∧ τ.Top v x.1 ∧ ∀ bk B, Bulk P bk → bk t x.1 ≤ B → τ.Bd B v

theorem rd_int {t : TypeId} {k : IntKind} (h : P.underlying t = some (.int k)) (hc : P.cellsOf t = 1) : Rd P t (.ti k) := by
 refine ⟨hc, Nat.one_pos, fun hx => ?_⟩
 obtain ⟨n, rfl, _, hw⟩ := DataW.trod_int h hx
 refine ⟨n, hw, ⟨rfl, fun j u hu => ?_⟩, trivial, fun _ _ _ _ => trivial⟩
 cases j with
 | zero => simp at hu; subst hu; exact .lit rfl
 | succ j => simp at hu
theorem rd_slice {t e : TypeId} {τ : Ty} (h : P.underlying t = some (.slice e)) (hc : P.cellsOf t = 1) (hby : 0 < P.bytesOf e) (r : Rd P e τ) : Rd P t (.tl τ) := by
 obtain ⟨r1, r0, r2⟩ := r
 refine ⟨hc, Nat.one_pos, fun {H enc w base spare held fuel cs x} hx => ?_⟩
 rcases DataW.trod_slice h hx with ⟨rfl, hxe⟩ | ⟨a, len, cap, elems, rest, n, _, rfl, hxe, hb, hl, hm, he, hi, _, _⟩
 ·refine ⟨[], fun u hu => (List.not_mem_nil hu).elim, ⟨rfl, fun j u hu => ?_⟩, .inl ⟨by rw [hxe], rfl⟩, fun _ _ _ _ => ⟨Nat.zero_le _, fun u hu => (List.not_mem_nil hu).elim⟩⟩
  cases j with
  | zero => simp at hu; subst hu; exact .nil
  | succ j => simp at hu
 ·have hread : ∀ i, i < len → ∃ cs' v, w.cells? base (a.add (i * P.cellsOf e)) (P.cellsOf e) = some cs' ∧ (τ.In v ∧ ∀ bk B, Bulk P bk → bk t x.1 ≤ B → τ.Bd B v) ∧ CellsOf w τ v cs' := by
   intro i hil
   have h1 := hi i hil
   rw [List.getElem?_eq_getElem (by omega)] at h1
   obtain ⟨cs', hc1, hc2⟩ := Option.bind_eq_some_iff.1 h1
   obtain ⟨v, hv, hv2, _, hv3⟩ := r2 hc2
   refine ⟨cs', v, hc1, ⟨hv, fun bk B hk hB => hv3 bk B hk (Nat.le_trans ?_ hB)⟩, hv2⟩
   rw [hxe]
   exact hk.el _ _ _ _ _ h (List.mem_map_of_mem (List.getElem_mem _))
  classical
  let f : Nat → τ.T := fun i => if hil : i < len then (hread i hil).choose_spec.choose else τ.d0
  have hf : ∀ i, i < len → ∃ cs', w.cells? base (a.add (i * P.cellsOf e)) (P.cellsOf e) = some cs' ∧ (τ.In (f i) ∧ ∀ bk B, Bulk P bk → bk t x.1 ≤ B → τ.Bd B (f i)) ∧ CellsOf w τ (f i) cs' := by
   intro i hil
   have := (hread i hil).choose_spec.choose_spec
   refine ⟨_, this.1, ?_, ?_⟩
   ·simp only [f, dif_pos hil]; exact this.2.1
   ·simp only [f, dif_pos hil]; exact this.2.2
  refine ⟨(List.range len).map f, fun u hu => ?_, ⟨rfl, fun j u hu => ?_⟩, .inr (.inl ⟨_, _, by rw [hxe], by simp [he]⟩), fun bk B hk hB => ⟨?_, fun u hu => ?_⟩⟩
  ·obtain ⟨i, hi', rfl⟩ := List.mem_map.1 hu
   obtain ⟨_, _, ⟨h2, _⟩, _⟩ := hf i (List.mem_range.1 hi')
   exact h2
  rotate_left
  ·have h1 : ((List.range len).map f).length = (elems.map (·.1)).length := by simp [he]
   exact Nat.le_trans (Nat.le_of_eq h1) (Nat.le_trans (hk.len t e _ (rest.map (·.1)) h hby) (by rw [hxe] at hB; exact hB))
  ·obtain ⟨i, hi', rfl⟩ := List.mem_map.1 hu
   obtain ⟨_, _, ⟨_, h2⟩, _⟩ := hf i (List.mem_range.1 hi')
   exact h2 bk B hk hB
  ·cases j with
   | succ j => simp at hu
   | zero =>
    simp at hu; subst hu
    let g : Nat → List Value := fun i => (w.cells? base (a.add (i * P.cellsOf e)) (P.cellsOf e)).getD []
    have hg : ∀ i, i < len → w.cells? base (a.add (i * P.cellsOf e)) (P.cellsOf e) = some (g i) ∧ CellsOf w τ (f i) (g i) := by
     intro i hil
     obtain ⟨cs', h1, _, h3⟩ := hf i hil
     have : g i = cs' := by simp only [g, h1, Option.getD_some]
     rw [this]
     exact ⟨h1, h3⟩
    have hcell : ∀ i j, i < len → j < τ.size → w.cell? (a.add (i * τ.size + j)) = (g i)[j]? := by
     intro i j hil hj
     have := (World.cells?_some (hg i hil).1).2.2 j (by omega)
     rw [add_add, r1] at this
     exact this
    have hlen : ((List.range len).map f).length = len := by simp
    have hsl : VD w M0 (.sl τ ((List.range len).map f)) (.slice (some a) ((List.range len).map f).length cap) := by
     refine .sl (fun i j => (g i).getD j undef) r0 (fun i hil => ?_) (by omega) hm (fun _ _ _ _ => M0_not _ _) (fun i j hil hj => ?_) (fun i j hil hj => ?_)
     ·rw [hlen] at hil
      have h1 := hcell i 0 hil r0
      have h2 := (hg i hil).2.1
      rw [List.getElem?_eq_getElem (by omega)] at h1
      have := World.block_lt_of_cell? _ _ h1
      rw [add_block] at this
      exact this
     ·rw [hlen] at hil
      have h2 := (hg i hil).2.1
      rw [hcell i j hil hj, List.getD_eq_getElem?_getD, List.getElem?_eq_getElem (by omega)]
      rfl
     ·rw [hlen] at hil
      have h2 := (hg i hil).2
      have e1 : ((List.range len).map f).getD i τ.d0 = f i := by simp [List.getD, hil]
      rw [e1]
      refine h2.2 j _ ?_
      rw [List.getD_eq_getElem?_getD, List.getElem?_eq_getElem (by rw [h2.1]; exact hj)]
      rfl
    rw [hlen] at hsl
    exact hsl
theorem rd_bool {t : TypeId} (h : P.underlying t = some .bool) (hc : P.cellsOf t = 1) : Rd P t .tb := by
 refine ⟨hc, Nat.one_pos, fun hx => ?_⟩
 obtain ⟨n, rfl, _⟩ := DataW.trod_bool h hx
 refine ⟨n, trivial, ⟨rfl, fun j u hu => ?_⟩, trivial, fun _ _ _ _ => trivial⟩
 cases j with
 | zero => simp at hu; subst hu; exact .lit rfl
 | succ j => simp at hu
theorem rd_string {t : TypeId} (h : P.underlying t = some .string) (hc : P.cellsOf t = 1) : Rd P t .ts := by
 refine ⟨hc, Nat.one_pos, fun hx => ?_⟩
 obtain ⟨n, rfl, hxe, hn⟩ := DataW.trod_string h hx
 refine ⟨n, hn, ⟨rfl, fun j u hu => ?_⟩, trivial, fun bk B hk hB => ?_⟩
 rotate_left
 ·rw [hxe] at hB
  exact Nat.le_trans (hk.str t _) hB
 cases j with
 | zero => simp at hu; subst hu; exact .lit rfl
 | succ j => simp at hu

inductive RdFs (P : Program) : Nat → List Field → Ty → Prop
 | last {off : Nat} {f : Field} {τ : Ty} : f.offset = off → Rd P f.type τ → RdFs P off [f] τ
 | more {off : Nat} {f : Field} {r : List Field} {τ σ : Ty} : f.offset = off → Rd P f.type τ → RdFs P (off + τ.size) r σ → RdFs P off (f :: r) (.tp τ σ)
theorem RdFs.read {off : Nat} {fs : List Field} {τ : Ty} (h : RdFs P off fs τ) : 0 < τ.size ∧ ∀ {H : Type} {enc : TypeId × Value → H} {w : World} {base : Nat} {spare : Nat → Bool} {held : Bool} {n : Nat} {cs : List Value} {Q : Field → DataW H → Prop},
  (∀ f ∈ fs, ∃ x : DataW H × List MemPlace, DataW.trod enc P w base spare held n f.type ((cs.drop f.offset).take (P.cellsOf f.type)) = some x ∧ Q f x.1) → ∃ v : τ.T, τ.In v ∧ CellsOf w τ v ((cs.drop off).take τ.size) ∧ ∀ bk B, Bulk P bk → (∀ f d, Q f d → bk f.type d ≤ B) → τ.Bd B v := by
 induction h with
 | @last off f τ ho r =>
  refine ⟨r.2.1, fun {H enc w base spare held n cs Q} hr => ?_⟩
  obtain ⟨x, hx, hq⟩ := hr f (by simp)
  rw [ho, r.1] at hx
  obtain ⟨v, h1, h2, _, h3⟩ := r.2.2 hx
  exact ⟨v, h1, h2, fun bk B hk hB => h3 bk B hk (hB _ _ hq)⟩
 | @more off f fs τ σ ho r _ ih =>
  refine ⟨by simp only [Ty.size]; have := r.2.1; omega, fun {H enc w base spare held n cs Q} hr => ?_⟩
  obtain ⟨x, hx, hq⟩ := hr f (by simp)
  rw [ho, r.1] at hx
  obtain ⟨u, hu1, ⟨hu2, hu3⟩, _, hu4⟩ := r.2.2 hx
  obtain ⟨v, hv1, ⟨hv2, hv3⟩, hv4⟩ := ih.2 (fun g hg => hr g (by simp [hg]))
  refine ⟨(u, v), ⟨hu1, hv1⟩, ⟨?_, fun j y hy => ?_⟩, fun bk B hk hB => ⟨hu4 bk B hk (hB _ _ hq), hv4 bk B hk hB⟩⟩
  ·simp only [Ty.size, List.length_take, List.length_drop] at *
   omega
  ·simp only [Ty.enc]
   simp only [Ty.size] at hy
   rw [List.getElem?_take] at hy
   split at hy
   ·rename_i hj
    rw [List.getElem?_drop] at hy
    by_cases hlt : j < τ.size
    ·rw [show Nat.blt j τ.size = true from Nat.ble_eq_true_of_le hlt]
     refine hu3 j y ?_
     rw [List.getElem?_take, if_pos hlt, List.getElem?_drop, hy]
    ·rw [show Nat.blt j τ.size = false by rw [Bool.eq_false_iff]; intro h; exact hlt (Nat.le_of_ble_eq_true h)]
     refine hv3 (j - τ.size) y ?_
     rw [List.getElem?_take, if_pos (by omega), List.getElem?_drop, ← hy]
     congr 1
     omega
   ·cases hy
theorem rd_struct {t : TypeId} {fs : Array Field} {τ : Ty} (h : P.underlying t = some (.struct fs)) (hc : P.cellsOf t = τ.size) (r : RdFs P 0 fs.toList τ) : Rd P t τ := by
 refine ⟨hc, r.read.1, fun {H enc w base spare held fuel cs x} hx => ?_⟩
 obtain ⟨xs, n, _, hxe, hl, hxs, hf⟩ := DataW.trod_struct h hx
 obtain ⟨v, hv1, hv2, hv3⟩ := r.read.2 (enc := enc) (w := w) (base := base) (spare := spare) (held := held) (n := n) (cs := cs) (Q := fun f d => ∃ j : Nat, fs.toList[j]? = some f ∧ (xs.map (·.1))[j]? = some d) (fun f hf' => by
  obtain ⟨i, hi, hif⟩ := List.mem_iff_getElem.1 hf'
  have := hf i f (by rw [← hif]; simp)
  have hi2 : i < xs.length := by simpa [hxs] using hi
  exact ⟨_, this.trans (List.getElem?_eq_getElem hi2), i, by rw [List.getElem?_eq_getElem hi, hif], by rw [List.getElem?_map, List.getElem?_eq_getElem hi2]; rfl⟩)
 rw [List.drop_zero, List.take_of_length_le (by omega)] at hv2
 exact ⟨v, hv1, hv2, (by cases τ <;> first | trivial | exact .inr (.inr ⟨_, by rw [hxe]⟩)), fun bk B hk hB => hv3 bk B hk fun f d ⟨j, hj, hd⟩ => Nat.le_trans (hk.part _ _ _ _ _ j h hj hd) (by rw [hxe] at hB; exact hB)⟩

theorem Rd.one {t : TypeId} {τ : Ty} (r : Rd P t τ) {H : Type} {enc : TypeId × Value → H} {w : World} {base : Nat} {spare : Nat → Bool} {held : Bool} {v : Value} {d : DataW H} {p : List MemPlace} (hv : v.cells = #[v])
  (h : DataW.Trod enc P w base spare held t v d p) : ∃ x : τ.T, τ.In x ∧ VT0 w (.one (.d (τ.enc x 0))) v ∧ τ.Top x d ∧ ∀ bk B, Bulk P bk → bk t d ≤ B → τ.Bd B x := by
 obtain ⟨fuel, hf⟩ := h
 obtain ⟨x, hx, ⟨_, hc⟩, ht, hb⟩ := r.2.2 hf
 exact ⟨x, hx, VL.d (hc 0 v (by rw [hv]; rfl)), ht, hb⟩
theorem Rd.reach {t e : TypeId} {τ : Ty} {H : Type} {enc : TypeId × Value → H} {w : World} {base : Nat} {spare : Nat → Bool} {held : Bool} {v : Value} {d : DataW H} {p : List MemPlace} {l : List τ.T} (hu : P.underlying t = some (.slice e)) (h : DataW.Trod enc P w base spare held t v d p) (ht : (Ty.tl τ).Top l d)
  {b : Nat} (hs : ∀ x y, d = .slice x y → (x.length + y.length) * P.bytesOf e ≤ b) : l.length * P.bytesOf e ≤ b := by
 rcases ht with ⟨_, h1⟩ | ⟨x, y, h1, h2⟩ | ⟨x, h1⟩
 ·have : l = [] := h1
  rw [this]; simp
 ·have h3 := hs x y h1
  have h4 : l.length = x.length := h2
  rw [h4]
  exact Nat.le_trans (Nat.mul_le_mul_right _ (Nat.le_add_right _ _)) h3
 ·obtain ⟨fuel, hf⟩ := h
  rcases DataW.trod_slice hu hf with ⟨_, h2⟩ | ⟨_, _, _, _, _, _, _, _, h2, _⟩
  ·injection h2 with h2; rw [h1] at h2; cases h2
  ·injection h2 with h2; rw [h1] at h2; cases h2
end Go.Sy
