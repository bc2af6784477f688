/- slices.Insert and slices.Delete of integers, as contracts of this proof: the library's contracts, laid at this program by the kit's tool, and what they mean here. -/
import Derived.Shelf.Lay
import Derived.Shelf.Lays2
import Derived.Shelf.Spec.SlicesInsertGrow
import Derived.Shelf.Slices.Cells
import Derived.Test.YtcklbglladijlaaIp
import Derived.Test.YtcklbglladijlaaLay
set_option linter.unusedVariables false
set_option linter.unusedSimpArgs false
namespace Go.Proofs
open Go.Shelf
def Try.laysNm221_ren : Go.Shelf.Ren := ⟨fun | 21 => 78 | 27 => 94 | 28 => 95 | 35 => 104 | 39 => 107 | n => n, fun | 22 => 39 | 3 => 3 | 4 => 4 | 0 => 0 | n => n, fun | n => n⟩
theorem Try.laysNm221 : Go.Proofs.Lays2.n21 Try.prog Try.laysNm221_ren := {
 mixed := by kernel_rfl
 f21 := Try.func78.trans (congrArg some (by kernel_rfl))
 f27 := Try.func94.trans (congrArg some (by kernel_rfl))
 f28 := Try.func95.trans (congrArg some (by kernel_rfl))
 f35 := Try.func104.trans (congrArg some (by kernel_rfl))
 f39 := Try.func107.trans (congrArg some (by kernel_rfl))
 t0 := Try.underlying0
 a0 := Try.isAgg0
 z0 := Try.sizeOf0
 v0 := Try.zeroValue0
 t3 := Try.underlying3
 a3 := Try.isAgg3
 z3 := Try.sizeOf3
 v3 := Try.zeroValue3
 t4 := Try.underlying4
 a4 := Try.isAgg4
 z4 := Try.sizeOf4
 v4 := Try.zeroValue4
 t22 := Try.underlying39
 a22 := Try.isAgg39
 z22 := Try.sizeOf39
 v22 := Try.zeroValue39
 i3 := by kernel_rfl }
def Try.laysNm223_ren : Go.Shelf.Ren := ⟨fun | 23 => 76 | n => n, fun | 22 => 39 | 3 => 3 | 4 => 4 | 0 => 0 | n => n, fun | n => n⟩
theorem Try.laysNm223 : Go.Proofs.Lays2.n23 Try.prog Try.laysNm223_ren := {
 mixed := by kernel_rfl
 f23 := Try.func76.trans (congrArg some (by kernel_rfl))
 t0 := Try.underlying0
 a0 := Try.isAgg0
 z0 := Try.sizeOf0
 v0 := Try.zeroValue0
 t3 := Try.underlying3
 a3 := Try.isAgg3
 z3 := Try.sizeOf3
 v3 := Try.zeroValue3
 t4 := Try.underlying4
 a4 := Try.isAgg4
 z4 := Try.sizeOf4
 v4 := Try.zeroValue4
 t22 := Try.underlying39
 a22 := Try.isAgg39
 z22 := Try.sizeOf39
 v22 := Try.zeroValue39
 i3 := by kernel_rfl }
end Go.Proofs
namespace Go.Proofs.Ytcklbglladijlaa
open Go.Sy Go.RatLaw Go.Lib
def c_ins : Con := fun args hp fr => match args with
 | [.one (.vr n k), .one (.d (.lit (.int .i64 i))), .one (.vr m k2)] => match hp n with
  | some (.vec (.ti .i64) e l) => match hp m with
   | some (.vec (.ti .i64) e2 l2) => match Nat.beq n m with
    | false => some ([k = l.length, k2 = l2.length, l2.length = 1, 0 ≤ i, i ≤ l.length, l.length ≤ 1000000], .t (.one (.d (.sl (.ti .i64) (insAt l i.toNat (List.getD (α := Int) l2 0 0))))), [(n, .dead 0)])
    | true => none
   | _ => none
  | _ => none
 | _ => none
theorem insAt_len {l : List Int} {i : Nat} {x : Int} (h : i ≤ l.length) : (insAt l i x).length = l.length + 1 := by
 unfold insAt; simp; omega
def valsI (l : List Int) : List Value := l.map fun n => Value.int .i64 n
theorem ins_get {cs : List Value} {x : Value} {q : Nat} (h : q ≤ cs.length) (p : Nat) : (cs.take q ++ x :: cs.drop q)[p]? = if p < q then cs[p]? else if p = q then some x else cs[p - 1]? := by
 rw [List.getElem?_append, List.length_take, Nat.min_eq_left h]
 by_cases h1 : p < q
 ·rw [if_pos h1, if_pos h1, List.getElem?_take, if_pos h1]
 ·rw [if_neg h1, if_neg h1]
  by_cases h2 : p = q
  ·subst h2; rw [if_pos rfl, Nat.sub_self]; rfl
  ·rw [if_neg h2, show p - q = (p - q - 1) + 1 by omega, List.getElem?_cons_succ, List.getElem?_drop, show q + (p - q - 1) = p - 1 by omega]
theorem valsI_ins {l : List Int} {q : Nat} {x : Int} : valsI (insAt l q x) = (valsI l).take q ++ Value.int .i64 x :: (valsI l).drop q := by
 unfold valsI insAt
 simp [List.map_take, List.map_drop]
theorem vals_get {l : List Int} {p : Nat} (h : p < l.length) : (valsI l)[p]? = some (.int .i64 (l.getD p 0)) := by
 unfold valsI
 rw [List.getElem?_map, List.getElem?_eq_getElem h, List.getD_eq_getElem?_getD, List.getElem?_eq_getElem h]; rfl
theorem vals_one (l : List Int) : ∀ v ∈ valsI l, v.oneCell' = true := by
 intro v hv
 obtain ⟨n, _, rfl⟩ := List.mem_map.1 hv
 rfl
theorem VD.ints {w : World} {M : CM} {l : List Int} {B C e : Nat} {arr : Array Value} (hB : w.heap[B]? = some (.cells arr e (0, 0))) (hM : ∀ off, ¬ M B off) (hC : l.length ≤ C) (hm : C ≤ maxLen) (ha : ∀ p, p < l.length → arr[p]? = (valsI l)[p]?) :
  VD w M (.sl (.ti .i64) l) (.slice (some ⟨B, 0, none⟩) l.length C) := by
 have hlt : B < w.heap.size := by
  rcases Nat.lt_or_ge B w.heap.size with h | h
  ·exact h
  ·rw [Array.getElem?_eq_none h] at hB; cases hB
 have hlen : (valsI l).length = l.length := by simp [valsI]
 refine VD.of_row (τ := .ti .i64) (cs := valsI l) (by decide) hlt hC hm (by rw [hlen]; exact (Nat.mul_one _).symm) (fun j _ => hM j) (fun j u hu => ?_) (fun i j u hi hj hu => ?_)
 ·have hj : j < l.length := by
   have := (List.getElem?_eq_some_iff.1 hu).1
   omega
  simp only [World.cell?, hB]
  rw [ha j hj, hu]
  rfl
 ·have hj : j = 0 := by have : j < 1 := hj; omega
  subst hj
  have hu : (valsI l)[i * 1 + 0]? = some u := hu
  rw [show i * 1 + 0 = i by omega, vals_get hi] at hu
  injection hu with hu
  subst hu
  exact .lit rfl
theorem FnPost.takes {hp : Nat → Option HO} {β : Bt} {w w' : World} (hH : HR β hp w) {n : Nat} {τ : Ty} {e : Nat} {l : List τ.T} (hn : hp n = some (.vec τ e l)) (hsize : w.heap.size ≤ w'.heap.size)
  (hother : ∀ k, k < w.heap.size → β n ≠ some k → w'.heap[k]? = w.heap[k]?) (hos : w'.os = w.os ∧ w'.tape = w.tape ∧ w'.output = w.output) {σ : Ty} {l' : List σ.T} {v : Value}
  (hv : ∀ M' : CM, (∀ k, (β n = some k ∨ w.heap.size ≤ k) → ∀ off, ¬ M' k off) → VD w' M' (.sl σ l') v) :
  FnPost hp (upd hp [(n, .dead 0)]) β (.t (.one (.d (.sl σ l')))) w w' v := by
 obtain ⟨hp', hhp⟩ : ∃ hp', upd hp [(n, .dead 0)] = hp' := ⟨_, rfl⟩
 rw [hhp]
 have p_n : hp' n = some (.dead 0) := by rw [← hhp]; simp [upd, look_cons]
 have p_o : ∀ m, m ≠ n → hp' m = hp m := fun m h2 => by rw [← hhp]; simp [upd, look_cons, Ne.symm h2, Go.Sy.look]
 obtain ⟨β', hβ'⟩ : ∃ β' : Bt, β' = ⟨fun m => if m = n then none else β m, β.o, β.m, β.ym, β.yj, β.pr⟩ := ⟨_, rfl⟩
 have b_n : β' n = none := by rw [hβ']; simp
 have b_o : ∀ m, m ≠ n → β' m = β m := fun m h2 => by rw [hβ']; simp [h2]
 have o_o : β'.o = β.o := by rw [hβ']
 have y_o : β'.ym = β.ym := by rw [hβ']
 have m_o : β'.m = β.m := by rw [hβ']
 have j_o : β'.yj = β.yj := by rw [hβ']
 have pr_o : β'.pr = β.pr := by rw [hβ']
 have y_n : ∀ k off, ¬ β'.ym n k off := fun k off => by rw [y_o]; exact hH.ye n _ hn rfl k off
 obtain ⟨u0, hu0, hu1⟩ : ∃ u, β.o n = some u ∧ hlen u ≤ maxLen := by
  rcases hH.blk n _ hn with ⟨h0, _, _⟩ | ⟨k, cap, arr, h0, _, _, h3, h4, _⟩
  ·exact ⟨_, h0, by show (0 : Nat) ≤ _; omega⟩
  ·exact ⟨_, h0, by show l.length ≤ _; omega⟩
 clear hβ' hhp
 have hcase : ∀ m k, hp' m ≠ none → bk β' m k → m ≠ n ∧ hp m ≠ none ∧ bk β m k ∧ β n ≠ some k := fun m k hm hk => by
  by_cases hx : m = n
  ·subst hx
   rcases hk with hk | ⟨off, hk⟩
   ·rw [b_n] at hk; cases hk
   ·exact absurd hk (y_n _ _)
  ·rw [p_o m hx] at hm
   have hk : bk β m k := by unfold bk at hk ⊢; rw [b_o m hx, y_o] at hk; exact hk
   exact ⟨hx, hm, hk, fun e => hx (hH.inj m n k hm (by rw [hn]; simp) hk (.inl e))⟩
 have hM' : ∀ k off, Mt β' hp' k off → Mt β hp k off ∧ β n ≠ some k ∧ k < w.heap.size := fun k off h => by
  rcases h with h | ⟨m, om, g1, g2⟩
  ·rw [m_o] at h
   exact ⟨.inl h, fun e => hH.fresh n k off (by rw [hn]; simp) (.inl e) h, hH.m0 k off h⟩
  ·have hbk : bk β' m k := g2.elim (fun h => .inl h.1) fun h => .inr ⟨off, h⟩
   obtain ⟨f1, f2, f3, f4⟩ := hcase m k (by rw [g1]; simp) hbk
   rw [p_o m f1] at g1
   rw [b_o m f1, y_o] at g2
   exact ⟨.inr ⟨m, om, g1, g2⟩, f4, hH.lt m k f2 f3⟩
 have hMb : ∀ k off, β n = some k → Mt β hp k off := fun k off h => .inr ⟨n, _, hn, .inl ⟨h, trivial⟩⟩
 have hev : Evo (Mt β hp) (Mt β' hp') w w' := by
  refine ⟨hsize, fun p hp' hm => cell_of_heap (hother _ hp' fun e => hm (hMb _ _ e)), fun k off hk hm hm' => hm (hM' k off hm').1, fun k hk hm => hother k hk fun e => hm 0 (hMb _ _ e), hos⟩
 have hbe : BEvo β β' (dm hp) (dm hp') := by
  refine ⟨fun m hm => ?_, fun m hm ho => ?_, fun m u hm hu => ⟨u, by rw [o_o]; exact hu, .inl rfl⟩, pr_o⟩
  ·unfold dm
   by_cases hx : m = n
   ·rw [hx, p_n]; simp
   ·rw [p_o m hx]; exact hm
  ·have hx : m ≠ n := fun e => by rw [e, hu0] at ho; cases ho
   exact ⟨by rw [o_o]; exact ho, b_o m hx, by rw [j_o]⟩
 have hlt' : ∀ m k, hp' m ≠ none → bk β' m k → k < w'.heap.size := fun m k hm hk => by
  obtain ⟨_, g1, g2, _⟩ := hcase m k hm hk
  have := hH.lt m k g1 g2; omega
 have hfresh' : ∀ m k off, hp' m ≠ none → bk β' m k → ¬ β'.m k off := fun m k off hm hk => by
  rw [m_o]
  obtain ⟨_, g1, g2, _⟩ := hcase m k hm hk
  exact hH.fresh m k off g1 g2
 have hinj' : ∀ m m' k, hp' m ≠ none → hp' m' ≠ none → bk β' m k → bk β' m' k → m = m' := fun m m' k hm hm' hk hk' => by
  obtain ⟨_, g1, g2, _⟩ := hcase m k hm hk
  obtain ⟨_, f1, f2, _⟩ := hcase m' k hm' hk'
  exact hH.inj m m' k g1 f1 g2 f2
 have hm0' : ∀ k off, β'.m k off → k < w'.heap.size := fun k off h => by rw [m_o] at h; have := hH.m0 k off h; omega
 have hHR : HR β' hp' w' := by
  refine ⟨hm0', hlt', hfresh', hinj', fun m o ho hob => ?_, fun m o ho => ?_, by rw [pr_o]; exact hH.gl.evo hev⟩
  ·by_cases hx : m = n
   ·subst hx; exact y_n
   ·rw [p_o m hx] at ho; rw [y_o]; exact hH.ye m o ho hob
  ·by_cases hx : m = n
   ·subst hx
    rw [p_n] at ho; injection ho with ho; subst ho
    exact ⟨_, by rw [o_o]; exact hu0, hu1⟩
   ·have ho' := ho
    rw [p_o m hx] at ho
    refine (hH.blk m o ho).evo hev hbe (b_o m hx) (by rw [o_o]) (by rw [y_o]) (by rw [j_o]) (fun k hk => hother k (hH.lt m k (by rw [ho]; simp) hk) fun e => hx (hH.inj m n k (by rw [ho]; simp) (by rw [hn]; simp) hk (.inl e))) (fun hob => dis_of hm0' hlt' hfresh' hinj' ho' hob)
 refine ⟨⟨β', hbe, fun k off h => by rw [m_o]; exact h, hHR, ?_, fun m k hm hk => ?_, hev⟩, ?_⟩
 ·refine VL.d (hv _ fun k hk off h => ?_)
  obtain ⟨_, g2, g3⟩ := hM' k off h
  rcases hk with hk | hk
  ·exact g2 hk
  ·omega
 ·obtain ⟨_, g1, g2, _⟩ := hcase m k hm hk
  exact .inl ⟨m, g1, g2⟩
 ·exact ⟨hos.1, hos.2.1, hos.2.2, hsize, fun k hk hB => hother k hk fun e => hB ⟨n, by rw [hn]; simp, .inl e⟩⟩
theorem sets_hp (b e : Nat) : ∀ (vs : List Value) (o : Nat) (w : World) (arr : Array Value), w.heap[b]? = some (.cells arr e (0, 0)) → o + vs.length ≤ arr.size →
  ∃ arr' : Array Value, (w.setCells b o vs).heap[b]? = some (.cells arr' e (0, 0)) ∧ arr'.size = arr.size ∧ ∀ p, arr'[p]? = if o ≤ p ∧ p < o + vs.length then vs[p - o]? else arr[p]?
 | [], o, w, arr, h, _ => ⟨arr, h, rfl, fun p => by rw [if_neg (by simp)]⟩
 | v :: r, o, w, arr, h, hl => by
  have h1 : (w.setCell ⟨b, o, none⟩ v).heap[b]? = some (.cells (arr.setIfInBounds o v) e (0, 0)) := by
   simp [World.setCell, Array.getElem?_modify, h]
  simp only [List.length_cons] at hl
  obtain ⟨arr', g1, g2, g3⟩ := sets_hp b e r (o + 1) _ _ h1 (by simp; omega)
  refine ⟨arr', g1, by simpa using g2, fun p => ?_⟩
  rw [g3, Array.getElem?_setIfInBounds]
  simp only [List.length_cons]
  by_cases hp : p = o
  ·subst hp
   rw [if_neg (by omega), if_pos rfl, if_pos (by omega), if_pos (by omega)]
   simp
  ·by_cases hq : o + 1 ≤ p ∧ p < o + 1 + r.length
   ·rw [if_pos hq, if_pos (by omega), show p - o = (p - (o + 1)) + 1 by omega]
    simp
   ·rw [if_neg hq, if_neg (by omega), if_neg (by omega)]
theorem sets_oth (b : Nat) : ∀ (vs : List Value) (o : Nat) (w : World), (w.setCells b o vs).heap.size = w.heap.size ∧ (∀ k, k ≠ b → (w.setCells b o vs).heap[k]? = w.heap[k]?) ∧
  (w.setCells b o vs).os = w.os ∧ (w.setCells b o vs).tape = w.tape ∧ (w.setCells b o vs).output = w.output
 | [], _, _ => ⟨rfl, fun _ _ => rfl, rfl, rfl, rfl⟩
 | v :: r, o, w => by
  obtain ⟨h1, h2, h3, h4, h5⟩ := sets_oth b r (o + 1) (w.setCell ⟨b, o, none⟩ v)
  refine ⟨h1.trans (by simp [World.setCell]), fun k hk => (h2 k hk).trans ?_, h3, h4, h5⟩
  simp [World.setCell, Array.getElem?_modify, Ne.symm hk]
theorem row_vals {w : World} {M : CM} {l : List Int} {cap : Nat} {arr : Array Value} (h3 : l.length ≤ cap) (h5 : arr.size = cap * 1)
  (h6 : ∀ (i j : Nat) u, i < l.length → j < 1 → arr[i * 1 + j]? = some u → VD w M ((Ty.ti .i64).enc (l.getD i 0) j) u) : ∀ p, p < l.length → arr[p]? = (valsI l)[p]? := fun p hp => by
 have hlt : p < arr.size := by omega
 have hg : arr[p * 1 + 0]? = some arr[p] := by rw [show p * 1 + 0 = p by omega]; exact Array.getElem?_eq_getElem hlt
 have hv := h6 p 0 _ hp (by omega) hg
 rw [vals_get hp, Array.getElem?_eq_getElem hlt]
 generalize arr[p] = u at hv
 cases hv with
 | lit _ => rfl
def InsPost (β : Bt) (n : Nat) (w : World) (l' : List Int) (e : Ending) (w' : World) : Prop :=
 ∃ (B C t : Nat) (arr : Array Value), e = .returned (.slice (some ⟨B, 0, none⟩) l'.length C) ∧ w.heap.size ≤ w'.heap.size ∧ (∀ k, k < w.heap.size → β n ≠ some k → w'.heap[k]? = w.heap[k]?) ∧
  (w'.os = w.os ∧ w'.tape = w.tape ∧ w'.output = w.output) ∧ w'.heap[B]? = some (.cells arr t (0, 0)) ∧ (β n = some B ∨ w.heap.size ≤ B) ∧ l'.length ≤ C ∧ C ≤ maxLen ∧ ∀ p, p < l'.length → arr[p]? = (valsI l')[p]?
theorem take_full {α : Type} {l : List α} {q : Nat} (h : q = l.length) : l.take q = l := by rw [h, List.take_length]
theorem drop_full {α : Type} {l : List α} {q : Nat} (h : q = l.length) : l.drop q = [] := by rw [h, List.drop_length]
theorem vals_len (l : List Int) : (valsI l).length = l.length := by simp [valsI]
theorem zsize (n : Nat) : (Builtin.zeroCells (Value.int .i64 0).cells n).size = n := by simp [Builtin.zeroCells, Value.cells]
theorem ins_nil {β : Bt} {n : Nat} {w : World} {x : Int} {vb vcap : Nat} (hb : β n = none) (hvs : w.cell? ⟨vb, 0, none⟩ = some (.int .i64 x)) :
  Calls Try.prog 78 #[.slice none 0 0, .int .i64 0, .slice (some ⟨vb, 0, none⟩) 1 vcap] w (InsPost β n w (insAt [] 0 x)) := by
 have h := Any2.slices_Insert_int_end_grow Try.laysNm221 none 0 0 vb 0 1 vcap [] [.int .i64 x] w (by omega) (by omega) (by omega) (by omega) rfl rfl (fun _ => rfl) (fun a h => by cases h) (fun j v h => by
  cases j with
  | zero => injection h with h; subst h; exact hvs
  | succ j => cases h) (vals_one [x])
 refine Calls.mono h fun e w' ⟨he, hw⟩ => ?_
 have hge := grownCap_ge w (0 + 1) 0 (Try.laysNm221_ren.t 3)
 have hle := grownCap_le_maxLen w (0 + 1) 0 (Try.laysNm221_ren.t 3) (by unfold maxLen; omega)
 refine ⟨w.heap.size, _, _, _, he, by rw [hw]; simp [World.alloc], fun k hk _ => by rw [hw]; exact heap_alloc_old w.drew _ hk, by rw [hw]; exact ⟨rfl, rfl, rfl⟩, by rw [hw]; exact heap_alloc_new w.drew _, .inr (Nat.le_refl _), hge, hle, fun p hp => ?_⟩
 have hp : p = 0 := by have : p < 1 := hp; omega
 subst hp
 rw [Array.getElem?_append_left (by simp)]
 rfl
theorem ins_room {β : Bt} {n : Nat} {w : World} {l : List Int} {q blk cap e : Nat} {arr : Array Value} {x : Int} {vb vcap e2 : Nat} {varr : Array Value} (hq : q ≤ l.length) (h1 : β n = some blk) (h2 : w.heap[blk]? = some (.cells arr e (0, 0))) (h3 : l.length ≤ cap) (h4 : cap ≤ maxLen) (h5 : arr.size = cap * 1)
  (hrow : ∀ p, p < l.length → arr[p]? = (valsI l)[p]?) (hvb : vb ≠ blk) (hv2 : w.heap[vb]? = some (.cells varr e2 (0, 0))) (hvs : varr[0]? = some (.int .i64 x)) (hroom : l.length + 1 ≤ cap) :
  Calls Try.prog 78 #[.slice (some ⟨blk, 0, none⟩) l.length cap, .int .i64 q, .slice (some ⟨vb, 0, none⟩) 1 vcap] w (InsPost β n w (insAt l q x)) := by
 have hm63 : cap ≤ 9223372036854775807 := by unfold maxLen at h4; omega
 have hcell : ∀ p, w.cell? ⟨blk, p, none⟩ = arr[p]? := fun p => by simp [World.cell?, h2]
 have hvcell : ∀ p, w.cell? ⟨vb, p, none⟩ = varr[p]? := fun p => by simp [World.cell?, hv2]
 have hvs' : ∀ (j : Nat) v, [Value.int .i64 x][j]? = some v → w.cell? ⟨vb, 0 + j, none⟩ = some v := fun j v h => by
  cases j with
  | zero => injection h with h; subst h; rw [hvcell]; exact hvs
  | succ j => cases h
 have hblt : blk < w.heap.size := by
  rcases Nat.lt_or_ge blk w.heap.size with h | h
  ·exact h
  ·rw [Array.getElem?_eq_none h] at h2; cases h2
 have hcs : ∀ (j : Nat) v, (valsI l)[j]? = some v → w.cell? ⟨blk, 0 + j, none⟩ = some v := fun j v h => by
  have hj : j < l.length := by rw [← vals_len l]; exact (List.getElem?_eq_some_iff.1 h).1
  rw [hcell, Nat.zero_add, hrow j hj, h]
 have hlen := insAt_len (x := x) hq
 by_cases hi : q < l.length
 ·have h := Any2.slices_Insert_int_shift Try.laysNm221 blk 0 l.length cap q vb 0 1 vcap (valsI l) [.int .i64 x] w hi (by omega) hroom hm63 hvb (vals_len l) rfl hcs (fun j hj => by rw [hcell, Array.getElem?_eq_getElem (by omega)]; rfl) (fun j hj => frozen_of_row w blk _ arr e h2) hvs' (vals_one l) (vals_one [x])
   e2 e varr.size arr.size (by simp [World.shape?, hv2]) (by simp [World.shape?, h2]) (by omega) (frozen_of_row w vb _ varr e2 hv2) (frozen_of_row w vb _ varr e2 hv2)
  refine Calls.mono h fun en w' ⟨he, hw⟩ => ?_
  rw [Nat.zero_add, Nat.zero_add] at hw
  have hd : ((valsI l).drop q).length = l.length - q := by rw [List.length_drop, vals_len]
  obtain ⟨a1, g1, g2, g3⟩ := sets_hp blk e ((valsI l).drop q) (q + 1) w.drew arr h2 (by omega)
  obtain ⟨a2, k1, k2, k3⟩ := sets_hp blk e [.int .i64 x] q _ a1 g1 (by simp; omega)
  obtain ⟨o1, o2, o3, o4, o5⟩ := sets_oth blk ((valsI l).drop q) (q + 1) w.drew
  obtain ⟨q1, q2, q3, q4, q5⟩ := sets_oth blk [.int .i64 x] q (w.drew.setCells blk (q + 1) ((valsI l).drop q))
  subst hw
  refine ⟨blk, cap, e, a2, by rw [he, hlen], by rw [q1, o1]; exact Nat.le_refl _, fun k hk hkb => ?_, ⟨q3.trans o3, q4.trans o4, q5.trans o5⟩, k1, .inl h1, by omega, h4, fun p hp => ?_⟩
  ·have : k ≠ blk := fun z => hkb (z ▸ h1)
   exact (q2 k this).trans (o2 k this)
  ·rw [hlen] at hp
   rw [valsI_ins, ins_get (by rw [vals_len]; exact hq), k3]
   by_cases p1 : p < q
   ·rw [if_pos p1, if_neg (by omega), g3, if_neg (by omega)]
    exact hrow p (by omega)
   ·rw [if_neg p1]
    by_cases p2 : p = q
    ·subst p2
     rw [if_pos rfl, if_pos (by simp)]
     simp
    ·rw [if_neg p2, if_neg (by simp; omega), g3, if_pos (by omega), List.getElem?_drop, show q + (p - (q + 1)) = p - 1 by omega]
 ·have hql : q = l.length := by omega
  have h := Any2.slices_Insert_int_end_room Try.laysNm221 blk 0 l.length cap vb 0 1 vcap [.int .i64 x] w (by omega) hroom hm63 rfl (fun j hj => by rw [hcell, Array.getElem?_eq_getElem (by omega)]; rfl) (fun j hj => frozen_of_row w blk _ arr e h2) hvs' (vals_one [x])
  rw [hql]
  refine Calls.mono h fun en w' ⟨he, hw⟩ => ?_
  rw [Nat.zero_add] at hw
  obtain ⟨a2, k1, k2, k3⟩ := sets_hp blk e [.int .i64 x] l.length w arr h2 (by simp; omega)
  obtain ⟨q1, q2, q3, q4, q5⟩ := sets_oth blk [.int .i64 x] l.length w
  subst hw
  rw [hql] at hlen
  refine ⟨blk, cap, e, a2, by rw [he, hlen], by rw [q1]; exact Nat.le_refl _, fun k hk hkb => q2 k fun z => hkb (z ▸ h1), ⟨q3, q4, q5⟩, k1, .inl h1, by omega, h4, fun p hp => ?_⟩
  rw [hlen] at hp
  rw [valsI_ins, ins_get (by rw [vals_len]; exact Nat.le_refl _), k3]
  by_cases p1 : p < l.length
  ·rw [if_pos p1, if_neg (by omega)]
   exact hrow p p1
  ·have p2 : p = l.length := by omega
   rw [if_pos (show l.length ≤ p ∧ p < l.length + [Value.int .i64 x].length from ⟨by omega, by simp; omega⟩), if_neg (show ¬ p < l.length by omega), if_pos p2, p2]
   simp
theorem ins_grow {β : Bt} {n : Nat} {w : World} {l : List Int} {q blk cap e : Nat} {arr : Array Value} {x : Int} {vb vcap e2 : Nat} {varr : Array Value} (hq : q ≤ l.length) (hl : l.length ≤ 1000000) (h2 : w.heap[blk]? = some (.cells arr e (0, 0))) (h3 : l.length ≤ cap)
  (hrow : ∀ p, p < l.length → arr[p]? = (valsI l)[p]?) (hv2 : w.heap[vb]? = some (.cells varr e2 (0, 0))) (hvs : varr[0]? = some (.int .i64 x)) (hroom : cap < l.length + 1) :
  Calls Try.prog 78 #[.slice (some ⟨blk, 0, none⟩) l.length cap, .int .i64 q, .slice (some ⟨vb, 0, none⟩) 1 vcap] w (InsPost β n w (insAt l q x)) := by
 have hcell : ∀ p, w.cell? ⟨blk, p, none⟩ = arr[p]? := fun p => by simp [World.cell?, h2]
 have hvcell : ∀ p, w.cell? ⟨vb, p, none⟩ = varr[p]? := fun p => by simp [World.cell?, hv2]
 have hvs' : ∀ (j : Nat) v, [Value.int .i64 x][j]? = some v → w.cell? ⟨vb, 0 + j, none⟩ = some v := fun j v h => by
  cases j with
  | zero => injection h with h; subst h; rw [hvcell]; exact hvs
  | succ j => cases h
 have hcs : ∀ (j : Nat) v, (valsI l)[j]? = some v → w.cell? ⟨blk, 0 + j, none⟩ = some v := fun j v h => by
  have hj : j < l.length := by rw [← vals_len l]; exact (List.getElem?_eq_some_iff.1 h).1
  rw [hcell, Nat.zero_add, hrow j hj, h]
 have hlen := insAt_len (x := x) hq
 have hge := grownCap_ge w (l.length + 1) cap (Try.laysNm221_ren.t 3)
 have hle := grownCap_le_maxLen w (l.length + 1) cap (Try.laysNm221_ren.t 3) (by unfold maxLen; omega)
 by_cases hi : q < l.length
 ·have h := Any2.slices_Insert_int_grow Try.laysNm221 blk 0 l.length cap q vb 0 1 vcap (valsI l) [.int .i64 x] w hi (by omega) h3 hroom (by omega) (vals_len l) rfl hcs hvs' (vals_one l) (vals_one [x])
  refine Calls.mono h fun en w' ⟨he, hw⟩ => ?_
  have hd : ((valsI l).drop q).length = l.length - q := by rw [List.length_drop, vals_len]
  have ht : ((valsI l).take q).length = q := by rw [List.length_take, vals_len]; omega
  generalize hG : grownCap w (l.length + 1) cap (Try.laysNm221_ren.t 3) = G at *
  generalize hR : ((valsI l).take q).toArray ++ Builtin.zeroCells (Value.int .i64 0).cells (l.length + 1 - q) ++ Builtin.zeroCells (Value.int .i64 0).cells (G - (l.length + 1)) = R at hw
  have hRs : R.size = G := by rw [← hR]; simp only [Array.size_append, List.size_toArray, ht, zsize]; omega
  have hRp : ∀ p, p < q → R[p]? = (valsI l)[p]? := fun p hp => by
   rw [← hR, Array.getElem?_append_left (by simp only [Array.size_append, List.size_toArray, ht, zsize]; omega), Array.getElem?_append_left (by simp only [List.size_toArray, ht]; omega), List.getElem?_toArray, List.getElem?_take, if_pos hp]
  have hb0 : (w.alloc (.cells R (Try.laysNm221_ren.t 3) (0, 0))).drew.heap[w.heap.size]? = some (.cells R (Try.laysNm221_ren.t 3) (0, 0)) := heap_alloc_new w _
  obtain ⟨a1, g1, g2, g3⟩ := sets_hp w.heap.size _ [.int .i64 x] q _ R hb0 (by simp; omega)
  obtain ⟨a2, k1, k2, k3⟩ := sets_hp w.heap.size _ ((valsI l).drop q) (q + 1) (((w.alloc (.cells R (Try.laysNm221_ren.t 3) (0, 0))).drew.setCells w.heap.size q [.int .i64 x]).drew) a1 g1 (by omega)
  obtain ⟨o1, o2, o3, o4, o5⟩ := sets_oth w.heap.size [.int .i64 x] q (w.alloc (.cells R (Try.laysNm221_ren.t 3) (0, 0))).drew
  obtain ⟨q1, q2, q3, q4, q5⟩ := sets_oth w.heap.size ((valsI l).drop q) (q + 1) (((w.alloc (.cells R (Try.laysNm221_ren.t 3) (0, 0))).drew.setCells w.heap.size q [.int .i64 x]).drew)
  subst hw
  have hsz : (w.alloc (.cells R (Try.laysNm221_ren.t 3) (0, 0))).drew.heap.size = w.heap.size + 1 := by show (w.heap.push _).size = _; simp
  refine ⟨w.heap.size, G, _, a2, by rw [he, hlen], ?_, fun k hk _ => ?_, ⟨q3.trans o3, q4.trans o4, q5.trans o5⟩, k1, .inr (Nat.le_refl _), by omega, hle, fun p hp => ?_⟩
  ·rw [q1]
   show w.heap.size ≤ ((w.alloc (.cells R (Try.laysNm221_ren.t 3) (0, 0))).drew.setCells w.heap.size q [.int .i64 x]).heap.size
   rw [o1, hsz]; omega
  ·have hk' : k ≠ w.heap.size := by omega
   exact ((q2 k hk').trans (o2 k hk')).trans (heap_alloc_old w _ hk)
  ·rw [hlen] at hp
   rw [valsI_ins, ins_get (by rw [vals_len]; exact hq), k3]
   by_cases p1 : p < q
   ·rw [if_pos p1, if_neg (by omega), g3, if_neg (by omega)]
    exact hRp p p1
   ·rw [if_neg p1]
    by_cases p2 : p = q
    ·subst p2
     rw [if_pos rfl, if_neg (by omega), g3, if_pos (by simp)]
     simp
    ·rw [if_neg p2, if_pos (by omega), List.getElem?_drop, show q + (p - (q + 1)) = p - 1 by omega]
 ·have hql : q = l.length := by omega
  have h := Any2.slices_Insert_int_end_grow Try.laysNm221 (some ⟨blk, 0, none⟩) l.length cap vb 0 1 vcap (valsI l) [.int .i64 x] w (by omega) h3 hroom (by omega) (vals_len l) rfl (fun h => by cases h) (fun a ha j v hj => by injection ha with ha; subst ha; rw [Addr.add_lit]; exact hcs j v hj) hvs' (vals_one [x])
  rw [hql]
  refine Calls.mono h fun en w' ⟨he, hw⟩ => ?_
  rw [hql] at hlen
  refine ⟨w.heap.size, _, _, _, by rw [he, hlen], by rw [hw]; simp [World.alloc], fun k hk _ => by rw [hw]; exact heap_alloc_old w.drew _ hk, by rw [hw]; exact ⟨rfl, rfl, rfl⟩, by rw [hw]; exact heap_alloc_new w.drew _, .inr (Nat.le_refl _), by rw [hlen]; exact hge, hle, fun p hp => ?_⟩
  rw [hlen] at hp
  have hs : (valsI l ++ [Value.int .i64 x]).length = l.length + 1 := by simp [vals_len]
  rw [Array.getElem?_append_left (by simp only [List.size_toArray, hs]; omega), List.getElem?_toArray, valsI_ins, take_full (vals_len l).symm, drop_full (vals_len l).symm]
theorem ok78 : FnOk Try.prog 78 (CE.gen c_ins).con := ⟨enters Try.func78 (c := Try.f78.body.getD .skip) (by kernel_rfl) (by kernel_rfl), fun args hp fr cs r up h hcs w β vals hpr hH hargs => by
 simp only [CE.con] at h
 unfold c_ins at h
 split at h
 ·rename_i n k i m k2
  split at h
  ·rename_i e l hn
   split at h
   ·rename_i e2 l2 hm
    split at h
    ·rename_i hne
     injection h with h; injection h with h1 h2; injection h2 with h2 h3; subst h1 h2 h3
     have c1 : k = l.length := hcs _ (by simp)
     have c2 : k2 = l2.length := hcs _ (by simp)
     have c3 : List.length (α := Int) l2 = 1 := hcs (l2.length = 1) (by simp)
     have c4 : 0 ≤ i := hcs _ (by simp)
     have c5 : i ≤ (List.length (α := Int) l : Int) := hcs (i ≤ l.length) (by simp)
     have c6 : List.length (α := Int) l ≤ 1000000 := hcs (l.length ≤ 1000000) (by simp)
     obtain ⟨q, rfl⟩ : ∃ q : Nat, i = q := ⟨i.toNat, by omega⟩
     clear hcs
     have c5 : q ≤ List.length (α := Int) l := by omega
     have hnm : n ≠ m := fun z => by rw [z] at hne; simp at hne
     rw [Int.toNat_natCast]
     cases hargs with
     | cons hv hargs => cases hargs with
      | cons hvi hargs => cases hargs with
       | cons hvm hargs => cases hargs with
        | nil =>
         rename_i v vi vm
         obtain rfl := VT.int hvi
         have hv : VL w (Mt β hp) β (dm hp) (.vr n k) v := hv
         have hvm : VL w (Mt β hp) β (dm hp) (.vr m k2) vm := hvm
         cases hvm with
         | vr hs' hk' ho' =>
          obtain ⟨_, u', hu', hle', heq'⟩ := ho'
          rcases hH.blk m _ hm with ⟨_, _, z0⟩ | ⟨vb, vcap, varr, v0, v1, v2, v3, v4, v5, v6⟩
          ·subst z0; cases c3
          ·rw [v0] at hu'; injection hu' with hu'; subst hu'
           obtain rfl := heq' (by rw [hk', c2]; rfl)
           rw [show l2.length = 1 from c3]
           have hrowv : varr[0]? = some (.int .i64 (List.getD (α := Int) l2 0 0)) := (row_vals (l := l2) v3 v5 v6 0 (by omega)).trans (vals_get (by omega))
           have hvc : w.cell? ⟨vb, 0, none⟩ = some (.int .i64 (List.getD (α := Int) l2 0 0)) := by simp only [World.cell?, v2]; rw [hrowv]; rfl
           generalize List.getD (α := Int) l2 0 0 = x at hrowv hvc ⊢
           have hfin : ∀ vv : Value, Calls Try.prog 78 #[vv, .int .i64 q, .slice (some ⟨vb, 0, none⟩) 1 vcap] w (InsPost β n w (insAt l q x)) →
             Calls Try.prog 78 #[vv, .int .i64 q, .slice (some ⟨vb, 0, none⟩) 1 vcap] w fun e w' => ∃ v, e = .returned v ∧ FnPost hp (upd hp [(n, .dead 0)]) β (.t (.one (.d (.sl (.ti .i64) (insAt l q x))))) w w' v := fun vv hc => by
            refine Calls.mono hc fun en w' ⟨B, C, t, arr, he, g1, g2, g3, g4, g5, g6, g7, g8⟩ => ⟨_, he, FnPost.takes hH hn g1 g2 g3 fun M' hM' => ?_⟩
            exact VD.ints g4 (hM' B g5) g6 g7 g8
           cases hv with
           | vr hs hk ho =>
            obtain ⟨_, u, hu, hle, heq⟩ := ho
            rcases hH.blk n _ hn with ⟨z1, z2, z0⟩ | ⟨blk, cap, arr, h0, h1, h2, h3, h4, h5, h6⟩
            ·subst z0
             rw [z1] at hu; injection hu with hu; subst hu
             obtain rfl := heq (by rw [hk, c1]; rfl)
             obtain rfl : q = 0 := by have : q ≤ 0 := c5; omega
             exact hfin _ (ins_nil z2 hvc)
            ·rw [h0] at hu; injection hu with hu; subst hu
             obtain rfl := heq (by rw [hk, c1]; rfl)
             have hrow := row_vals (l := l) h3 h5 h6
             by_cases hroom : List.length (α := Int) l + 1 ≤ cap
             ·have hvb : vb ≠ blk := fun z => hnm (hH.inj n m blk (by rw [hn]; simp) (by rw [hm]; simp) (.inl h1) (.inl (z ▸ v1)))
              exact hfin _ (ins_room c5 h1 h2 h3 h4 h5 hrow hvb v2 hrowv hroom)
             ·exact hfin _ (ins_grow c5 c6 h2 h3 hrow v2 hrowv (by omega))
    ·cases h
   ·cases h
  ·cases h
 ·cases h⟩
def c_delI : Con := fun args hp fr => match args with
 | [.one (.vr n k), .one (.d (.lit (.int .i64 i))), .one (.d (.lit (.int .i64 j)))] => match hp n with
  | some (.vec (.ti .i64) e l) => some ([k = l.length, 0 ≤ i, i < l.length, j = i + 1, l.length ≤ 1000000], .t (.one (.d (.sl (.ti .i64) (List.eraseIdx (α := Int) l i.toNat)))), [(n, .dead 0)])
  | _ => none
 | _ => none
theorem erase_get {l : List Int} {q p : Nat} (hq : q < l.length) (hp : p < (l.eraseIdx q).length) : (((l.take l.length).take q ++ (l.take l.length).drop (q + 1) ++ List.replicate (q + 1 - q) 0).map (Value.int .i64))[p]? = (valsI (l.eraseIdx q))[p]? := by
 rw [List.take_length, ← List.eraseIdx_eq_take_drop_succ, List.map_append, List.getElem?_append_left (by rw [List.length_map]; exact hp)]
 rfl
theorem del_room {β : Bt} {n : Nat} {w : World} {l : List Int} {q blk cap e : Nat} {arr : Array Value} (c5 : q < l.length) (h1 : β n = some blk) (h2 : w.heap[blk]? = some (.cells arr e (0, 0))) (h3 : l.length ≤ cap) (h4 : cap ≤ maxLen) (h5 : arr.size = cap * 1)
  (hrow : ∀ p, p < l.length → arr[p]? = (valsI l)[p]?) :
  Calls Try.prog 76 #[.slice (some ⟨blk, 0, none⟩) l.length cap, .int .i64 q, .int .i64 (q + 1)] w (InsPost β n w (l.eraseIdx q)) := by
 have hcell : ∀ p, w.cell? ⟨blk, p, none⟩ = arr[p]? := fun p => by simp [World.cell?, h2]
 have h := Any.slices_Delete_int_cells Try.laysNm223 blk 0 l.length cap q (q + 1) l w (Nat.le_refl _) h3 (by unfold maxLen at h4; omega) (by omega) (by omega)
  (fun j hj => by rw [Nat.zero_add, hcell, hrow j hj, vals_get hj]) (fun j hj => frozen_of_row w blk _ arr e h2)
 refine Calls.mono h fun en w' ⟨he, s, hw⟩ => ?_
 have hlen : (((l.take l.length).take q ++ (l.take l.length).drop (q + 1) ++ List.replicate (q + 1 - q) 0).map (Value.int .i64)).length = l.length := by
  simp only [List.length_map, List.length_append, List.take_length, List.length_take, List.length_drop, List.length_replicate]; omega
 obtain ⟨a1, g1, g2, g3⟩ := sets_hp blk e (((l.take l.length).take q ++ (l.take l.length).drop (q + 1) ++ List.replicate (q + 1 - q) 0).map (Value.int .i64)) 0 (w.drewN s) arr h2 (by rw [hlen]; omega)
 obtain ⟨o1, o2, o3, o4, o5⟩ := sets_oth blk (((l.take l.length).take q ++ (l.take l.length).drop (q + 1) ++ List.replicate (q + 1 - q) 0).map (Value.int .i64)) 0 (w.drewN s)
 have hel : (l.eraseIdx q).length = l.length - 1 := List.length_eraseIdx_of_lt c5
 subst hw
 refine ⟨blk, cap, e, a1, ?_, Nat.le_of_eq o1.symm, fun k hk hkb => o2 k fun z => hkb (z ▸ h1), ⟨o3, o4, o5⟩, g1, .inl h1, by omega, h4, fun p hp => ?_⟩
 ·rw [he, show l.length - (q + 1 - q) = (l.eraseIdx q).length by omega]
 ·rw [g3, if_pos (by rw [hlen]; omega), Nat.sub_zero]
  exact erase_get c5 hp
theorem ok76 : FnOk Try.prog 76 (CE.gen c_delI).con := ⟨enters Try.func76 (c := Try.f76.body.getD .skip) (by kernel_rfl) (by kernel_rfl), fun args hp fr cs r up h hcs w β vals hpr hH hargs => by
 simp only [CE.con] at h
 unfold c_delI at h
 split at h
 ·rename_i n k i j
  split at h
  ·rename_i e l hn
   injection h with h; injection h with h1 h2; injection h2 with h2 h3; subst h1 h2 h3
   have c1 : k = List.length (α := Int) l := hcs (k = l.length) (by simp)
   have c4 : 0 ≤ i := hcs _ (by simp)
   have c5 : i < (List.length (α := Int) l : Int) := hcs (i < l.length) (by simp)
   have c6 : j = i + 1 := hcs _ (by simp)
   have c7 : List.length (α := Int) l ≤ 1000000 := hcs (l.length ≤ 1000000) (by simp)
   obtain ⟨q, rfl⟩ : ∃ q : Nat, i = q := ⟨i.toNat, by omega⟩
   clear hcs
   subst c6
   have c5 : q < List.length (α := Int) l := by omega
   rw [Int.toNat_natCast]
   cases hargs with
   | cons hv hargs => cases hargs with
    | cons hvi hargs => cases hargs with
     | cons hvj hargs => cases hargs with
      | nil =>
       rename_i v vi vj
       obtain rfl := VT.int hvi
       obtain rfl := VT.int hvj
       have hv : VL w (Mt β hp) β (dm hp) (.vr n k) v := hv
       cases hv with
       | vr hs hk ho =>
        obtain ⟨_, u, hu, hle, heq⟩ := ho
        rcases hH.blk n _ hn with ⟨z1, z2, z0⟩ | ⟨blk, cap, arr, h0, h1, h2, h3, h4, h5, h6⟩
        ·subst z0; exact absurd c5 (Nat.not_lt_zero _)
        ·rw [h0] at hu; injection hu with hu; subst hu
         obtain rfl := heq (by rw [hk, c1]; rfl)
         have hrow := row_vals (l := l) h3 h5 h6
         have c : Calls Try.prog 76 _ w _ := del_room c5 h1 h2 h3 h4 h5 hrow
         exact Calls.mono c fun en w' ⟨B, C, t, arr, he, g1, g2, g3, g4, g5, g6, g7, g8⟩ => ⟨_, he, FnPost.takes hH hn g1 g2 g3 fun M' hM' => VD.ints g4 (hM' B g5) g6 g7 g8⟩
  ·cases h
 ·cases h⟩
end Go.Proofs.Ytcklbglladijlaa
