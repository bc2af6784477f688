import Derived.Test.YtcklbglladijlaaGd
namespace Go.Proofs.Ytcklbglladijlaa
open Go.Sy
set_option linter.unusedVariables false
set_option linter.unusedSimpArgs false
theorem sets_heap (b e : Nat) : ∀ (vs : List Value) (o : Nat) (w : World) (arr : Array Value), w.heap[b]? = some (.cells arr e (0, 0)) → o + vs.length ≤ arr.size →
  ∃ arr' : Array Value, (w.setCells b o vs).heap[b]? = some (.cells arr' e (0, 0)) ∧ arr'.size = arr.size ∧ ∀ p, arr'[p]? = if o ≤ p ∧ p < o + vs.length then vs[p - o]? else arr[p]?
 | [], o, w, arr, h, _ => ⟨arr, h, rfl, fun p => by rw [if_neg (by simp)]⟩
 | v :: r, o, w, arr, h, hl => by
  have h1 : (w.setCell ⟨b, o, none⟩ v).heap[b]? = some (.cells (arr.setIfInBounds o v) e (0, 0)) := by
   simp [World.setCell, Array.getElem?_modify, h]
  simp only [List.length_cons] at hl
  obtain ⟨arr', g1, g2, g3⟩ := sets_heap b e r (o + 1) _ _ h1 (by simp; omega)
  refine ⟨arr', g1, by simpa using g2, fun p => ?_⟩
  rw [g3, Array.getElem?_setIfInBounds]
  simp only [List.length_cons]
  by_cases hp : p = o
  ·subst hp
   rw [if_neg (by omega), if_pos rfl, if_pos (by omega), if_pos (by omega)]
   simp
  ·by_cases hq : o + 1 ≤ p ∧ p < o + 1 + r.length
   ·rw [if_pos hq, if_pos (by omega), show p - o = (p - (o + 1)) + 1 by omega]
    simp
   ·rw [if_neg hq, if_neg (by omega), if_neg (by omega)]
theorem sets_other (b : Nat) : ∀ (vs : List Value) (o : Nat) (w : World), (w.setCells b o vs).heap.size = w.heap.size ∧ (∀ k, k ≠ b → (w.setCells b o vs).heap[k]? = w.heap[k]?) ∧
  (w.setCells b o vs).os = w.os ∧ (w.setCells b o vs).tape = w.tape ∧ (w.setCells b o vs).output = w.output
 | [], _, _ => ⟨rfl, fun _ _ => rfl, rfl, rfl, rfl⟩
 | v :: r, o, w => by
  obtain ⟨h1, h2, h3, h4, h5⟩ := sets_other b r (o + 1) (w.setCell ⟨b, o, none⟩ v)
  refine ⟨h1.trans (by simp [World.setCell]), fun k hk => (h2 k hk).trans ?_, h3, h4, h5⟩
  simp [World.setCell, Array.getElem?_modify, Ne.symm hk]

def c_del2 : Con := fun args hp fr => match args with
 | [.one (.vr n k), .one (.d (.lit (.int .i64 i))), .one (.d (.lit (.int .i64 j)))] => match hp n with
  | some (.vec (.tp (.ti .i64) (.tp (.ti .i64) (.ti .i64))) e l) => match hp fr with
   | none => some ([k = l.length, 0 ≤ i, i < l.length, j = i + 1], .t (.one (.vr fr (l.eraseIdx i.toNat).length)), [(n, .dead 0), (fr, .vec (.tp (.ti .i64) (.tp (.ti .i64) (.ti .i64))) e (l.eraseIdx i.toNat))])
   | some _ => none
  | _ => none
 | _ => none
abbrev T3D : Ty := .tp (.ti .i64) (.tp (.ti .i64) (.ti .i64))
theorem zero32 : ∃ z, (∀ w, (zeroValue 67).run Try.prog w = .ok z w) ∧ z.cells = #[.int .i64 0, .int .i64 0, .int .i64 0] := by
 obtain ⟨z, h1, _, h2⟩ := lay67.zero
 refine ⟨z, h1, ?_⟩
 have h := h2 default fun _ _ => False
 have h : All2 (VD default fun _ _ => False) [.lit (.int .i64 0), .lit (.int .i64 0), .lit (.int .i64 0)] z.cells.toList := h
 generalize z.cells = a at h
 obtain ⟨l⟩ := a
 simp only at h
 cases h with
 | cons a1 h => cases h with
  | cons a2 h => cases h with
   | cons a3 h => cases h with
    | nil => cases a1; cases a2; cases a3; rfl
theorem del_w (blk e n cap i : Nat) (arr : Array Value) (w w' : World) (news : List Value) (hin : i < n) (hle : n ≤ cap) (hsz : arr.size = cap * 3) (h : w.heap[blk]? = some (.cells arr e (0, 0))) (hnews : news = (arr.toList.drop ((i + 1) * 3)).take ((n - (i + 1)) * 3))
  (hw : w' = (w.drew.setCells blk (i * 3) news).setCells blk ((n - 1) * 3) [.int .i64 0, .int .i64 0, .int .i64 0]) :
  w'.heap.size = w.heap.size ∧ (∀ k, k ≠ blk → w'.heap[k]? = w.heap[k]?) ∧ w'.os = w.os ∧ w'.tape = w.tape ∧ w'.output = w.output ∧
   ∃ arr' : Array Value, w'.heap[blk]? = some (.cells arr' e (0, 0)) ∧ arr'.size = arr.size ∧ ∀ p, p < (n - 1) * 3 → arr'[p]? = if p < i * 3 then arr[p]? else arr[p + 3]? := by
 have hlen : news.length = (n - (i + 1)) * 3 := by rw [hnews]; simp; omega
 obtain ⟨a1, g1, g2, g3⟩ := sets_heap blk e news (i * 3) w.drew arr h (by omega)
 obtain ⟨a2, k1, k2, k3⟩ := sets_heap blk e [.int .i64 0, .int .i64 0, .int .i64 0] ((n - 1) * 3) _ a1 g1 (by simp; omega)
 obtain ⟨o1, o2, o3, o4, o5⟩ := sets_other blk news (i * 3) w.drew
 obtain ⟨q1, q2, q3, q4, q5⟩ := sets_other blk [.int .i64 0, .int .i64 0, .int .i64 0] ((n - 1) * 3) (w.drew.setCells blk (i * 3) news)
 subst hw
 refine ⟨q1.trans o1, fun k hk => (q2 k hk).trans (o2 k hk), q3.trans o3, q4.trans o4, q5.trans o5, a2, k1, k2.trans g2, fun p hp => ?_⟩
 rw [k3, if_neg (by omega), g3]
 by_cases h1 : p < i * 3
 ·rw [if_pos h1, if_neg (by omega)]
 ·rw [if_neg h1, if_pos (by omega), hnews, List.getElem?_take, if_pos (by omega), List.getElem?_drop, show (i + 1) * 3 + (p - i * 3) = p + 3 by omega]
  simp
theorem ok_del2 : FnOk Try.prog 74 (CE.gen c_del2).con := ⟨enters Try.func74 (c := Try.f74.body.getD .skip) (by kernel_rfl) (by kernel_rfl), fun args hp fr cs r up h hcs w β vals hpr hH hargs => by
 simp only [CE.con] at h
 unfold c_del2 at h
 split at h
 ·rename_i n k i j
  split at h
  ·rename_i e l hn
   split at h
   ·rename_i hfr
    injection h with h; injection h with h1 h2; injection h2 with h2 h3; subst h1 h2 h3
    have c1 : k = l.length := hcs _ (by simp)
    have c2 : 0 ≤ i := hcs _ (by simp)
    have c3 : i < l.length := hcs _ (by simp)
    have c4 : j = i + 1 := hcs _ (by simp)
    obtain ⟨q, rfl⟩ : ∃ q : Nat, i = q := ⟨i.toNat, by omega⟩
    obtain rfl : j = ((q + 1 : Nat) : Int) := by omega
    clear hcs c4
    have c3 : q < l.length := by omega
    rw [Int.toNat_natCast]
    cases hargs with
    | cons hv hargs => cases hargs with
     | cons hvi hargs => cases hargs with
      | cons hvj hargs => cases hargs with
       | nil =>
        rename_i v vi vj
        obtain rfl := VT.int hvi
        obtain rfl := VT.int hvj
        have hv : VL w (Mt β hp) β (dm hp) (.vr n k) v := hv
        cases hv with
        | vr hs hk ho =>
         obtain ⟨_, u, hu, hle, heq⟩ := ho
         rcases hH.blk n _ hn with ⟨_, _, h0⟩ | ⟨blk, cap, arr, h0, h1, h2, h3, h4, h5, h6⟩
         ·rw [h0] at c3; exact absurd c3 (Nat.not_lt_zero _)
         ·rw [h0] at hu; injection hu with hu; subst hu
          obtain rfl := heq (by rw [hk, c1]; rfl)
          have h5 : arr.size = cap * 3 := h5
          obtain ⟨news, hnews⟩ : ∃ news, news = (arr.toList.drop ((q + 1) * 3)).take ((l.length - (q + 1)) * 3) := ⟨_, rfl⟩
          have hlen : news.length = (l.length - (q + 1)) * 3 := by rw [hnews]; simp; omega
          have hget : ∀ t u, news[t]? = some u → t < (l.length - (q + 1)) * 3 ∧ arr[(q + 1) * 3 + t]? = some u := fun t u ht => by
           rw [hnews, List.getElem?_take] at ht
           split at ht
           ·rename_i h; rw [List.getElem?_drop] at ht; exact ⟨h, by simpa using ht⟩
           ·cases ht
          have hcell : ∀ p, w.cell? ⟨blk, p, none⟩ = arr[p]? := fun p => by simp [World.cell?, h2]
          obtain ⟨A, hA, hsrc⟩ : ∃ A : Addr, (if cap = q + 1 then some (⟨blk, 0, none⟩ : Addr) else some ⟨blk, (q + 1) * 3, none⟩) = some A ∧ ∀ t u, news[t]? = some u → w.drew.cell? (A.add t) = some u := by
           by_cases h : cap = q + 1
           ·refine ⟨⟨blk, 0, none⟩, by rw [if_pos h], fun t u ht => ?_⟩
            have := (hget t u ht).1; omega
           ·refine ⟨⟨blk, (q + 1) * 3, none⟩, by rw [if_neg h], fun t u ht => ?_⟩
            rw [Addr.add_lit]
            exact (hcell _).trans (hget t u ht).2
          obtain ⟨i0, z0, i1, i2, _⟩ := (lay36.ety _ _ _ rfl).2.2.2.2
          obtain ⟨z, z1, z2⟩ := zero32
          have hone : ∀ u ∈ news, u.oneCell' = true := fun u hu => by
           obtain ⟨t, ht⟩ := List.mem_iff_getElem?.1 hu
           obtain ⟨g1, g2⟩ := hget t u ht
           exact (h6 (((q + 1) * 3 + t) / 3) (((q + 1) * 3 + t) % 3) u (by omega) (Nat.mod_lt _ (by decide)) (by
            show arr[((q + 1) * 3 + t) / 3 * 3 + ((q + 1) * 3 + t) % 3]? = some u
            rw [Nat.div_add_mod']; exact g2)).one
          refine (del_run Try.func74 blk l.length cap q (q + 1) w news (by omega) (by omega) rfl h3 (by have : cap ≤ maxLen := h4; unfold maxLen at this; omega) hlen A hA hsrc hone (fun p hp => ?_)
           (by kernel_rfl) (by kernel_rfl) (Go.Sy.run_sizeOf lay67.size) (Go.Sy.run_sizeOf lay36.size) (Go.Sy.run_sizeOf lay3.size) i0 i1 i2 z z1 z2 mixed).mono fun e1 w' ⟨he, hw⟩ => ⟨_, he, ?_⟩
          ·rw [hcell, Array.getElem?_eq_getElem (by omega)]
           exact ⟨rfl, frozen_of_row w blk p arr e h2⟩
          obtain ⟨r1, r2, r3, r4, r5, arr2, r6, r7, r8⟩ := del_w blk e l.length cap q arr w w' news c3 h3 h5 h2 hnews hw
          have hlen' : (l.eraseIdx q).length = l.length - 1 := List.length_eraseIdx_of_lt c3
          have hfn : fr ≠ n := fun e => by rw [e, hn] at hfr; cases hfr
          have hblt := hH.lt n blk (by rw [hn]; simp) (.inl h1)
          obtain ⟨l', hl'⟩ : ∃ l', l.eraseIdx q = l' := ⟨_, rfl⟩
          rw [hl'] at hlen' ⊢
          obtain ⟨hp', hhp⟩ : ∃ hp', upd hp [(n, .dead 0), (fr, .vec T3D e l')] = hp' := ⟨_, rfl⟩
          change FnPost hp (upd hp [(n, .dead 0), (fr, .vec T3D e l')]) β _ w w' _
          rw [hhp]
          have p_fr : hp' fr = some (.vec T3D e l') := by rw [← hhp]; simp [upd, look_cons]
          have p_n : hp' n = some (.dead 0) := by rw [← hhp]; simp [upd, look_cons, hfn]
          have p_o : ∀ m, m ≠ fr → m ≠ n → hp' m = hp m := fun m h1 h2 => by rw [← hhp]; simp [upd, look_cons, Ne.symm h1, Ne.symm h2, Go.Sy.look]
          obtain ⟨β', hβ'⟩ : ∃ β' : Bt, β' = ⟨fun m => if m = fr then some blk else if m = n then none else β m, fun m => if m = fr then some (.slice (some ⟨blk, 0, none⟩) (l.length - 1) cap) else β.o m, β.m,
           fun m => if m = fr then fun _ _ => False else β.ym m, β.yj, β.pr⟩ := ⟨_, rfl⟩
          have b_fr : β' fr = some blk := by rw [hβ']; simp
          have b_n : β' n = none := by rw [hβ']; simp [Ne.symm hfn]
          have b_o : ∀ m, m ≠ fr → m ≠ n → β' m = β m := fun m h1 h2 => by rw [hβ']; simp [h1, h2]
          have o_fr : β'.o fr = some (.slice (some ⟨blk, 0, none⟩) (l.length - 1) cap) := by rw [hβ']; simp
          have o_o : ∀ m, m ≠ fr → β'.o m = β.o m := fun m h1 => by rw [hβ']; simp [h1]
          have y_fr : ∀ k off, ¬ β'.ym fr k off := fun k off => by rw [hβ']; simp
          have y_o : ∀ m, m ≠ fr → β'.ym m = β.ym m := fun m h1 => by rw [hβ']; simp [h1]
          have y_n : ∀ k off, ¬ β'.ym n k off := fun k off => by rw [y_o n (Ne.symm hfn)]; exact hH.ye n _ hn rfl k off
          have m_o : β'.m = β.m := by rw [hβ']
          have j_o : β'.yj = β.yj := by rw [hβ']
          have pr_o : β'.pr = β.pr := by rw [hβ']
          clear hβ' hhp
          have hcase : ∀ m k, hp' m ≠ none → bk β' m k → (m = fr ∧ k = blk) ∨ (m ≠ fr ∧ m ≠ n ∧ hp m ≠ none ∧ bk β m k ∧ k ≠ blk) := fun m k hm hk => by
           by_cases hf : m = fr
           ·subst hf
            rcases hk with hk | ⟨off, hk⟩
            ·rw [b_fr] at hk; injection hk with hk; exact .inl ⟨rfl, hk.symm⟩
            ·exact absurd hk (y_fr _ _)
           ·by_cases hx : m = n
            ·subst hx
             rcases hk with hk | ⟨off, hk⟩
             ·rw [b_n] at hk; cases hk
             ·exact absurd hk (y_n _ _)
            ·rw [p_o m hf hx] at hm
             have hk : bk β m k := by unfold bk at hk ⊢; rw [b_o m hf hx, y_o m hf] at hk; exact hk
             exact .inr ⟨hf, hx, hm, hk, fun e => hx (hH.inj m n blk hm (by rw [hn]; simp) (e ▸ hk) (.inl h1))⟩
          have hMb : ∀ off, Mt β hp blk off := fun off => .inr ⟨n, _, hn, .inl ⟨h1, trivial⟩⟩
          have hev : Evo (Mt β hp) (Mt β' hp') w w' := by
           refine ⟨by omega, fun p hp' hm => cell_of_heap (r2 _ fun e => hm (e ▸ hMb _)), fun k off hk hm hm' => hm ?_, fun k hk hm => r2 k fun e => hm 0 (e ▸ hMb _), r3, r4, r5⟩
           rcases hm' with h | ⟨m, om, g1, g2⟩
           ·rw [m_o] at h; exact .inl h
           ·have hbk : bk β' m k := g2.elim (fun h => .inl h.1) fun h => .inr ⟨off, h⟩
            rcases hcase m k (by rw [g1]; simp) hbk with ⟨_, rfl⟩ | ⟨f1, f2, _, _, _⟩
            ·exact hMb off
            ·rw [p_o m f1 f2] at g1
             rw [b_o m f1 f2, y_o m f1] at g2
             exact .inr ⟨m, om, g1, g2⟩
          have hbe : BEvo β β' (dm hp) (dm hp') := by
           have hnf : ∀ m, dm hp m → m ≠ fr := fun m hm e => hm (e ▸ hfr)
           refine ⟨fun m hm => ?_, fun m hm ho => ?_, fun m u hm hu => ⟨u, (o_o m (hnf m hm)).trans hu, .inl rfl⟩, pr_o⟩
           ·unfold dm
            by_cases hx : m = n
            ·rw [hx, p_n]; simp
            ·rw [p_o m (hnf m hm) hx]; exact hm
           ·have hx : m ≠ n := fun e => by rw [e, h0] at ho; cases ho
            exact ⟨(o_o m (hnf m hm)).trans ho, b_o m (hnf m hm) hx, by rw [j_o]⟩
          have hlt' : ∀ m k, hp' m ≠ none → bk β' m k → k < w'.heap.size := fun m k hm hk => by
           rcases hcase m k hm hk with ⟨_, rfl⟩ | ⟨_, _, g1, g2, _⟩
           ·omega
           ·have := hH.lt m k g1 g2; omega
          have hfresh' : ∀ m k off, hp' m ≠ none → bk β' m k → ¬ β'.m k off := fun m k off hm hk => by
           rw [m_o]
           rcases hcase m k hm hk with ⟨_, rfl⟩ | ⟨_, _, g1, g2, _⟩
           ·exact hH.fresh n k off (by rw [hn]; simp) (.inl h1)
           ·exact hH.fresh m k off g1 g2
          have hinj' : ∀ m m' k, hp' m ≠ none → hp' m' ≠ none → bk β' m k → bk β' m' k → m = m' := fun m m' k hm hm' hk hk' => by
           rcases hcase m k hm hk with ⟨rfl, rfl⟩ | ⟨_, _, g1, g2, g3⟩ <;> rcases hcase m' _ hm' hk' with ⟨rfl, f0⟩ | ⟨_, _, f1, f2, f3⟩
           ·rfl
           ·exact absurd rfl f3
           ·exact absurd f0 g3
           ·exact hH.inj m m' k g1 f1 g2 f2
          have hm0' : ∀ k off, β'.m k off → k < w'.heap.size := fun k off h => by rw [m_o] at h; have := hH.m0 k off h; omega
          have hval : ∀ (i j : Nat) u, i < l'.length → j < T3D.size → arr2[i * T3D.size + j]? = some u → VD w' (Mt β' hp') (T3D.enc (l'.getD i T3D.d0) j) u := fun i j u hi hj hu => by
           have hj : j < 3 := hj
           have hu : arr2[i * 3 + j]? = some u := hu
           rw [r8 _ (by omega)] at hu
           have hg : l'.getD i T3D.d0 = if i < q then l.getD i T3D.d0 else l.getD (i + 1) T3D.d0 := by
            rw [← hl']
            simp only [List.getD_eq_getElem?_getD, List.getElem?_eraseIdx]
            split <;> rfl
           rw [hg]
           by_cases hq : i < q
           ·rw [if_pos (by omega)] at hu
            rw [if_pos hq]
            exact (h6 i j u (by omega) hj hu).evo hev
           ·rw [if_neg (by omega)] at hu
            rw [if_neg hq]
            refine (h6 (i + 1) j u (by omega) hj ?_).evo hev
            show arr[(i + 1) * 3 + j]? = some u
            rw [show (i + 1) * 3 + j = i * 3 + j + 3 by omega]
            exact hu
          have hHR : HR β' hp' w' := by
           refine ⟨hm0', hlt', hfresh', hinj', fun m o ho hob => ?_, fun m o ho => ?_, by rw [pr_o]; exact hH.gl.evo hev⟩
           ·by_cases hf : m = fr
            ·subst hf; exact y_fr
            ·by_cases hx : m = n
             ·subst hx; exact y_n
             ·rw [p_o m hf hx] at ho; rw [y_o m hf]; exact hH.ye m o ho hob
           ·by_cases hf : m = fr
            ·subst hf
             rw [p_fr] at ho; injection ho with ho; subst ho
             exact .inr ⟨blk, cap, arr2, by rw [hlen']; exact o_fr, b_fr, r6, by omega, h4, r7.trans h5, hval⟩
            ·by_cases hx : m = n
             ·subst hx
              rw [p_n] at ho; injection ho with ho; subst ho
              exact ⟨_, (o_o m hf).trans h0, by show l.length ≤ maxLen; omega⟩
             ·have ho' := ho
              rw [p_o m hf hx] at ho
              refine (hH.blk m o ho).evo hev hbe (b_o m hf hx) (o_o m hf) (y_o m hf) (by rw [j_o]) (fun k hk => r2 k fun e => hx (hH.inj m n blk (by rw [ho]; simp) (by rw [hn]; simp) (e ▸ hk) (.inl h1))) (fun hob => dis_of hm0' hlt' hfresh' hinj' ho' hob)
          refine ⟨⟨β', hbe, fun k off h => by rw [m_o]; exact h, hHR, ?_, fun m k hm hk => ?_, hev⟩, ?_⟩
          ·refine .vr ⟨_, _, _, rfl⟩ hlen'.symm ⟨by unfold dm; rw [p_fr]; simp, _, o_fr, Nat.le_refl _, fun _ => rfl⟩
          ·rcases hcase m k hm hk with ⟨_, rfl⟩ | ⟨_, _, g1, g2, _⟩
           ·exact .inl ⟨n, by rw [hn]; simp, .inl h1⟩
           ·exact .inl ⟨m, g1, g2⟩
          ·exact ⟨r3, r4, r5, by omega, fun k hk hB => r2 k fun e => hB ⟨n, by rw [hn]; simp, .inl (e ▸ h1)⟩⟩
   ·cases h
  ·cases h
 ·cases h⟩
end Go.Proofs.Ytcklbglladijlaa
