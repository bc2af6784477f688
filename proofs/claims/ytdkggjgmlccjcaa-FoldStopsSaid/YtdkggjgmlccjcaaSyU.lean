/- A verified generator of conditions for this program, and its soundness: part U of the proof. -/
import Derived.Test.YtdkggjgmlccjcaaSyY
namespace Go.Sy
variable {P : Program} {L : Nat → Option Lay} {Γ : Nat → Option Con}

/-! slices whose elements may be written -/
section
variable {X : Cx} {β : Bt} {σ : St} {a : Act} {w : World} {G : List (Nat × Bool)}

/-- the header and the cells of such a slice -/
theorem vec_open (H : HR β (look σ.h) w) {n : Nat} {τ : Ty} {e : Nat} {l : List τ.T} (hn : look σ.h n = some (.vec τ e l)) {v : Value} (ho : OV β (dm (look σ.h)) n v) (hk : hlen v = l.length) :
    β.o n = some v ∧ ((v = .slice none 0 0 ∧ β n = none ∧ l = []) ∨ ∃ b cap arr, v = .slice (some ⟨b, 0, none⟩) l.length cap ∧ β n = some b ∧ w.heap[b]? = some (.cells arr e (0, 0)) ∧ l.length ≤ cap ∧ cap ≤ maxLen ∧ arr.size = cap * τ.size ∧
      ∀ i j u, i < l.length → j < τ.size → arr[i * τ.size + j]? = some u → VD w (Mt β (look σ.h)) (τ.enc (l.getD i τ.d0) j) u) := by
  obtain ⟨_, u, hu, hle, heq⟩ := ho
  rcases H.blk n _ hn with ⟨h0, h1, h2⟩ | ⟨b, cap, arr, h0, h1⟩
  · rw [h0] at hu; injection hu with hu; subst hu
    have : v = .slice none 0 0 := heq (by rw [hk, h2]; rfl)
    subst this
    exact ⟨h0, .inl ⟨rfl, h1, h2⟩⟩
  · rw [h0] at hu; injection hu with hu; subst hu
    have : v = .slice (some ⟨b, 0, none⟩) l.length cap := heq (by rw [hk]; rfl)
    subst this
    exact ⟨h0, .inr ⟨b, cap, arr, rfl, h1⟩⟩
/-- a pointer into such a slice -/
theorem vp_open (H : HR β (look σ.h) w) {n : Nat} {τ : Ty} {e : Nat} {l : List τ.T} (hn : look σ.h n = some (.vec τ e l)) {k sz i off : Nat} {v : Value} (h : VPt β (dm (look σ.h)) n k sz i off v) (hk : k = l.length) (hi : i < l.length) :
    ∃ b cap arr, v = .pointer (some ⟨b, i * sz + off, none⟩) ∧ β.o n = some (.slice (some ⟨b, 0, none⟩) l.length cap) ∧ β n = some b ∧ w.heap[b]? = some (.cells arr e (0, 0)) ∧ l.length ≤ cap ∧ cap ≤ maxLen ∧ arr.size = cap * τ.size ∧
      ∀ i j u, i < l.length → j < τ.size → arr[i * τ.size + j]? = some u → VD w (Mt β (look σ.h)) (τ.enc (l.getD i τ.d0) j) u := by
  obtain ⟨_, _, u, hu, hle, heq⟩ := h
  rcases H.blk n _ hn with ⟨h0, h1, h2⟩ | ⟨b, cap, arr, h0, h1⟩
  · rw [h2] at hi; simp at hi
  · rw [h0] at hu; injection hu with hu; subst hu
    obtain ⟨b', cap', e1, e2⟩ := heq (by rw [hk]; rfl)
    injection e1 with e1 e3 e4
    injection e1 with e1
    injection e1 with e1
    subst e1
    exact ⟨b, cap, arr, e2, h0, h1⟩

/-- room for a slice that is nil -/
theorem Rel.room (R : Rel X β σ a w) {n : Nat} (hn : look σ.h n = none) (vec : Bool) (τ : Ty) (e : Nat) :
    ∃ β' : Bt, Rel X β' { σ with h := (n, roomE vec τ e) :: σ.h } a w ∧ VL w (Mt β' (look ((n, roomE vec τ e) :: σ.h))) β' (dm (look ((n, roomE vec τ e) :: σ.h))) (roomV vec n τ) (.slice none 0 0) ∧
      Evo (Mt β (look σ.h)) (Mt β' (look ((n, roomE vec τ e) :: σ.h))) w w ∧ BEvo β β' (dm (look σ.h)) (dm (look ((n, roomE vec τ e) :: σ.h))) := by
  have hno : ∀ o0, look σ.h n = some o0 → False := fun o0 h => by rw [hn] at h; cases h
  obtain ⟨β', h1, h2, h3, h4, h5⟩ := R.set n (roomE vec τ e) (fun o0 h => (hno o0 h).elim) none (some (.slice none 0 0)) (w' := w) rfl rfl rfl (Nat.le_refl _) (fun _ _ _ => rfl) (fun o0 _ h => (hno o0 h).elim) (fun k hk => by cases hk)
    (fun o0 h => (hno o0 h).elim) (fun β' g1 g2 hev hbe => by cases vec <;> exact .inl ⟨g2, g1, rfl⟩)
  refine ⟨β', h1, ?_, h4, h5⟩
  cases vec with
  | false => exact .own .nil ⟨by simp [dm, look_cons], _, h3, Nat.le_refl _, fun _ => rfl⟩
  | true => exact .vr ⟨_, _, _, rfl⟩ rfl ⟨by simp [dm, look_cons], _, h3, Nat.le_refl _, fun _ => rfl⟩

theorem good_vnil (R : Rel X β σ a w) {o : Oper} {x : Operand} (ho : o.op = .move x ∨ o.op = .assign x) (hx : isNilC x = true) {r : Res} (h : vNil L σ o.type o.dst = some r) : OpGood P X σ a w o r := by
  have hx' : x = .const (.slice none 0 0) := by
    unfold isNilC at hx
    split at hx
    · rfl
    · cases hx
  subst hx'
  have hrun : (execOp a.eval o).run P w = .ok (.value (.slice none 0 0)) w := by rcases ho with ho | ho <;> simp [execOp, ho, Act.eval]
  unfold vNil at h
  split at h
  · split at h
    · rename_i τ e b n hety hn
      obtain rfl := Option.some.inj h
      obtain ⟨β', R', hv, _⟩ := R.room (rmFree_spec hn).1 true τ e
      exact ⟨.value (.slice none 0 0), w, β', _, hrun, .inl rfl, R', hv, by simp⟩
    · cases h
  · cases h

theorem upds_append : ∀ (es fs h : List (Nat × HO)), upds (es ++ fs) h = upds fs (upds es h)
  | [], _, _ => rfl
  | x :: es, fs, h => upds_append es fs (x :: h)
theorem isNilL_roomV (vec : Bool) (n : Nat) (τ : Ty) : isNilL (roomV vec n τ) = false := by cases vec <;> rfl
theorem nilL_value {M : CM} {D : Nat → Prop} {x : LV} {v : Value} (h : isNilL x = true) (hv : VL w M β D x v) : v = .slice none 0 0 := by
  unfold isNilL at h
  split at h
  · cases hv with
    | d hv => cases hv with
      | nil => rfl
      | sl _ h0 => exact absurd h0 (Nat.lt_irrefl _)
  · cases h
theorem rooms_sound {d : Nat} {hp : Nat → Option HO} {vs : List Value} : ∀ {cv : List (Nat × (Ty × (Nat × Bool)))} {cs cs' : List LV} {es : List (Nat × HO)} {σ : St} {β : Bt}, Rel X β σ a w → All2 (VL w (Mt β (look σ.h)) β (dm (look σ.h))) cs vs →
    (∀ j x, cs[j]? = some x → isNilL x = true → hp (rm2 d j) = none → look σ.h (rm2 d j) = none) → rooms hp d cv cs = (cs', es) →
    ∃ β', Rel X β' { σ with h := upds es σ.h } a w ∧ All2 (VL w (Mt β' (look (upds es σ.h))) β' (dm (look (upds es σ.h)))) cs' vs ∧ ∀ k, k < 400000 → look (upds es σ.h) k = look σ.h k
  | [], cs, cs', es, σ, β, R, hall, _, h => by
    injection h with h1 h2; subst h1 h2
    exact ⟨β, R, hall, fun _ _ => rfl⟩
  | (j, (τ, (e, vec))) :: r, cs, cs', es, σ, β, R, hall, hfr, h => by
    unfold rooms at h
    split at h
    · rename_i x hx hn
      split at h
      · rename_i hnil
        generalize hrr : rooms hp d r (cs.set j (roomV vec (rm2 d j) τ)) = q at h
        obtain ⟨cs1, es1⟩ := q
        injection h with h1 h2; subst h1 h2
        obtain ⟨v, hv, hxv⟩ := hall.get hx
        have hv0 := nilL_value hnil hxv
        subst hv0
        obtain ⟨β1, R1, hrv, hev, hbe⟩ := R.room (hfr j x hx hnil hn) vec τ e
        have hall1 := (hall.mono fun _ _ _ h => VL.evo hev hbe h).set hv hrv
        obtain ⟨β2, R2, hall2, hk⟩ := rooms_sound (σ := { σ with h := (rm2 d j, roomE vec τ e) :: σ.h }) R1 hall1 (fun i y hy hny hpy => by
          have hij : j ≠ i := by
            intro e'
            subst e'
            have hlt := (List.getElem?_eq_some_iff.1 hx).1
            rw [List.getElem?_set_self hlt] at hy
            injection hy with hy
            rw [← hy, isNilL_roomV] at hny
            cases hny
          rw [List.getElem?_set_ne hij] at hy
          show look ((rm2 d j, roomE vec τ e) :: σ.h) (rm2 d i) = none
          rw [look_cons, if_neg (by unfold rm2; omega)]
          exact hfr i y hy hny hpy) hrr
        refine ⟨β2, R2, hall2, fun k hk' => ?_⟩
        have := hk k hk'
        show look (upds es1 ((rm2 d j, roomE vec τ e) :: σ.h)) k = look σ.h k
        rw [this]
        show look ((rm2 d j, roomE vec τ e) :: σ.h) k = look σ.h k
        rw [look_cons, if_neg (by unfold rm2; omega)]
      · exact rooms_sound R hall hfr h
    · exact rooms_sound R hall hfr h

theorem good_valloc (hL : LOk P L) (R : Rel X β σ a w) {o : Oper} {t : TypeId} (ho : o.op = .alloc t) {r : Res} (h : vAlloc L σ t o.dst = some r) : OpGood P X σ a w o r := by
  unfold vAlloc at h
  split at h
  · rename_i y d hy hd
    split at h
    · rename_i hn
      generalize hrr : rooms (look σ.h) d y.cv (wrapD y.zero) = q at h
      obtain ⟨cs, es⟩ := q
      simp only at h
      split at h
      · rename_i hd4
        obtain rfl := Option.some.inj h
        obtain ⟨z, hz, _, hzz⟩ := (hL t y hy).zero
        have hb : All2 (VL w (Mt β (look σ.h)) β (dm (look σ.h))) (wrapD y.zero) z.cells.toList := by
          have := hzz w (Mt β (look σ.h))
          clear hz hzz hy
          generalize z.cells.toList = zs at this
          generalize y.zero = ys at this
          clear hrr
          induction this with
          | nil => exact .nil
          | cons h1 _ ih => exact .cons (.d h1) ih
        obtain ⟨β1, R1, hall, hk⟩ := rooms_sound R hb (fun j x _ _ h => h) hrr
        have hn1 : look ({ σ with h := upds es σ.h } : St).h d = none := (hk d hd4).trans hn
        obtain ⟨β', R', hβ, ho'⟩ := R1.alloc hn1 t hall
        have eu : upds (es ++ [(d, .cells cs)]) σ.h = (d, .cells cs) :: upds es σ.h := by rw [upds_append]; rfl
        refine ⟨.value (.pointer (some ⟨w.heap.size, 0, none⟩)), w.alloc (.cells z.cells t (0, 0)), β', .pointer (some ⟨w.heap.size, 0, none⟩), ?_, .inl rfl, ?_, ?_, fun p hp => by cases hp⟩
        · simp [execOp, ho, Instr.alloc, hz, newVar, newRow]
        · rw [eu]; exact R'
        · rw [eu]; exact VL.ptr ⟨w.heap.size, by simp [dm, look_cons], ho', hβ, rfl⟩
      · cases h
    · cases h
  · cases h

/-- a row that is new, in a block of its own, with room behind it, whose elements may be written -/
theorem Rel.newVec (R : Rel X β σ a w) {n : Nat} {τ : Ty} {l : List τ.T} {cs : List Value} {cap : Nat} {arr : Array Value} {e : Nat} {w' : World}
    (hw : w'.os = w.os ∧ w'.tape = w.tape ∧ w'.output = w.output ∧ w'.heap = w.heap.push (.cells arr e (0, 0)))
    (hob : ∀ o0, look σ.h n = some o0 → o0.isOb = false) (hn : ∀ o0, look σ.h n = some o0 → ∃ u, β.o n = some u ∧ hlen u < l.length)
    (hcap : l.length ≤ cap) (hmax : cap ≤ maxLen) (_ : cs.length = l.length * τ.size) (harr : arr.size = cap * τ.size) (hcs : arr.toList.take (l.length * τ.size) = cs)
    (hv : ∀ i j u, i < l.length → j < τ.size → cs[i * τ.size + j]? = some u → VD w (Mt β (look σ.h)) (τ.enc (l.getD i τ.d0) j) u) :
    ∃ β' : Bt, Rel X β' { σ with h := (n, .vec τ e l) :: σ.h } a w' ∧
      VL w' (Mt β' (look ((n, HO.vec τ e l) :: σ.h))) β' (dm (look ((n, HO.vec τ e l) :: σ.h))) (.vr n l.length) (.slice (some ⟨w.heap.size, 0, none⟩) l.length cap) := by
  obtain ⟨w1, w2, w3, w4⟩ := hw
  have hnew : w'.heap[w.heap.size]? = some (.cells arr e (0, 0)) := by rw [w4]; simp
  have hsz : w'.heap.size = w.heap.size + 1 := by rw [w4]; simp
  have hold : ∀ k, k < w.heap.size → w'.heap[k]? = w.heap[k]? := fun k hk => by rw [w4, Array.getElem?_push, if_neg (by omega)]
  have hb : ∀ i j, i < l.length → j < τ.size → i * τ.size + j < l.length * τ.size := fun i j hi hj => by
    have : (i + 1) * τ.size ≤ l.length * τ.size := Nat.mul_le_mul_right _ hi
    rw [Nat.add_mul, Nat.one_mul] at this
    omega
  obtain ⟨β', h1, h2, h3, h4, h5⟩ := R.set n (.vec τ e l) hob (some w.heap.size) (some (.slice (some ⟨w.heap.size, 0, none⟩) l.length cap)) (w' := w') w1 w2 w3 (by omega)
    (fun k hk _ => hold k hk) (fun o0 p ho hb _ => cell_of_heap (hold _ (R.hr.lt n _ (by rw [ho]; simp) (.inl hb)))) (fun k hk => by injection hk with hk; subst hk; exact ⟨by omega, .inr (Nat.le_refl _)⟩)
    (fun o0 ho => by
      obtain ⟨u, hu, hlt⟩ := hn o0 ho
      exact ⟨(fun h => by rw [hu] at h; cases h), fun u' hu' => ⟨_, rfl, .inr (by rw [hu] at hu'; injection hu' with hu'; subst hu'; exact hlt)⟩⟩)
    (fun β' g1 g2 hev hbe => .inr ⟨_, cap, arr, g2, g1, hnew, hcap, hmax, harr, fun i j u hi hj hu => (hv i j u hi hj (by
      rw [← hcs, List.getElem?_take, if_pos (hb i j hi hj)]; simpa using hu)).evo hev⟩)
  exact ⟨β', h1, .vr ⟨_, _, _, rfl⟩ rfl ⟨by simp [dm, look_cons], _, h3, Nat.le_refl _, fun _ => rfl⟩⟩

/-- from now on no element is written -/
theorem Rel.freeze (R : Rel X β σ a w) {n : Nat} {τ : Ty} {e : Nat} {l : List τ.T} (hn : look σ.h n = some (.vec τ e l)) (hτ : 0 < τ.size) :
    ∃ β' : Bt, Rel X β' { σ with h := (n, .gr e τ.size l.length) :: σ.h } a w ∧ Evo (Mt β (look σ.h)) (Mt β' (look ((n, HO.gr e τ.size l.length) :: σ.h))) w w ∧ BEvo β β' (dm (look σ.h)) (dm (look ((n, HO.gr e τ.size l.length) :: σ.h))) ∧
      ∀ k v, k = l.length → VL w (Mt β (look σ.h)) β (dm (look σ.h)) (.vr n k) v → VL w (Mt β' (look ((n, HO.gr e τ.size l.length) :: σ.h))) β' (dm (look ((n, HO.gr e τ.size l.length) :: σ.h))) (.d (.sl τ l)) v := by
  obtain ⟨β', h1, h2, h3, h4, h5⟩ := R.set n (.gr e τ.size l.length) (fun o0 h => by rw [hn] at h; injection h with h; subst h; rfl) (β n) (β.o n) (w' := w) rfl rfl rfl (Nat.le_refl _) (fun _ _ _ => rfl) (fun _ _ _ _ _ => rfl)
    (fun k hk => ⟨R.hr.lt n k (by rw [hn]; simp) (.inl hk), .inl ⟨_, hn, hk, fun _ _ => trivial⟩⟩) (fun o0 _ => ⟨fun h => ⟨h, rfl⟩, fun u hu => ⟨u, hu, .inl rfl⟩⟩)
    (fun β' g1 g2 hev hbe => by
      rcases R.hr.blk n _ hn with ⟨h0, h1, h2⟩ | ⟨k, cap, arr, h0, h1, h2, h3, h4, h5, _⟩
      · exact .inl ⟨g2.trans h0, g1.trans h1, by rw [h2]; rfl⟩
      · exact .inr ⟨k, cap, arr, g2.trans h0, g1.trans h1, h2, h3, h4, h5⟩)
  refine ⟨β', h1, h4, h5, fun k v hk hv => .d ?_⟩
  cases hv with
  | vr hs hkk ho =>
    obtain ⟨hov, hcase⟩ := vec_open R.hr hn ho (hkk.trans hk)
    rcases hcase with ⟨rfl, _, rfl⟩ | ⟨b, cap, arr, rfl, hb, hh, hcap, hmax, hsz, hval⟩
    · exact .nil
    · have hlt := R.hr.lt n b (by rw [hn]; simp) (.inl hb)
      have hle : l.length * τ.size ≤ arr.size := by rw [hsz]; exact Nat.mul_le_mul_right _ hcap
      have hbd : ∀ i j, i < l.length → j < τ.size → i * τ.size + j < l.length * τ.size := fun i j hi hj => by
        have : (i + 1) * τ.size ≤ l.length * τ.size := Nat.mul_le_mul_right _ hi
        rw [Nat.add_mul, Nat.one_mul] at this
        omega
      refine VD.of_row (cs := arr.toList.take (l.length * τ.size)) hτ hlt hcap hmax (by simp; omega) (fun j hj hM => ?_) (fun j u hu => ?_) (fun i j u hi hj hu => (hval i j u hi hj ?_).evo h4)
      · have g3 := h1.hr.only (n := n) (o := .gr e τ.size l.length) (by show look _ n = _; rw [look_cons, if_pos rfl]) rfl (h2.trans hb) hM
        simp only [HO.mut] at g3
        omega
      · rw [List.getElem?_take] at hu
        split at hu
        · simp only [World.cell?, hh]
          simpa using hu
        · cases hu
      · rw [List.getElem?_take, if_pos (hbd i j hi hj)] at hu
        simpa using hu

theorem frzL_sound (R : Rel X β σ a w) {x y : LV} {ps : List Prop} {es : List (Nat × HO)} (h : frzL σ.h x = (ps, (y, es))) (hp : ∀ p ∈ ps, p) :
    ∃ β', Rel X β' { σ with h := upds es σ.h } a w ∧ Evo (Mt β (look σ.h)) (Mt β' (look (upds es σ.h))) w w ∧ BEvo β β' (dm (look σ.h)) (dm (look (upds es σ.h))) ∧
      ∀ v, VL w (Mt β (look σ.h)) β (dm (look σ.h)) x v → VL w (Mt β' (look (upds es σ.h))) β' (dm (look (upds es σ.h))) y v := by
  have stay : ∀ z, ([], (z, [])) = (ps, (y, es)) → z = x → ∃ β', Rel X β' { σ with h := upds es σ.h } a w ∧ Evo (Mt β (look σ.h)) (Mt β' (look (upds es σ.h))) w w ∧ BEvo β β' (dm (look σ.h)) (dm (look (upds es σ.h))) ∧
      ∀ v, VL w (Mt β (look σ.h)) β (dm (look σ.h)) x v → VL w (Mt β' (look (upds es σ.h))) β' (dm (look (upds es σ.h))) y v := by
    intro z hz e
    injection hz with h1 h2
    injection h2 with h2 h3
    subst e h2 h3
    exact ⟨β, R, Evo.refl, BEvo.refl, fun _ h => h⟩
  unfold frzL at h
  split at h
  · rename_i n k
    split at h
    · rename_i τ e l hn
      split at h
      · rename_i hτ
        injection h with h1 h2
        injection h2 with h2 h3
        subst h1 h2 h3
        obtain ⟨β', R', h1, h2, h3⟩ := R.freeze hn (Nat.le_of_ble_eq_true hτ)
        exact ⟨β', R', h1, h2, fun v hv => h3 k v (hp _ (List.mem_singleton.2 rfl)) hv⟩
      · exact stay _ h rfl
    · exact stay _ h rfl
  · exact stay _ h rfl
theorem frzLs_sound : ∀ {xs ys : List LV} {ps : List Prop} {es : List (Nat × HO)} {σ : St} {β : Bt}, Rel X β σ a w → frzLs σ.h xs = (ps, (ys, es)) → (∀ p ∈ ps, p) →
    ∃ β', Rel X β' { σ with h := upds es σ.h } a w ∧ Evo (Mt β (look σ.h)) (Mt β' (look (upds es σ.h))) w w ∧ BEvo β β' (dm (look σ.h)) (dm (look (upds es σ.h))) ∧
      ∀ vs, All2 (VL w (Mt β (look σ.h)) β (dm (look σ.h))) xs vs → All2 (VL w (Mt β' (look (upds es σ.h))) β' (dm (look (upds es σ.h)))) ys vs
  | [], ys, ps, es, σ, β, R, h, _ => by
    injection h with h1 h2
    injection h2 with h2 h3
    subst h2 h3
    exact ⟨β, R, Evo.refl, BEvo.refl, fun _ h => h⟩
  | x :: r, ys, ps, es, σ, β, R, h, hp => by
    unfold frzLs at h
    generalize h1 : frzL σ.h x = q1 at h
    obtain ⟨p1, y1, e1⟩ := q1
    simp only at h
    generalize h2 : frzLs (upds e1 σ.h) r = q2 at h
    obtain ⟨p2, y2, e2⟩ := q2
    simp only at h
    injection h with g1 g2
    injection g2 with g2 g3
    subst g1 g2 g3
    obtain ⟨β1, R1, a1, b1, c1⟩ := frzL_sound R h1 fun p hp' => hp p (List.mem_append_left _ hp')
    obtain ⟨β2, R2, a2, b2, c2⟩ := frzLs_sound (σ := { σ with h := upds e1 σ.h }) R1 h2 fun p hp' => hp p (List.mem_append_right _ hp')
    rw [upds_append]
    refine ⟨β2, R2, a1.trans a2, b1.trans b2, fun vs hvs => ?_⟩
    cases hvs with
    | cons hv hr => exact .cons (VL.evo a2 b2 (c1 _ hv)) (c2 _ (hr.mono fun _ _ _ h => VL.evo a1 b1 h))
theorem frzT_sound (R : Rel X β σ a w) {x y : TV} {ps : List Prop} {es : List (Nat × HO)} (h : frzT σ.h x = (ps, (y, es))) (hp : ∀ p ∈ ps, p) :
    ∃ β', Rel X β' { σ with h := upds es σ.h } a w ∧ Evo (Mt β (look σ.h)) (Mt β' (look (upds es σ.h))) w w ∧ BEvo β β' (dm (look σ.h)) (dm (look (upds es σ.h))) ∧
      ∀ v, VT w (Mt β (look σ.h)) β (dm (look σ.h)) x v → VT w (Mt β' (look (upds es σ.h))) β' (dm (look (upds es σ.h))) y v := by
  cases x with
  | one x =>
    simp only [frzT] at h
    rcases h1 : frzL σ.h x with ⟨p1, y1, e1⟩
    rw [h1] at h
    simp only at h
    injection h with g1 g2
    injection g2 with g2 g3
    subst g1 g2 g3
    exact frzL_sound R h1 hp
  | agg xs =>
    simp only [frzT] at h
    rcases h1 : frzLs σ.h xs with ⟨p1, y1, e1⟩
    rw [h1] at h
    simp only at h
    injection h with g1 g2
    injection g2 with g2 g3
    subst g1 g2 g3
    obtain ⟨β1, R1, a1, b1, c1⟩ := frzLs_sound R h1 hp
    exact ⟨β1, R1, a1, b1, fun v ⟨arr, e, hv⟩ => ⟨arr, e, c1 _ hv⟩⟩
theorem frzTs_sound : ∀ {xs ys : List TV} {ps : List Prop} {es : List (Nat × HO)} {σ : St} {β : Bt}, Rel X β σ a w → frzTs σ.h xs = (ps, (ys, es)) → (∀ p ∈ ps, p) →
    ∃ β', Rel X β' { σ with h := upds es σ.h } a w ∧ Evo (Mt β (look σ.h)) (Mt β' (look (upds es σ.h))) w w ∧ BEvo β β' (dm (look σ.h)) (dm (look (upds es σ.h))) ∧
      ∀ vs, All2 (VT w (Mt β (look σ.h)) β (dm (look σ.h))) xs vs → All2 (VT w (Mt β' (look (upds es σ.h))) β' (dm (look (upds es σ.h)))) ys vs
  | [], ys, ps, es, σ, β, R, h, _ => by
    injection h with h1 h2
    injection h2 with h2 h3
    subst h2 h3
    exact ⟨β, R, Evo.refl, BEvo.refl, fun _ h => h⟩
  | x :: r, ys, ps, es, σ, β, R, h, hp => by
    unfold frzTs at h
    generalize h1 : frzT σ.h x = q1 at h
    obtain ⟨p1, y1, e1⟩ := q1
    simp only at h
    generalize h2 : frzTs (upds e1 σ.h) r = q2 at h
    obtain ⟨p2, y2, e2⟩ := q2
    simp only at h
    injection h with g1 g2
    injection g2 with g2 g3
    subst g1 g2 g3
    obtain ⟨β1, R1, a1, b1, c1⟩ := frzT_sound R h1 fun p hp' => hp p (List.mem_append_left _ hp')
    obtain ⟨β2, R2, a2, b2, c2⟩ := frzTs_sound (σ := { σ with h := upds e1 σ.h }) R1 h2 fun p hp' => hp p (List.mem_append_right _ hp')
    rw [upds_append]
    refine ⟨β2, R2, a1.trans a2, b1.trans b2, fun vs hvs => ?_⟩
    cases hvs with
    | cons hv hr => exact .cons (VT.evo a2 b2 (c1 _ hv)) (c2 _ (hr.mono fun _ _ _ h => VT.evo a1 b1 h))
theorem frzA_sound (R : Rel X β σ a w) {x y : AV} {ps : List Prop} {es : List (Nat × HO)} (h : frzA σ.h x = (ps, (y, es))) (hp : ∀ p ∈ ps, p) :
    ∃ β', Rel X β' { σ with h := upds es σ.h } a w ∧ Evo (Mt β (look σ.h)) (Mt β' (look (upds es σ.h))) w w ∧ BEvo β β' (dm (look σ.h)) (dm (look (upds es σ.h))) ∧
      ∀ v, VA w (Mt β (look σ.h)) β (dm (look σ.h)) x v → VA w (Mt β' (look (upds es σ.h))) β' (dm (look (upds es σ.h))) y v := by
  cases x with
  | t x =>
    simp only [frzA] at h
    rcases h1 : frzT σ.h x with ⟨p1, y1, e1⟩
    rw [h1] at h
    simp only at h
    injection h with g1 g2
    injection g2 with g2 g3
    subst g1 g2 g3
    exact frzT_sound R h1 hp
  | tup xs =>
    simp only [frzA] at h
    rcases h1 : frzTs σ.h xs with ⟨p1, y1, e1⟩
    rw [h1] at h
    simp only at h
    injection h with g1 g2
    injection g2 with g2 g3
    subst g1 g2 g3
    obtain ⟨β1, R1, a1, b1, c1⟩ := frzTs_sound R h1 hp
    exact ⟨β1, R1, a1, b1, fun v ⟨arr, e, hv⟩ => ⟨arr, e, c1 _ hv⟩⟩
theorem good_vrows (hL : LOk P L) (R : Rel X β σ a w) (hG : GOk a G) {o : Oper} {t : TypeId} {len : Nat} {parts : Array (Nat × Operand)} (ho : o.op = .buildSlice t len parts) {r : Res} (h : vRows L G σ t len parts.toList o.dst = some r) : OpGood P X σ a w o r := by
  unfold vRows at h
  split at h
  · rename_i y ps hy hps
    split at h
    · rename_i τ e b hety
      split at h
      · rename_i l hl
        split at h
        · rename_i hcond
          simp only [Bool.and_eq_true, beq_iff_eq] at hcond
          obtain ⟨hcons, hlen, _, hmax⟩ := hcond
          have hmax := Nat.le_of_ble_eq_true hmax
          split at h
          · rename_i n hn
            · replace hn := (rmFree_spec hn).1
              obtain rfl := Option.some.inj h
              obtain ⟨hu, hτ, _, _, i, z, hi, hsz, _, hz, hzs⟩ := (hL t y hy).ety τ e b hety
              have he : sizeIs P e τ.size := by unfold sizeIs; simp [hi, hsz]
              have hz' : ∀ w, (zeroValue e).run P w = .ok z w := fun w => by simp [zeroValue, typeInfo, hi, hz]
              have hall := mapP_sound R hG hps
              generalize hqs : (parts.toList.map fun (i, x) => (i, a.eval x)) = qs at hall
              obtain ⟨hll, hrows⟩ := rowsOf_sound hl hall
              have hql : qs.length = len := by rw [← hall.length, hlen]
              have hspec : ∀ (k : Nat) (q : Nat × Value), qs[k]? = some q → q.1 = k ∧ q.2.cells.size = τ.size := by
                intro k q hq
                obtain ⟨p, hp, hpq, hv⟩ := hall.get' hq
                have h1 := consec_spec hcons k p hp
                exact ⟨by omega, (hrows k q hq).1⟩
              obtain ⟨arr', g1, g2⟩ := fill_rows τ.size qs 0 ((Array.range (len * τ.size)).map ((if len * τ.size = 0 then #[] else z.cells)[· % (if len * τ.size = 0 then #[] else z.cells).size]!)) (fun (k : Nat) (q : Nat × Value) hq => ⟨by have := (hspec k q hq).1; omega, (hspec k q hq).2⟩) (by simp [hql])
              simp only [Nat.zero_mul, List.take_zero, List.nil_append] at g2
              have hrowlen : ∀ r ∈ qs.map (·.2.cells.toList), r.length = τ.size := by
                intro r hr
                obtain ⟨q, hq, rfl⟩ := List.mem_map.1 hr
                obtain ⟨k, hk, hkq⟩ := List.mem_iff_getElem.1 hq
                simpa using (hspec k q (by rw [List.getElem?_eq_getElem hk, hkq])).2
              have hal : arr'.toList.length = l.length * τ.size := by rw [g2, flat_len τ.size _ hrowlen]; simp [hll]
              have hparts : parts.toList.map (fun x => (x.1, a.eval x.2)) = qs := hqs
              obtain ⟨β', R', hv⟩ := R.newVec (n := n) (e := e) (l := l) (cs := arr'.toList) (cap := l.length) (arr := arr') (w' := w.alloc (.cells arr' e)) ⟨rfl, rfl, rfl, rfl⟩ (fun o0 h => by rw [hn] at h; cases h) (fun o0 h => by rw [hn] at h; cases h) (Nat.le_refl _)
                (by
                  have : l.length * 1 ≤ len * τ.size := by rw [hll, hql]; exact Nat.mul_le_mul_left _ (by omega)
                  unfold maxLen
                  omega) hal (by simpa using hal) (List.take_of_length_le (by omega)) (fun i j u hi hj hu => by
                  rw [g2, flat_get τ.size _ hrowlen i j (by simpa using (by omega : i < qs.length)) hj] at hu
                  have hi' : i < qs.length := by omega
                  have h2 : (qs.map (·.2.cells.toList)).getD i [] = (qs[i]).2.cells.toList := by simp [List.getD, List.getElem?_eq_getElem hi']
                  rw [h2] at hu
                  exact (hrows i (qs[i]) (List.getElem?_eq_getElem hi')).2 j u (by simpa using hu))
              refine ⟨.value (.slice (some ⟨w.heap.size, 0, none⟩) len len), w.alloc (.cells arr' e), β', _, ?_, .inl rfl, R', ?_, by simp⟩
              · simp only [execOp, ho, Sem.run_bind, Instr.buildSlice, run_underlying hu, Result.andThen_ok, run_sizeOf he]
                rw [if_neg (by omega)]
                by_cases h0 : len * τ.size = 0
                · rw [if_pos h0] at g1
                  have hq0 : qs = [] := List.eq_nil_of_length_eq_zero (by
                    rcases Nat.mul_eq_zero.1 h0 with h | h
                    · omega
                    · omega)
                  rw [hq0, h0] at g1
                  simp [Instr.fill] at g1
                  subst g1
                  simp [hparts, h0, hq0, Instr.fill, newRow]
                · rw [if_neg h0] at g1
                  rw [if_neg h0]
                  simp [Sem.run_bind, hz', hparts, g1, newRow]
              · have e1 : len = l.length := by omega
                rw [e1]
                exact hv
          · cases h
        · cases h
      · cases h
    · cases h
  · cases h

theorem good_vindex (hL : LOk P L) (R : Rel X β σ a w) (hG : GOk a G) {o : Oper} {t : TypeId} {p q : Operand} (ho : o.op = .indexAddr t p q) {r : Res} (h : vIndex L G σ t p q = some r) (hc : ∀ c ∈ r.c, c) : OpGood P X σ a w o r := by
  unfold vIndex at h
  split at h
  · rename_i y n k kk j hy hp hq
    split at h
    · rename_i τ e l sz hn hel
      split at h
      · rename_i hsz
        subst hsz
        obtain rfl := Option.some.inj h
        obtain ⟨e', hu, he, hne⟩ := (hL t y hy).el τ.size hel
        have h0 : 0 ≤ j := hc _ (by simp)
        have h1 : j < (l.length : Int) := hc (j < l.length) (by simp)
        have h2 : k = l.length := hc (k = l.length) (by simp)
        have hqv := VT.int (opT_sound R hG hq)
        have hpv := opT_sound R hG hp
        generalize hev : a.eval p = pv at hpv
        cases hpv with
        | vr hs hk hov =>
          obtain ⟨ho1, hcase⟩ := vec_open R.hr hn hov (hk.trans h2)
          rcases hcase with ⟨rfl, _, hl⟩ | ⟨b, cap, arr, rfl, hb, hh, hcap, hmax, hsz, hval⟩
          · subst hl; simp at h1; omega
          · refine OpGood.pure R (v := .pointer (some ⟨b, j.toNat * τ.size, none⟩)) ?_ rfl (VL.vp ⟨hov.1, ⟨_, rfl⟩, _, ho1, by simp [hlen], fun _ => ⟨b, cap, rfl, rfl⟩⟩) (by simp)
            simp only [execOp, ho, Sem.run_bind, hev, hqv, Instr.indexAt, asIntOf, Sem.run_pure, Result.andThen_ok, run_underlying hu]
            rw [if_pos ⟨h0, h1⟩]
            simp [run_sizeOf he, Addr.add_lit]
      · cases h
    · cases h
  · cases h

theorem good_vfield (hL : LOk P L) (R : Rel X β σ a w) (hG : GOk a G) {o : Oper} {t : TypeId} {p : Operand} {i : Nat} (ho : o.op = .fieldAddr t p i) {r : Res} (h : vField L G σ t p i = some r) (hc : ∀ c ∈ r.c, c) : OpGood P X σ a w o r := by
  unfold vField at h
  split at h
  · rename_i y n k sz j off wd hy hp
    split at h
    · rename_i fo fsz τ e l hf hn
      split at h
      · rename_i hle
        obtain rfl := Option.some.inj h
        have h2 : k = l.length := hc _ (by simp)
        have h3 : j < l.length := hc (j < l.length) (by simp)
        have hpv := opT_sound R hG hp
        generalize hev : a.eval p = pv at hpv
        cases hpv with
        | vp hvp =>
          obtain ⟨b, cap, arr, rfl, ho1, hb, hh, hcap, hmax, hsz, hval⟩ := vp_open R.hr hn hvp h2 h3
          refine OpGood.pure R (v := .pointer (some ⟨b, j * sz + (off + fo), none⟩)) ?_ rfl (VL.vp ⟨hvp.1, ⟨_, rfl⟩, _, ho1, by simp [hlen, h2], fun _ => ⟨b, cap, by rw [h2], rfl⟩⟩) (by simp)
          simp only [execOp, ho, Sem.run_bind, hev, run_fieldAt (hL t y hy) hf, Result.andThen_ok, Sem.run_pure, Addr.add_lit, Nat.add_assoc]
      · cases h
    · cases h
  · cases h

theorem good_vload (hL : LOk P L) (R : Rel X β σ a w) (hG : GOk a G) {o : Oper} {t : TypeId} {p : Operand} (ho : o.op = .load t p) {r : Res} (h : vLoad L G σ t p = some r) (hc : ∀ c ∈ r.c, c) : OpGood P X σ a w o r := by
  unfold vLoad at h
  split at h
  · rename_i y n k sz j off wd hy hp
    split at h
    · rename_i τ e l hn
      split at h
      · rename_i hsz
        obtain ⟨hsz, hle⟩ := hsz
        subst hsz
        split at h
        · rename_i x hx
          obtain rfl := Option.some.inj h
          have h2 : k = l.length := hc _ (by simp)
          have h3 : j < l.length := hc (j < l.length) (by simp)
          have hpv := opT_sound R hG hp
          generalize hev : a.eval p = pv at hpv
          cases hpv with
          | vp hvp =>
            obtain ⟨b, cap, arr, rfl, ho1, hb, hh, hcap, hmax, hsz, hval⟩ := vp_open R.hr hn hvp h2 h3
            have hbd : j * τ.size + τ.size ≤ arr.size := by
              rw [hsz]
              have : (j + 1) * τ.size ≤ cap * τ.size := Nat.mul_le_mul_right _ (by omega)
              rw [Nat.add_mul, Nat.one_mul] at this
              omega
            have hlen : ((arr.toList.drop (j * τ.size + off)).take y.size).length = y.size := by simp; omega
            have hrun := run_loadVar (w := w) (P := P) (hL t y hy) (p := ⟨b, j * τ.size + off, none⟩) (vs := (arr.toList.drop (j * τ.size + off)).take y.size) hlen (fun i v hi => by
              have hil : i < y.size := by
                have := (List.getElem?_eq_some_iff.1 hi).1
                rw [List.length_take] at this; omega
              rw [List.getElem?_take, if_pos hil, List.getElem?_drop] at hi
              rw [Addr.add_lit]
              simpa [World.cell?, hh] using hi)
            refine OpGood.pure R (v := _) ?_ rfl (asTV_sound (All2.of_get (by rw [dcells_len, hlen]) fun i u v hu hv => ?_) hx) (by simp)
            · simp only [execOp, ho, Instr.loadAt, Instr.sureAddr, hev, Sem.run_bind, Sem.run_pure, Result.andThen_ok, hrun]
            · have hil : i < y.size := by
                have := (List.getElem?_eq_some_iff.1 hu).1
                rwa [dcells_len] at this
              rw [dcells_get _ _ _ _ hil] at hu
              injection hu with hu
              subst hu
              rw [List.getElem?_take, if_pos hil, List.getElem?_drop] at hv
              rw [Nat.zero_add]
              exact .d (hval j (off + i) v h3 (by omega) (by rw [← Nat.add_assoc]; simpa using hv))
        · cases h
      · cases h
    · cases h
  · cases h

theorem splice_get {α : Type _} {A vs : List α} {b sz off q : Nat} (h : b + sz ≤ A.length) (ho : off + vs.length ≤ sz) (hq : q < sz) :
    (A.take (b + off) ++ (vs ++ A.drop (b + off + vs.length)))[b + q]? = (((A.drop b).take sz).take off ++ (vs ++ ((A.drop b).take sz).drop (off + vs.length)))[q]? := by
  have hb : (A.take b).length = b := by rw [List.length_take]; omega
  have hd : sz ≤ (A.drop b).length := by rw [List.length_drop]; omega
  rw [List.take_add, List.append_assoc, List.getElem?_append_right (by omega), hb, Nat.add_sub_cancel_left, Nat.add_assoc, ← List.drop_drop]
  generalize A.drop b = D at *
  have e1 : (D.take sz).take off = D.take off := by rw [List.take_take, Nat.min_eq_left (by omega)]
  have e2 : (D.take sz).drop (off + vs.length) = (D.drop (off + vs.length)).take (sz - (off + vs.length)) := by rw [List.drop_take]
  have hl : (D.take off).length = off := by rw [List.length_take]; omega
  have e3 : (D.take off ++ (vs ++ D.drop (off + vs.length))).take sz = D.take off ++ (vs ++ (D.drop (off + vs.length)).take (sz - (off + vs.length))) := by
    rw [List.take_append, List.take_append, hl, List.take_of_length_le (by omega), List.take_of_length_le (l := vs) (by omega)]
    congr 3
    omega
  rw [e1, e2, ← e3, List.getElem?_take, if_pos hq]

theorem good_vstore (hL : LOk P L) (R : Rel X β σ a w) (hG : GOk a G) {o : Oper} {t : TypeId} {p x : Operand} (ho : o.op = .store t p x) {r : Res} (h : vStore L G σ t p x = some r) (hc : ∀ c ∈ r.c, c) : OpGood P X σ a w o r := by
  unfold vStore at h
  split at h
  · rename_i y n k sz j off wd v hy hp hx
    split at h
    · rename_i hsz0
      split at h
      · rename_i τ e l hn
        split at h
        · rename_i cs hcs
          split at h
          · rename_i u hu
            split at h
            · rename_i hsz
              subst hsz
              obtain rfl := Option.some.inj h
              have h2 : k = l.length := hc _ (by simp)
              have h3 : j < l.length := hc (j < l.length) (by simp)
              have hpv := opT_sound R hG hp
              have hcells := VT.cells (nilT_sound (L := L) (t := t) (opT_sound R hG hx))
              generalize hev : a.eval p = pv at hpv
              cases hpv with
              | vp hvp =>
                obtain ⟨b, cap, arr, rfl, ho1, hb, hh, hcap, hmax, hsz, hval⟩ := vp_open R.hr hn hvp h2 h3
                have hbd : j * τ.size + τ.size ≤ arr.size := by
                  rw [hsz]
                  have : (j + 1) * τ.size ≤ cap * τ.size := Nat.mul_le_mul_right _ (by omega)
                  rw [Nat.add_mul, Nat.one_mul] at this
                  omega
                -- the element's cells, before and after
                have hold : All2 (VL w (Mt β (look σ.h)) β (dm (look σ.h))) (dcells (τ.enc (l.getD j τ.d0)) 0 τ.size) ((arr.toList.drop (j * τ.size)).take τ.size) := by
                  refine All2.of_get (by rw [dcells_len]; simp; omega) fun i q z hq hz => ?_
                  have hil : i < τ.size := by
                    have := (List.getElem?_eq_some_iff.1 hq).1
                    rwa [dcells_len] at this
                  rw [dcells_get _ _ _ _ hil] at hq
                  injection hq with hq
                  subst hq
                  rw [List.getElem?_take, if_pos hil, List.getElem?_drop] at hz
                  rw [Nat.zero_add]
                  exact .d (hval j i z h3 hil (by simpa using hz))
                obtain ⟨hle, hnew⟩ := setAt_all2 hold hcells hcs
                obtain ⟨hul, huv⟩ := plainC_sound hu hnew
                have hlen1 : ((arr.toList.drop (j * τ.size)).take τ.size).length = τ.size := by simp; omega
                rw [hlen1] at hle
                have hle' : j * τ.size + off + 0 + (a.eval x).cells.toList.length ≤ arr.size := by omega
                obtain ⟨w', g1, g2, g3, g4, g5, g6, g7⟩ := run_storeCells (P := P) (a.eval x).cells.toList w b (j * τ.size + off) 0 arr e hh hle' hcells.ones
                have hcl : (a.eval x).cells.toList.length = (a.eval x).cells.size := Array.length_toList
                have hlt := R.hr.lt n b (by rw [hn]; simp) (.inl hb)
                have hgetD : ∀ i, i < l.length → (l.set j u).getD i τ.d0 = if i = j then u else l.getD i τ.d0 := fun i hi => by
                  rw [List.getD_eq_getElem?_getD, List.getD_eq_getElem?_getD, List.getElem?_set]
                  by_cases e : j = i
                  · subst e; simp [hi]
                  · rw [if_neg e, if_neg (Ne.symm e)]
                have hsize : (arr.toList.take (j * τ.size + off + 0) ++ ((a.eval x).cells.toList ++ arr.toList.drop (j * τ.size + off + 0 + (a.eval x).cells.toList.length))).toArray.size = arr.size := by
                  simp only [List.size_toArray, List.length_append, List.length_take, List.length_drop, Array.length_toList]
                  omega
                obtain ⟨β', R', q1, q2, q3, q4⟩ := R.set n (.vec τ e (l.set j u)) (fun o0 h => by rw [hn] at h; injection h with h; subst h; rfl) (some b) (some (.slice (some ⟨b, 0, none⟩) l.length cap)) (w' := w') g5 g6 g7 (by omega)
                  (fun q _ hq => g4 q fun e => hq _ hn (by rw [e]; exact hb))
                  (fun o0 p h _ hm => by rw [hn] at h; injection h with h; subst h; exact absurd trivial hm) (fun q hq => by injection hq with hq; subst hq; exact ⟨by omega, .inl ⟨_, hn, hb, fun _ _ => trivial⟩⟩)
                  (fun o0 _ => ⟨(fun h => by rw [ho1] at h; cases h), fun z hz => ⟨_, rfl, .inl (by rw [ho1] at hz; injection hz)⟩⟩)
                  (fun β' p1 p2 hev2 hbe => .inr ⟨b, cap, _, by rw [List.length_set]; exact p2, p1, g2, by rw [List.length_set]; exact hcap, hmax, hsize.trans hsz, fun i q z hi hq hz => by
                    rw [List.length_set] at hi
                    rw [hgetD i hi]
                    have hz' : (arr.toList.take (j * τ.size + off) ++ ((a.eval x).cells.toList ++ arr.toList.drop (j * τ.size + off + (a.eval x).cells.toList.length)))[i * τ.size + q]? = some z := by simpa using hz
                    by_cases e : i = j
                    · rw [if_pos e]
                      subst e
                      refine (huv q z ?_).evo hev2
                      rw [← hz']
                      exact (splice_get (A := arr.toList) (b := i * τ.size) (sz := τ.size) (off := off) (by simpa using hbd) hle hq).symm
                    · rw [if_neg e]
                      refine (hval i q z hi hq ?_).evo hev2
                      rw [← Array.getElem?_toList, ← hz']
                      have hdis : i * τ.size + q < j * τ.size ∨ (j + 1) * τ.size ≤ i * τ.size + q := by
                        rcases Nat.lt_or_gt_of_ne e with e | e
                        · left
                          have : (i + 1) * τ.size ≤ j * τ.size := Nat.mul_le_mul_right _ e
                          rw [Nat.add_mul, Nat.one_mul] at this
                          omega
                        · right
                          have : (j + 1) * τ.size ≤ i * τ.size := Nat.mul_le_mul_right _ e
                          omega
                      rw [Nat.add_mul, Nat.one_mul] at hdis
                      rcases hdis with hd | hd
                      · rw [List.getElem?_append_left (by simp; omega), List.getElem?_take, if_pos (by omega)]
                      · rw [List.getElem?_append_right (by simp; omega), List.getElem?_append_right (by simp; omega), List.getElem?_drop]
                        congr 1
                        simp; omega⟩)
                refine ⟨.skip, w', β', undef, ?_, .inr ⟨rfl, rfl⟩, R', ⟨#[], rfl, .nil⟩, by simp⟩
                have hsz' : (a.eval x).cells.size = y.size := by
                  have := hcells.length; rw [hsz0] at this; simpa using this.symm
                simp only [execOp, ho, Sem.run_bind, Instr.storeAt, Instr.sureAddr, hev, Sem.run_pure, Result.andThen_ok, storeVar, run_sizeOf (hL t y hy).size, hsz']
                simp [g1]
            · cases h
          · cases h
        · cases h
      · cases h
    · cases h
  · cases h

/-- a call; arguments that are such slices, as they are or without their rooms -/
theorem good_vcall {F : Fence} (hF : Wide F) {n : Nat} (hpr : X.b0.pr = P) (hΓ : ConOk P Γ) (R : Rel X β σ a w) (hG : GOk a G) {o : Oper} {f : Operand} {args : Array Operand} {ts : Array TypeId} (ho : o.op = .call { callee := .value f, args := args, argTypes := ts }) {fr : Nat}
    {r : Res} (h : vCall L Γ G σ f args.toList ts.toList fr = some r) (hc : ∀ c ∈ r.c, c) {next : Act → World → Prop} {Q : Exit → Act → World → Prop}
    (hn : ∀ v w' β', Rel X β' { σ with h := upds r.h σ.h } a w' → VA w' (Mt β' (look (upds r.h σ.h))) β' (dm (look (upds r.h σ.h))) r.v v → next (a.put o.dst v) w') :
    r.f = [] ∧ o.wpIn F n P a w next Q := by
  unfold vCall at h
  split at h
  · rename_i r' hr'
    injection h with h; subst h
    exact good_call hF hpr hΓ R hG ho hr' hc hn
  · split at h
    · rename_i xs fid fi ca hxs hf
      split at h
      · rename_i con ps ys es hcon hfz
        split at h
        · rename_i cs rv up hr
          obtain rfl := Option.some.inj h
          refine ⟨rfl, ?_⟩
          obtain ⟨β1, R1, ev, be, hys⟩ := frzTs_sound R hfz fun p hp => hc p (List.mem_append_left _ hp)
          have hfv := opT_sound R hG hf
          generalize hev : a.eval f = fv at hfv
          cases hfv with
          | @clo _ _ _ vf vc h1 h2 =>
            have hall := (ptrs_sound (w := w) (M := Mt β1 (look (upds es σ.h))) (h1.mono fun _ _ _ h => h.evo be)).append ((hys _ (nilTs_sound (L := L) (ts := ts.toList) (stT_sound (mapT_sound R hG hxs)))).append (ptrs_sound (w := w) (M := Mt β1 (look (upds es σ.h))) (h2.mono fun _ _ _ h => h.evo be)))
            refine call_core hF hpr hΓ R1 ho hev hcon hall hr (fun c hc' => hc c (List.mem_append_right _ hc')) fun v w' β' R' hv => ?_
            simp only [upds_append] at hn
            exact hn v w' β' R' hv
        · cases h
      · cases h
    · cases h

theorem good_vslice (hL : LOk P L) (R : Rel X β σ a w) (hG : GOk a G) {o : Oper} {t : TypeId} {x : Operand} {lo hi mx : Option Operand} (ho : o.op = .slice t x lo hi mx) {r : Res} (h : vSlice L G σ t x lo hi mx = some r) (hc : ∀ c ∈ r.c, c) : OpGood P X σ a w o r := by
  unfold vSlice at h
  split at h
  · rename_i _ y n k hy hx
    split at h
    · rename_i τ e l hn
      split at h
      · rename_i sz p q hel hp hq
        split at h
        · rename_i hsz
          subst hsz
          obtain rfl := Option.some.inj h
          obtain ⟨e', hu, he, hne⟩ := (hL t y hy).el τ.size hel
          have hk : k = l.length := hc _ (by simp)
          have h0 : 0 ≤ p := hc (0 ≤ p) (by simp)
          have h1 : p ≤ q := hc (p ≤ q) (by simp)
          have h2 : q ≤ (l.length : Int) := hc (q ≤ (l.length : Int)) (by simp)
          obtain ⟨β', R', _, _, hfr⟩ := R.freeze hn (by omega)
          obtain ⟨ad, cap, hev, hcap, hv⟩ := VD.cut (by have := hfr k _ hk (opT_sound R hG hx); cases this with | d h => exact h) (i := p.toNat) (j := q.toNat) (by omega) (by omega)
          refine ⟨.value (.slice (if cap = p.toNat then ad else ad.map (·.add (p.toNat * τ.size))) (q.toNat - p.toNat) (cap - p.toNat)), w, β', _, ?_, .inl rfl, R', VL.d hv, fun p hp => by cases hp⟩
          have hb : (Instr.sliceBounds true l.length cap (lo.map a.eval) (hi.map a.eval) none).run P w = .ok (p.toNat, q.toNat, cap) w := by
            refine run_sliceBounds ?_ ?_ h0 h1 (by omega)
            · rcases bnd_sound R hG hq with ⟨rfl, rfl⟩ | ⟨oh, k, rfl, hoh⟩
              · exact .inl ⟨rfl, rfl⟩
              · exact .inr ⟨k, by simp [hoh]⟩
            · rcases bnd_sound R hG hp with ⟨rfl, rfl⟩ | ⟨oh, k, rfl, hoh⟩
              · exact .inl ⟨rfl, rfl⟩
              · exact .inr ⟨k, by simp [hoh]⟩
          simp only [execOp, ho, Sem.run_bind, Instr.sliceAt, Instr.slice, run_underlying hu, Result.andThen_ok, hev, Option.map_none, hb, run_sizeOf he, Sem.run_pure]
        · cases h
      · cases h
    · cases h
  · cases h

theorem Rel.appendV (R : Rel X β σ a w) {t ty e b n : Nat} {τ : Ty} {l l' : List τ.T} {v vx : Value} {i : TypeInfo} {z : Value} (hu : P.underlying t = some (.slice e)) (hi : P.info? e = some i) (hsz : i.size = τ.size) (hby : i.bytes = b)
    (hz : i.zero = some z) (hzs : z.cells.size = τ.size) (hx : VD w (Mt β (look σ.h)) (.sl τ l') vx)
    (hst : (look σ.h n = none ∧ v = .slice none 0 0 ∧ l = []) ∨ (look σ.h n = some (.vec τ e l) ∧ OV β (dm (look σ.h)) n v ∧ hlen v = l.length)) (hbytes : (l.length + l'.length) * b ≤ 140737488355328) (hb0 : 0 < b) :
    ∃ v' w' β', (Builtin.append_ #[t, t] ty #[v, vx]).run P w = .ok v' w' ∧ Rel X β' { σ with h := (n, .vec τ e (l ++ l')) :: σ.h } a w' ∧
      VL w' (Mt β' (look ((n, HO.vec τ e (l ++ l')) :: σ.h))) β' (dm (look ((n, HO.vec τ e (l ++ l')) :: σ.h))) (.vr n (l ++ l').length) v' := by
  have hbig : l.length + l'.length ≤ 140737488355328 := Nat.le_trans (Nat.le_mul_of_pos_right _ hb0) hbytes
  obtain ⟨ad', cap', cs', hev', hcl', hnil', hone', hcell', hval'⟩ := hx.row
  have hst' : (look σ.h n = none ∧ v = .slice none 0 0 ∧ l = []) ∨ (look σ.h n = some (.vec τ e l) ∧ β.o n = some v ∧ ((v = .slice none 0 0 ∧ β n = none ∧ l = []) ∨ ∃ b cap arr, v = .slice (some ⟨b, 0, none⟩) l.length cap ∧ β n = some b ∧ w.heap[b]? = some (.cells arr e (0, 0)) ∧ l.length ≤ cap ∧ cap ≤ maxLen ∧ arr.size = cap * τ.size ∧
      ∀ i j u, i < l.length → j < τ.size → arr[i * τ.size + j]? = some u → VD w (Mt β (look σ.h)) (τ.enc (l.getD i τ.d0) j) u)) := by
    rcases hst with h | ⟨h1, h2, h3⟩
    · exact .inl h
    · obtain ⟨g1, g2⟩ := vec_open R.hr h1 h2 h3
      exact .inr ⟨h1, g1, g2⟩
  have hbd : ∀ i j, i < l.length → j < τ.size → i * τ.size + j < l.length * τ.size := fun i j hi hj => by
    have : (i + 1) * τ.size ≤ l.length * τ.size := Nat.mul_le_mul_right _ hi
    rw [Nat.add_mul, Nat.one_mul] at this
    omega
  obtain ⟨ad, cap, cs, hev, hcl, hnil, hcell, hval, hcap0, hcapmax⟩ : ∃ (ad : Option Addr) (cap : Nat) (cs : List Value), v = .slice ad l.length cap ∧ cs.length = l.length * τ.size ∧ (ad = none → l = [] ∧ cap = 0) ∧
      (∀ a, ad = some a → ∀ j u, cs[j]? = some u → w.cell? (a.add j) = some u) ∧ (∀ i j u, i < l.length → j < τ.size → cs[i * τ.size + j]? = some u → VD w (Mt β (look σ.h)) (τ.enc (l.getD i τ.d0) j) u) ∧ l.length ≤ cap ∧ cap ≤ maxLen := by
    have nilc : v = .slice none 0 0 → l = [] → ∃ (ad : Option Addr) (cap : Nat) (cs : List Value), v = .slice ad l.length cap ∧ cs.length = l.length * τ.size ∧ (ad = none → l = [] ∧ cap = 0) ∧
      (∀ a, ad = some a → ∀ j u, cs[j]? = some u → w.cell? (a.add j) = some u) ∧ (∀ i j u, i < l.length → j < τ.size → cs[i * τ.size + j]? = some u → VD w (Mt β (look σ.h)) (τ.enc (l.getD i τ.d0) j) u) ∧ l.length ≤ cap ∧ cap ≤ maxLen := fun h1 h2 => by
      subst h2
      exact ⟨none, 0, [], h1, by simp, fun _ => ⟨rfl, rfl⟩, (fun a h => by cases h), (fun i j u h => absurd h (Nat.not_lt_zero _)), Nat.le_refl _, Nat.zero_le _⟩
    rcases hst' with ⟨_, h1, h2⟩ | ⟨_, _, ⟨h1, _, h2⟩ | ⟨b, cap, arr, h1, h2, h3, h4, h5, h6, h7⟩⟩
    · exact nilc h1 h2
    · exact nilc h1 h2
    · have hle : l.length * τ.size ≤ arr.size := by rw [h6]; exact Nat.mul_le_mul_right _ h4
      refine ⟨some ⟨b, 0, none⟩, cap, arr.toList.take (l.length * τ.size), h1, by simp; omega, (fun h => by cases h), fun a ha j u hu => ?_, fun i j u hi hj hu => h7 i j u hi hj ?_, h4, h5⟩
      · injection ha with ha; subst ha
        rw [List.getElem?_take] at hu
        split at hu
        · rw [Addr.add_lit, Nat.zero_add]
          simp only [World.cell?, h3]
          simpa using hu
        · cases hu
      · rw [List.getElem?_take, if_pos (hbd i j hi hj)] at hu
        simpa using hu
  have stay : l' = [] → (Builtin.append_ #[t, t] ty #[v, vx]).run P w = .ok v w → ∃ v' w' β', (Builtin.append_ #[t, t] ty #[v, vx]).run P w = .ok v' w' ∧ Rel X β' { σ with h := (n, .vec τ e (l ++ l')) :: σ.h } a w' ∧
      VL w' (Mt β' (look ((n, HO.vec τ e (l ++ l')) :: σ.h))) β' (dm (look ((n, HO.vec τ e (l ++ l')) :: σ.h))) (.vr n (l ++ l').length) v' := by
    intro hl' hrun
    subst hl'
    rw [List.append_nil]
    rcases hst with ⟨h1, rfl, rfl⟩ | ⟨h1, h2, h3⟩
    · obtain ⟨β', R', hv', _⟩ := R.room h1 true τ e
      exact ⟨_, w, β', hrun, R', hv'⟩
    · obtain ⟨β', R', g1, g2, g3⟩ := R.again h1 rfl
      exact ⟨v, w, β', hrun, R', .vr ⟨_, _, _, hev⟩ h3 (h2.evo g3)⟩
  have hnew : (cs ++ cs').length = (l ++ l').length * τ.size := by rw [List.length_append, hcl, hcl', List.length_append, Nat.add_mul]
  have hvals := row_append hcl hval hval'
  have hml : l.length + l'.length ≤ maxLen := by unfold maxLen; omega
  have grow : ∀ old, old < l.length + l'.length → (∀ o0, look σ.h n = some o0 → ∃ u, β.o n = some u ∧ hlen u < (l ++ l').length) →
      (Builtin.append_ #[t, t] ty #[v, vx]).run P w = .ok (.slice (some ⟨w.heap.size, 0, none⟩) (l.length + l'.length) (grownCap w (l.length + l'.length) old e))
        (w.drew.alloc (.cells (cs.toArray ++ cs'.toArray ++ Builtin.zeroCells z.cells (grownCap w (l.length + l'.length) old e - (l.length + l'.length))) e)) →
      ∃ v' w' β', (Builtin.append_ #[t, t] ty #[v, vx]).run P w = .ok v' w' ∧ Rel X β' { σ with h := (n, .vec τ e (l ++ l')) :: σ.h } a w' ∧
      VL w' (Mt β' (look ((n, HO.vec τ e (l ++ l')) :: σ.h))) β' (dm (look ((n, HO.vec τ e (l ++ l')) :: σ.h))) (.vr n (l ++ l').length) v' := by
    intro old hold hex hrun
    have hob0 : ∀ o0, look σ.h n = some o0 → o0.isOb = false := fun o0 ho => by
      rcases hst with ⟨h1, _⟩ | ⟨h1, _⟩
      · rw [h1] at ho; cases ho
      · rw [h1] at ho; injection ho with ho; subst ho; rfl
    have hge := grownCap_ge w (l.length + l'.length) old e
    have hcm := grownCap_le_maxLen w (l.length + l'.length) old e hml
    rw [← List.length_append] at hrun hge hcm
    obtain ⟨β', R', hv'⟩ := R.newVec (n := n) (e := e) (l := l ++ l') (cs := cs ++ cs') (cap := grownCap w (l ++ l').length old e)
      (arr := cs.toArray ++ cs'.toArray ++ Builtin.zeroCells z.cells (grownCap w (l ++ l').length old e - (l ++ l').length))
      (w' := w.drew.alloc (.cells (cs.toArray ++ cs'.toArray ++ Builtin.zeroCells z.cells (grownCap w (l ++ l').length old e - (l ++ l').length)) e)) ⟨rfl, rfl, rfl, rfl⟩ hob0 hex hge hcm hnew
      (by
        simp only [Array.size_append, List.size_toArray, size_zeroCells, hzs, hcl, hcl', ← Nat.add_mul]
        rw [← List.length_append]
        congr 1
        omega)
      (by
        simp only [Array.toList_append, List.append_assoc]
        rw [← List.append_assoc, ← hnew]
        exact List.take_left) hvals
    exact ⟨_, _, β', hrun, R', hv'⟩
  cases ad' with
  | none =>
    obtain ⟨rfl, rfl⟩ := hnil' rfl
    refine stay rfl ?_
    rw [hev, hev']
    exact run_append_nn t ty e i hu hi ad l.length cap hcap0
  | some a' =>
    have hc' : ∀ j u, cs'[j]? = some u → w.cell? (a'.add j) = some u := fun j u h => (hcell' a' rfl j u h).1
    cases ad with
    | none =>
      obtain ⟨rfl, rfl⟩ := hnil rfl
      have hcs : cs = [] := List.eq_nil_of_length_eq_zero (by simpa using hcl)
      subst hcs
      have hev0 : v = .slice none 0 0 := hev
      by_cases hm : l' = []
      · refine stay hm ?_
        subst hm
        rw [hev0, hev']
        have : cs' = [] := List.eq_nil_of_length_eq_zero (by simpa using hcl')
        simp [Builtin.append_, run_underlying hu, sizeOf, typeInfo, hi, Builtin.lenOf, Builtin.firstCells, loadCells, loadCellsFrom]
      · have hm0 : 0 < l'.length := List.length_pos_iff.2 hm
        have hr := run_append_nil (P := P) w t ty e i z hu hi hz a' l'.length cap' cs' (by rw [hcl', hsz]) hc' hm0 (by omega) (by rw [hby]; simp at hbytes; omega)
        refine grow 0 (by simp; omega) (fun o0 ho => ?_) ?_
        · rcases hst' with ⟨h1, _⟩ | ⟨h1, h2, _⟩
          · rw [h1] at ho; cases ho
          · exact ⟨v, h2, by rw [hev0]; simp [hlen]; omega⟩
        · rw [hev0, hev', hr]
          simp
    | some ad =>
      rcases hst' with ⟨_, h2, _⟩ | ⟨h1, h2, ⟨h3, _⟩ | ⟨k, cap2, arr, g0, g1, g2, g3, g4, g5, _⟩⟩
      · rw [hev] at h2; cases h2
      · rw [hev] at h3; cases h3
      · have e1 : (.slice (some ⟨k, 0, none⟩) l.length cap2 : Value) = .slice (some ad) l.length cap := g0.symm.trans hev
        injection e1 with e1 e2 e3
        injection e1 with e1
        subst e1 e3
        have hc0 : ∀ j u, cs[j]? = some u → w.cell? ((⟨k, 0, none⟩ : Addr).add j) = some u := fun j u h => hcell _ rfl j u h
        by_cases hroom : l.length + l'.length ≤ cap2
        · have hfit : l.length * τ.size + cs'.length ≤ arr.size := by rw [hcl', g5, ← Nat.add_mul]; exact Nat.mul_le_mul_right _ hroom
          have hr := run_append_room (P := P) w t ty e i hu hi k l.length cap2 arr g2 a' l'.length cap' cs' (by rw [hcl', hsz]) hc' hone' hroom (by rw [hsz]; exact hfit)
          rw [hsz] at hr
          have htake : arr.toList.take (l.length * τ.size) = cs := by
            refine List.ext_getElem? fun j => ?_
            rw [List.getElem?_take]
            split
            · rename_i hj
              have hj' : j < cs.length := by omega
              have := hc0 j _ (List.getElem?_eq_getElem hj')
              rw [Addr.add_lit, Nat.zero_add] at this
              simp only [World.cell?, g2] at this
              rw [List.getElem?_eq_getElem hj']
              simpa using this
            · rw [List.getElem?_eq_none (by omega)]
          rw [htake] at hr
          obtain ⟨w', hw'⟩ : ∃ w', w.setRow k (cs ++ cs' ++ arr.toList.drop (l.length * τ.size + cs'.length)).toArray = w' := ⟨_, rfl⟩
          have hat : w'.heap[k]? = some (.cells (cs ++ cs' ++ arr.toList.drop (l.length * τ.size + cs'.length)).toArray e (0, 0)) := by rw [← hw']; exact setRow_heap w k arr _ e _ g2
          have hoth : ∀ j, j ≠ k → w'.heap[j]? = w.heap[j]? := fun j hj => by rw [← hw']; exact setRow_other w k j _ hj
          have hwsz : w'.heap.size = w.heap.size := by rw [← hw']; simp [World.setRow]
          have hosz : w'.os = w.os ∧ w'.tape = w.tape ∧ w'.output = w.output := by rw [← hw']; exact ⟨rfl, rfl, rfl⟩
          have hlt := R.hr.lt n k (by rw [h1]; simp) (.inl g1)
          rw [hw'] at hr
          have hasz : (cs ++ cs' ++ arr.toList.drop (l.length * τ.size + cs'.length)).toArray.size = cap2 * τ.size := by
            simp only [List.size_toArray, List.length_append, List.length_drop, Array.length_toList]
            omega
          have hbd2 : ∀ i j, i < (l ++ l').length → j < τ.size → i * τ.size + j < (cs ++ cs').length := fun i j hi hj => by
            rw [hnew]
            have : (i + 1) * τ.size ≤ (l ++ l').length * τ.size := Nat.mul_le_mul_right _ hi
            rw [Nat.add_mul, Nat.one_mul] at this
            omega
          obtain ⟨β', R', q1, q2, q3, q4⟩ := R.set n (.vec τ e (l ++ l')) (fun o0 h => by rw [h1] at h; injection h with h; subst h; rfl) (some k) (some (.slice (some ⟨k, 0, none⟩) (l ++ l').length cap2)) (w' := w') hosz.1 hosz.2.1 hosz.2.2 (by omega)
            (fun j _ hj => hoth j fun e => hj _ h1 (by rw [e]; exact g1))
            (fun o0 p ho hb hm => by rw [h1] at ho; injection ho with ho; subst ho; exact absurd trivial hm)
            (fun j hj => by
              injection hj with hj; subst hj
              exact ⟨by omega, .inl ⟨_, h1, g1, fun _ _ => trivial⟩⟩)
            (fun o0 _ => ⟨(fun h => by rw [h2] at h; cases h), fun u hu => by
              rw [h2] at hu; injection hu with hu; subst hu
              refine ⟨_, rfl, ?_⟩
              rw [hev]
              by_cases hm : l' = []
              · subst hm; left; rw [List.append_nil]
              · right
                have := List.length_pos_iff.2 hm
                simp only [hlen, List.length_append]; omega⟩)
            (fun β' p1 p2 hev2 hbe => .inr ⟨k, cap2, _, p2, p1, hat, by rw [List.length_append]; exact hroom, g4, hasz, fun i j u hi hj hu => (hvals i j u hi hj (by
              have hu' : (cs ++ cs' ++ arr.toList.drop (l.length * τ.size + cs'.length))[i * τ.size + j]? = some u := by simpa using hu
              rwa [List.getElem?_append_left (hbd2 i j hi hj)] at hu')).evo hev2⟩)
          refine ⟨_, w', β', by rw [hev, hev']; exact hr, R', ?_⟩
          have e : (.slice (some ⟨k, 0, none⟩) (l.length + l'.length) cap2 : Value) = .slice (some ⟨k, 0, none⟩) (l ++ l').length cap2 := by rw [List.length_append]
          rw [e]
          exact .vr ⟨_, _, _, rfl⟩ rfl ⟨by simp [dm, look_cons], _, q2, Nat.le_refl _, fun _ => rfl⟩
        · have hr := run_append_grow (P := P) w t ty e i z hu hi hz ⟨k, 0, none⟩ l.length cap2 cs (by rw [hcl, hsz]) hc0 a' l'.length cap' cs' (by rw [hcl', hsz]) hc' (by omega) (by omega)
            (growslice_fits (by omega) (by rw [hby]; exact hbytes))
          refine grow cap2 (by omega) (fun o0 _ => ⟨v, h2, ?_⟩) (by rw [hev, hev']; exact hr)
          rw [hev, List.length_append]; simp only [hlen]; omega

theorem good_vappend (hL : LOk P L) (R : Rel X β σ a w) {o : Oper} {args : Array Operand} {ts : Array TypeId} {p q : Operand} {s x : TV} (ho : o.op = .call { callee := .builtin .append, args := args, argTypes := ts }) (hargs : args.toList = [p, q])
    (hs : VT w (Mt β (look σ.h)) β (dm (look σ.h)) s (a.eval p)) (hx : VT w (Mt β (look σ.h)) β (dm (look σ.h)) x (a.eval q)) {r : Res} (h : vAppend L (look σ.h) ts.toList o.dst s x = some r) (hc : ∀ c ∈ r.c, c) : OpGood P X σ a w o r := by
  have hargs' : args = #[p, q] := by rw [← Array.toArray_toList (xs := args), hargs]
  unfold vAppend at h
  split at h
  · rename_i t t' hts
    split at h
    · rename_i htt
      subst htt
      have hts' : ts = #[t, t] := by rw [← Array.toArray_toList (xs := ts), hts]
      have hexec : ∀ {v : Value} {w' : World}, (Builtin.append_ #[t, t] o.type #[a.eval p, a.eval q]).run P w = .ok v w' → (execOp a.eval o).run P w = .ok (.value v) w' := fun hr => by
        simp only [execOp, ho, hargs', hts', resolve, invoke, builtin, Sem.run_bind, Sem.run_pure, Result.andThen_ok, List.map_toArray, List.map_cons, List.map_nil, hr]
      split at h
      · rename_i y hy
        split at h
        · rename_i τ e b x' hety hxst
          obtain ⟨hu, hτ, _, hb0, i, z, hi, hsz, hby, hz, hzs⟩ := (hL t y hy).ety τ e b hety
          have hxv : VD w (Mt β (look σ.h)) x' (a.eval q) := by
            have := TV.st_sound hx
            rw [hxst] at this
            cases this with | d h => exact h
          split at h
          · rename_i l' n k hl'
            split at h
            · rename_i σ' e' l hn
              split at h
              · rename_i hh hsame
                subst hh
                split at h
                · rename_i hes
                  subst hes
                  obtain rfl := Option.some.inj h
                  have hk : k = l.length := hc _ (by simp)
                  have hbytes : (l.length + l'.length) * b ≤ 140737488355328 := hc ((l.length + l'.length) * b ≤ 140737488355328) (by simp)
                  cases hs with
                  | vr hsv hkk hov =>
                    obtain ⟨v', w', β', r1, r2, r3⟩ := R.appendV (ty := o.type) hu hi hsz hby hz hzs (asL_sound hl' hxv) (.inr ⟨hn, hov, hkk.trans hk⟩) hbytes hb0
                    rw [List.length_append] at r3
                    exact ⟨_, w', β', v', hexec r1, .inl rfl, r2, r3, fun p hp => by cases hp⟩
                · cases h
              · cases h
            · cases h
          · rename_i l' s' hl'
            split at h
            · rename_i d hnil hd
              split at h
              · rename_i hn
                obtain rfl := Option.some.inj h
                have hbytes : l'.length * b ≤ 140737488355328 := hc _ (by simp)
                cases hs with
                | d hs =>
                  have hv0 : a.eval p = .slice none 0 0 := by
                    generalize a.eval p = vp at hs
                    unfold isNil at hnil
                    split at hnil
                    · cases hs with
                      | nil => rfl
                      | sl _ h0 => exact absurd h0 (Nat.lt_irrefl _)
                    · cases hnil
                  obtain ⟨v', w', β', r1, r2, r3⟩ := R.appendV (ty := o.type) (n := rm d) (e := e) (l := []) hu hi hsz hby hz hzs (asL_sound hl' hxv) (.inl ⟨hn, hv0, rfl⟩) (by simpa using hbytes) hb0
                  exact ⟨_, w', β', v', hexec r1, .inl rfl, r2, r3, fun p hp => by cases hp⟩
              · cases h
            · cases h
          · cases h
        · cases h
      · cases h
    · cases h
  · cases h

theorem vr_len (H : HR β (look σ.h) w) {n k : Nat} {v : Value} (h : VL w (Mt β (look σ.h)) β (dm (look σ.h)) (.vr n k) v) : (∃ a cap, v = .slice a k cap) ∧ k ≤ maxLen := by
  cases h with
  | vr hs hk ho =>
    obtain ⟨a, len, cap, rfl⟩ := hs
    have hk' : len = k := hk
    subst hk'
    refine ⟨⟨a, cap, rfl⟩, ?_⟩
    obtain ⟨hd, u, hu, hle, _⟩ := ho
    cases hn : look σ.h n with
    | none => exact absurd hn hd
    | some o =>
      have hb := H.blk n o hn
      cases o with
      | cells b => obtain ⟨_, _, _, h0, _⟩ := hb; rw [h0] at hu; cases hu
      | mp => obtain ⟨_, _, _, h0, _⟩ := hb; rw [h0] at hu; cases hu
      | ob => obtain ⟨h0, _⟩ := hb; rw [h0] at hu; cases hu
      | gr e sz q =>
        rcases hb with ⟨h0, _⟩ | ⟨_, c, _, h0, _, _, h3, h4, _⟩
        · rw [h0] at hu; injection hu with hu; subst hu
          exact Nat.le_trans hle (Nat.zero_le _)
        · rw [h0] at hu; injection hu with hu; subst hu
          exact Nat.le_trans hle (Nat.le_trans h3 h4)
      | vec τ e q =>
        rcases hb with ⟨h0, _⟩ | ⟨_, c, _, h0, _, _, h3, h4, _⟩
        · rw [h0] at hu; injection hu with hu; subst hu
          exact Nat.le_trans hle (Nat.zero_le _)
        · rw [h0] at hu; injection hu with hu; subst hu
          exact Nat.le_trans hle (Nat.le_trans h3 h4)
theorem good_vlen (hL : LOk P L) (R : Rel X β σ a w) (hG : GOk a G) {o : Oper} {args : Array Operand} {ts : Array TypeId} (ho : o.op = .call { callee := .builtin .len, args := args, argTypes := ts }) {n k t : Nat} {y : Lay} {s : Nat}
    (hx : mapT (opT G σ) args.toList = some [.one (.vr n k)]) (hts : ts.toList = [t]) (hy : L t = some y) (hel : y.el = some s) : OpGood P X σ a w o { v := .t (.one (li .i64 k)), f := [(k : Int) ≤ 9223372036854775807] } := by
  have hall := mapT_sound R hG hx
  obtain ⟨v, hv, hx⟩ := hall.one_left
  have hvs' : args.map a.eval = #[v] := by rw [← Array.toArray_toList (xs := args.map a.eval), Array.toList_map, hv]
  have hts' : ts = #[t] := by rw [← Array.toArray_toList (xs := ts), hts]
  obtain ⟨e, hu, _, _⟩ := (hL t y hy).el s hel
  obtain ⟨⟨ad, c, rfl⟩, hle⟩ := vr_len R.hr hx
  refine OpGood.pure R (v := .int .i64 k) ?_ rfl (VT.lit rfl) ?_
  · simp [execOp, ho, resolve, invoke, builtin, hvs', hts', Builtin.len_, run_underlying hu, goInt]
  · intro p hp
    simp only [List.mem_singleton] at hp
    rw [hp]
    unfold maxLen at hle
    omega
end
end Go.Sy
