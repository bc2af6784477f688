/- A verified generator of conditions for this program, and its soundness: part B of the proof. -/
import Derived.Test.YtdkggjgmlccjcaaSyA
import Derived.Laws.Entries
import Derived.Laws.Cells
import Derived.Laws.World
import Derived.Laws.NewBlocks
import Derived.Laws.Small
import Derived.Laws.StructEq
namespace Go.Sy

/-! the meaning of abstract values in a world; how it is kept -/
inductive All2 {α : Type _} {β : Type _} (R : α → β → Prop) : List α → List β → Prop
  | nil : All2 R [] []
  | cons {a b l m} : R a b → All2 R l m → All2 R (a :: l) (b :: m)

theorem All2.length {α : Type _} {β : Type _} {R : α → β → Prop} {l : List α} {m : List β} (h : All2 R l m) : l.length = m.length := by
  induction h <;> simp_all
theorem All2.mono {α : Type _} {β : Type _} {R R' : α → β → Prop} {l : List α} {m : List β} (h : All2 R l m) (hr : ∀ a b, a ∈ l → R a b → R' a b) : All2 R' l m := by
  induction h with
  | nil => exact .nil
  | cons h _ ih => exact .cons (hr _ _ (by simp) h) (ih fun a b ha => hr a b (by simp [ha]))
theorem All2.get {α : Type _} {β : Type _} {R : α → β → Prop} {l : List α} {m : List β} (h : All2 R l m) {i : Nat} {a : α} (ha : l[i]? = some a) : ∃ b, m[i]? = some b ∧ R a b := by
  induction h generalizing i with
  | nil => simp at ha
  | cons h _ ih =>
    cases i with
    | zero => simp at ha; subst ha; exact ⟨_, by simp, h⟩
    | succ i => simp at ha; obtain ⟨b, hb, hr⟩ := ih ha; exact ⟨b, by simpa using hb, hr⟩
theorem All2.append {α : Type _} {β : Type _} {R : α → β → Prop} {l l' : List α} {m m' : List β} (h : All2 R l m) (h' : All2 R l' m') : All2 R (l ++ l') (m ++ m') := by
  induction h with
  | nil => exact h'
  | cons h _ ih => exact .cons h ih
theorem All2.take {α : Type _} {β : Type _} {R : α → β → Prop} {l : List α} {m : List β} (h : All2 R l m) (n : Nat) : All2 R (l.take n) (m.take n) := by
  induction h generalizing n with
  | nil => simpa using .nil
  | cons h _ ih => cases n with
    | zero => simpa using .nil
    | succ n => simpa using .cons h (ih n)
theorem All2.drop {α : Type _} {β : Type _} {R : α → β → Prop} {l : List α} {m : List β} (h : All2 R l m) (n : Nat) : All2 R (l.drop n) (m.drop n) := by
  induction h generalizing n with
  | nil => simpa using .nil
  | cons h hh ih => cases n with
    | zero => simpa using .cons h hh
    | succ n => simpa using ih n
theorem All2.of_get {α : Type _} {β : Type _} {R : α → β → Prop} : ∀ {l : List α} {m : List β}, l.length = m.length → (∀ (i : Nat) a b, l[i]? = some a → m[i]? = some b → R a b) → All2 R l m
  | [], [], _, _ => .nil
  | a :: l, b :: m, hl, h => .cons (h 0 a b rfl rfl) (All2.of_get (by simpa using hl) fun i x y hx hy => h (i + 1) x y (by simpa using hx) (by simpa using hy))
  | [], _ :: _, hl, _ => by simp at hl
  | _ :: _, [], hl, _ => by simp at hl

/-- which cells may still be written -/
abbrev CM := Nat → Nat → Prop

inductive VD (w : World) (M : CM) : DV → Value → Prop
  | lit {v : Value} (h : v.oneCell' = true) : VD w M (.lit v) v
  | nil {τ : Ty} : VD w M (.sl τ []) (.slice none 0 0)
  | sl {τ : Ty} {l : List τ.T} {a : Addr} {cap : Nat} (vs : Nat → Nat → Value) (h0 : 0 < τ.size)
      (hb : ∀ i, i < l.length → a.block < w.heap.size) (hcap : l.length ≤ cap) (hmax : cap ≤ maxLen)
      (hM : ∀ i j, i < l.length → j < τ.size → ¬ M a.block (a.off + (i * τ.size + j)))
      (hc : ∀ i j, i < l.length → j < τ.size → w.cell? (a.add (i * τ.size + j)) = some (vs i j))
      (hv : ∀ i j, i < l.length → j < τ.size → VD w M (τ.enc (l.getD i τ.d0) j) (vs i j)) :
      VD w M (.sl τ l) (.slice (some a) l.length cap)

/-- where the names of a state lie; the headers of its slices that may grow; the cells of others that may be written -/
structure Bt where
  b : Nat → Option Nat
  o : Nat → Option Value
  m : CM
  ym : Nat → CM
  yj : Nat → HO → CM → CM → World → Prop
  pr : Program
instance : CoeFun Bt (fun _ => Nat → Option Nat) := ⟨Bt.b⟩
def hlen : Value → Nat
  | .slice _ l _ => l
  | _ => 0

structure Evo (M M' : CM) (w w' : World) : Prop where
  size : w.heap.size ≤ w'.heap.size
  cell : ∀ p : Addr, p.block < w.heap.size → ¬ M p.block p.off → w'.cell? p = w.cell? p
  mt : ∀ k off, k < w.heap.size → ¬ M k off → ¬ M' k off
  blk : ∀ k, k < w.heap.size → (∀ off, ¬ M k off) → w'.heap[k]? = w.heap[k]?
  sys : w'.os = w.os ∧ w'.tape = w.tape ∧ w'.output = w.output

theorem Evo.refl {M : CM} {w : World} : Evo M M w w := ⟨Nat.le_refl _, fun _ _ _ => rfl, fun _ _ _ h => h, fun _ _ _ => rfl, rfl, rfl, rfl⟩
theorem Evo.trans {M M' M'' : CM} {w w' w'' : World} (h : Evo M M' w w') (h' : Evo M' M'' w' w'') : Evo M M'' w w'' :=
  ⟨Nat.le_trans h.size h'.size, fun p hp hm => (h'.cell p (Nat.lt_of_lt_of_le hp h.size) (h.mt _ _ hp hm)).trans (h.cell p hp hm),
    fun k o hk hm => h'.mt k o (Nat.lt_of_lt_of_le hk h.size) (h.mt k o hk hm),
    fun k hk hm => (h'.blk k (Nat.lt_of_lt_of_le hk h.size) fun off => h.mt k off hk (hm off)).trans (h.blk k hk hm),
    h'.sys.1.trans h.sys.1, h'.sys.2.1.trans h.sys.2.1, h'.sys.2.2.trans h.sys.2.2⟩
/-- the same world, less may be written -/
theorem Evo.less {M M' : CM} {w : World} (h : ∀ k off, M' k off → M k off) : Evo M M' w w := ⟨Nat.le_refl _, fun _ _ _ => rfl, fun k off _ hm hm' => hm (h k off hm'), fun _ _ _ => rfl, rfl, rfl, rfl⟩

theorem add_block (a : Addr) (n : Nat) : (a.add n).block = a.block := by unfold Addr.add; split <;> rfl
theorem add_off (a : Addr) (n : Nat) : (a.add n).off = a.off + n := by unfold Addr.add; split <;> simp_all
theorem add_add (a : Addr) (m n : Nat) : (a.add m).add n = a.add (m + n) := by
  unfold Addr.add
  by_cases hm : m = 0 <;> by_cases hn : n = 0 <;> simp_all [Nat.add_assoc]

theorem VD.evo {M M' : CM} {w w' : World} (e : Evo M M' w w') {x : DV} {v : Value} (h : VD w M x v) : VD w' M' x v := by
  induction h with
  | lit h => exact .lit h
  | nil => exact .nil
  | sl vs h0 hb hcap hmax hM hc hv ih =>
    refine .sl vs h0 (fun i hi => Nat.lt_of_lt_of_le (hb i hi) e.size) hcap hmax (fun i j hi hj => e.mt _ _ (hb i hi) (hM i j hi hj)) (fun i j hi hj => ?_) (fun i j hi hj => ih i j hi hj)
    rw [e.cell _ (by rw [add_block]; exact hb i hi) (by rw [add_block, add_off]; exact hM i j hi hj)]
    exact hc i j hi hj

theorem VD.one {M : CM} {w : World} {x : DV} {v : Value} (h : VD w M x v) : v.oneCell' = true := by
  cases h with
  | lit h => exact h
  | nil => rfl
  | sl => rfl

/-- a pointer to a block of the state's -/
def PV (β : Bt) (D : Nat → Prop) (q : Nat × Nat) (v : Value) : Prop := ∃ k, D q.1 ∧ β.o q.1 = none ∧ β q.1 = some k ∧ v = .pointer (some ⟨k, q.2, none⟩)
/-- the header of a slice that may grow, or an elder one of it -/
def OV (β : Bt) (D : Nat → Prop) (n : Nat) (v : Value) : Prop := D n ∧ ∃ u, β.o n = some u ∧ hlen v ≤ hlen u ∧ (hlen v = hlen u → v = u)

/-- a pointer into a slice's room, made when the slice had k elements -/
def VPt (β : Bt) (D : Nat → Prop) (n k sz i off : Nat) (v : Value) : Prop :=
  D n ∧ (∃ a, v = .pointer a) ∧ ∃ u, β.o n = some u ∧ k ≤ hlen u ∧ (k = hlen u → ∃ b cap, u = .slice (some ⟨b, 0, none⟩) k cap ∧ v = .pointer (some ⟨b, i * sz + off, none⟩))
theorem OV.to {β β' : Bt} {D D' : Nat → Prop} {n n' : Nat} {v : Value} (h : OV β D n v) (hd : D' n') (ho : β'.o n' = β.o n) : OV β' D' n' v := by
  obtain ⟨_, u, h1, h2⟩ := h
  exact ⟨hd, u, ho.trans h1, h2⟩
theorem VPt.to {β β' : Bt} {D D' : Nat → Prop} {n n' k sz i off : Nat} {v : Value} (h : VPt β D n k sz i off v) (hd : D' n') (ho : β'.o n' = β.o n) : VPt β' D' n' k sz i off v := by
  obtain ⟨_, hp, u, h1, h2⟩ := h
  exact ⟨hd, hp, u, ho.trans h1, h2⟩

inductive VL (w : World) (M : CM) (β : Bt) (D : Nat → Prop) : LV → Value → Prop
  | d {x v} (h : VD w M x v) : VL w M β D (.d x) v
  | ptr {n off v} (h : PV β D (n, off) v) : VL w M β D (.ptr n off) v
  | dptr {k : Nat} {c : Nat → DV} {p : Addr} (vs : Nat → Value) (hb : p.block < w.heap.size) (hM : ∀ j, j < k → ¬ M p.block (p.off + j))
      (hc : ∀ j, j < k → w.cell? (p.add j) = some (vs j)) (hv : ∀ j, j < k → VD w M (c j) (vs j)) : VL w M β D (.dptr k c) (.pointer (some p))
  | clo {f fi ca vf vc} (h1 : All2 (PV β D) fi vf) (h2 : All2 (PV β D) ca vc) : VL w M β D (.clo f fi ca) (.func (.func f) vf.toArray vc.toArray)
  | own {n x v} (h : VD w M x v) (ho : OV β D n v) : VL w M β D (.own n x) v
  | mp {n : Nat} {k : Nat} (h1 : D n) (h2 : β.o n = none) (h3 : β n = some k) : VL w M β D (.mp n) (.map (some k))
  | yl {n : Nat} {k : Nat} (h1 : D n) (h2 : β.o n = none) (h3 : β n = some k) : VL w M β D (.yl n) (.func (.yield k) #[] #[])
  | vr {n k : Nat} {v : Value} (hs : ∃ a len cap, v = .slice a len cap) (hk : hlen v = k) (ho : OV β D n v) : VL w M β D (.vr n k) v
  | vp {n k sz i off wd : Nat} {v : Value} (h : VPt β D n k sz i off v) : VL w M β D (.vp n k sz i off wd) v

theorem VL.one {w : World} {M : CM} {β : Bt} {D : Nat → Prop} {x : LV} {v : Value} (h : VL w M β D x v) : v.oneCell' = true := by
  cases h with
  | d h => exact h.one
  | ptr h => obtain ⟨k, _, _, _, rfl⟩ := h; rfl
  | dptr => rfl
  | clo => rfl
  | own h => exact h.one
  | mp => rfl
  | yl => rfl
  | vr hs => obtain ⟨_, _, _, rfl⟩ := hs; rfl
  | vp h => obtain ⟨_, ⟨_, rfl⟩, _⟩ := h; rfl
theorem one_cells {v : Value} (h : v.oneCell' = true) : v.cells = #[v] := by cases v <;> first | rfl | simp [Value.oneCell'] at h

structure BEvo (β β' : Bt) (D D' : Nat → Prop) : Prop where
  d : ∀ n, D n → D' n
  b : ∀ n, D n → β.o n = none → β'.o n = none ∧ β' n = β n ∧ β'.yj n = β.yj n
  o : ∀ n u, D n → β.o n = some u → ∃ u', β'.o n = some u' ∧ (u' = u ∨ hlen u < hlen u')
  pr : β'.pr = β.pr

theorem BEvo.refl {β : Bt} {D : Nat → Prop} : BEvo β β D D := ⟨fun _ h => h, fun _ _ h => ⟨h, rfl, rfl⟩, fun _ u _ h => ⟨u, h, .inl rfl⟩, rfl⟩
theorem BEvo.trans {β β' β'' : Bt} {D D' D'' : Nat → Prop} (h : BEvo β β' D D') (k : BEvo β' β'' D' D'') : BEvo β β'' D D'' :=
  ⟨fun n hn => k.d n (h.d n hn), fun n hn ho => by
    obtain ⟨h1, h2, h3⟩ := h.b n hn ho
    obtain ⟨k1, k2, k3⟩ := k.b n (h.d n hn) h1
    exact ⟨k1, k2.trans h2, k3.trans h3⟩, fun n u hn ho => by
    obtain ⟨u', h1, h2⟩ := h.o n u hn ho
    obtain ⟨u'', k1, k2⟩ := k.o n u' (h.d n hn) h1
    refine ⟨u'', k1, ?_⟩
    rcases h2 with rfl | h2 <;> rcases k2 with rfl | k2
    · exact .inl rfl
    · exact .inr k2
    · exact .inr h2
    · exact .inr (Nat.lt_trans h2 k2), k.pr.trans h.pr⟩

theorem PV.evo {β β' : Bt} {D D' : Nat → Prop} (b : BEvo β β' D D') {q : Nat × Nat} {v : Value} (h : PV β D q v) : PV β' D' q v := by
  obtain ⟨k, h1, h0, h2, h3⟩ := h
  obtain ⟨b1, b2, _⟩ := b.b _ h1 h0
  exact ⟨k, b.d _ h1, b1, b2.trans h2, h3⟩
theorem OV.evo {β β' : Bt} {D D' : Nat → Prop} (b : BEvo β β' D D') {n : Nat} {v : Value} (h : OV β D n v) : OV β' D' n v := by
  obtain ⟨h1, u, h2, h3, h4⟩ := h
  obtain ⟨u', k1, k2⟩ := b.o n u h1 h2
  refine ⟨b.d n h1, u', k1, ?_, ?_⟩
  · rcases k2 with rfl | k2
    · exact h3
    · omega
  · rcases k2 with rfl | k2
    · exact h4
    · intro h; omega

theorem VPt.evo {β β' : Bt} {D D' : Nat → Prop} (b : BEvo β β' D D') {n k sz i off : Nat} {v : Value} (h : VPt β D n k sz i off v) : VPt β' D' n k sz i off v := by
  obtain ⟨h1, hp, u, h2, h3, h4⟩ := h
  obtain ⟨u', k1, k2⟩ := b.o n u h1 h2
  refine ⟨b.d n h1, hp, u', k1, ?_, ?_⟩
  · rcases k2 with rfl | k2
    · exact h3
    · omega
  · rcases k2 with rfl | k2
    · exact h4
    · intro h; omega

theorem VL.evo {M M' : CM} {w w' : World} {β β' : Bt} {D D' : Nat → Prop} (e : Evo M M' w w') (b : BEvo β β' D D') {x : LV} {v : Value} (h : VL w M β D x v) : VL w' M' β' D' x v := by
  cases h with
  | d h => exact .d (h.evo e)
  | ptr h => exact .ptr (h.evo b)
  | dptr vs hb hM hc hv =>
    refine .dptr vs (Nat.lt_of_lt_of_le hb e.size) (fun j hj => e.mt _ _ hb (hM j hj)) (fun j hj => ?_) (fun j hj => (hv j hj).evo e)
    rw [e.cell _ (by rw [add_block]; exact hb) (by rw [add_block, add_off]; exact hM j hj)]
    exact hc j hj
  | clo h1 h2 => exact .clo (h1.mono fun _ _ _ h => h.evo b) (h2.mono fun _ _ _ h => h.evo b)
  | own h ho => exact .own (h.evo e) (ho.evo b)
  | mp h1 h2 h3 => obtain ⟨b1, b2, _⟩ := b.b _ h1 h2; exact .mp (b.d _ h1) b1 (b2.trans h3)
  | yl h1 h2 h3 => obtain ⟨b1, b2, _⟩ := b.b _ h1 h2; exact .yl (b.d _ h1) b1 (b2.trans h3)
  | vr hs hk ho => exact .vr hs hk (ho.evo b)
  | vp h => exact .vp (h.evo b)

/-- a plain value as the machine holds it -/
def PVal (w : World) (M : CM) (τ : Ty) (v : τ.T) (u : Value) : Prop :=
  (τ.ag = true → ∃ arr, u = .agg arr) ∧ (τ.ag = false → u.oneCell' = true) ∧ u.cells.toList.length = τ.size ∧ ∀ (j : Nat) x, u.cells.toList[j]? = some x → VD w M (τ.enc v j) x
theorem PVal.evo {M M' : CM} {w w' : World} (e : Evo M M' w w') {τ : Ty} {v : τ.T} {u : Value} (h : PVal w M τ v u) : PVal w' M' τ v u :=
  ⟨h.1, h.2.1, h.2.2.1, fun j x hx => (h.2.2.2 j x hx).evo e⟩

/-- the cells I alone are other ones -/
structure Chg (I : CM) (w w' : World) : Prop where
  size : w.heap.size ≤ w'.heap.size
  cell : ∀ p : Addr, p.block < w.heap.size → ¬ I p.block p.off → w'.cell? p = w.cell? p
  blk : ∀ k, k < w.heap.size → (∀ off, ¬ I k off) → w'.heap[k]? = w.heap[k]?
  sys : w'.os = w.os ∧ w'.tape = w.tape ∧ w'.output = w.output
def ArgsOk (w : World) (M : CM) : (sg : List Ty) → (tpl sg).T → List Value → Prop
  | [], _, vs => vs = []
  | a :: r, x, vs => ∃ v vs', vs = v :: vs' ∧ PVal w M a x.1 v ∧ ArgsOk w M r x.2 vs'
/-- what a loop over a function promises to this function: J: where it stands; Y: the cells that it may write; I: those that others may write meanwhile -/
structure YOk (P : Program) (sg : List Ty) (go : Lp (tpl sg).T) (k : Nat) (J : HO → CM → CM → World → Prop) : Prop where
  rc : ∀ hist Y I w, J (.ob sg hist go) Y I w → ∃ off, Y k off
  stay : ∀ hist Y I I' w w', J (.ob sg hist go) Y I w → Chg I w w' → (∀ q off, I' q off → I q off ∨ (w.heap.size ≤ q ∧ q < w'.heap.size)) → (∀ q off off', I' q off → ¬ Y q off') → J (.ob sg hist go) Y I' w'
  call : ∀ hist Y I w x vals, J (.ob sg hist go) Y I w → (∀ q off, I q off → q < w.heap.size) → (∀ q off off', I q off → ¬ Y q off') → liveX go hist x → ArgsOk w (fun q off => Y q off ∨ I q off) sg x vals →
    YieldAt Fence.wide 0 P k vals.toArray w fun e w' => e = .returned (.bool (go (hist ++ [x]))) ∧ ∃ Y', J (.ob sg (hist ++ [x]) go) Y' I w' ∧ Chg Y w w' ∧ (∀ q off, Y' q off → (∃ off', Y q off') ∨ w.heap.size ≤ q) ∧
      (∀ q off, q < w.heap.size → Y' q off → Y q off) ∧ ∀ q off, Y' q off → q < w'.heap.size

section
variable (w : World) (M : CM) (β : Bt) (D : Nat → Prop)
def VT : TV → Value → Prop
  | .one x, v => VL w M β D x v
  | .agg xs, v => ∃ arr : Array Value, v = .agg arr ∧ All2 (VL w M β D) xs arr.toList
def VA : AV → Value → Prop
  | .t x, v => VT w M β D x v
  | .tup xs, v => ∃ arr : Array Value, v = .tuple arr ∧ All2 (VT w M β D) xs arr.toList
def HOR (n : Nat) : HO → Prop
  | .cells b => ∃ k arr e, β.o n = none ∧ β n = some k ∧ w.heap[k]? = some (.cells arr e (0, 0)) ∧ All2 (VL w M β D) b arr.toList
  | .gr e sz len => (β.o n = some (.slice none 0 0) ∧ β n = none ∧ len = 0) ∨
      ∃ k cap arr, β.o n = some (.slice (some ⟨k, 0, none⟩) len cap) ∧ β n = some k ∧ w.heap[k]? = some (.cells arr e (0, 0)) ∧ len ≤ cap ∧ cap ≤ maxLen ∧ arr.size = cap * sz
  | .vec τ e l => (β.o n = some (.slice none 0 0) ∧ β n = none ∧ l = []) ∨
      ∃ k cap arr, β.o n = some (.slice (some ⟨k, 0, none⟩) l.length cap) ∧ β n = some k ∧ w.heap[k]? = some (.cells arr e (0, 0)) ∧ l.length ≤ cap ∧ cap ≤ maxLen ∧ arr.size = cap * τ.size ∧
        ∀ i j u, i < l.length → j < τ.size → arr[i * τ.size + j]? = some u → VD w M (τ.enc (l.getD i τ.d0) j) u
  | .ob sg hist go => β.o n = none ∧ ∃ k, β n = some k ∧ YOk β.pr sg go k (β.yj n) ∧ β.yj n (.ob sg hist go) (β.ym n) (fun q off => M q off ∧ ¬ β.ym n q off) w
  | .mp κ ν l => ∃ k es clock, β.o n = none ∧ β n = some k ∧ w.heap[k]? = some (.map es clock) ∧ All2 (fun (p : κ.T × ν.T) (en : MapEntry) => PVal w M κ p.1 en.key ∧ PVal w M ν p.2 en.val) l es.toList
end

theorem VT.evo {M M' : CM} {w w' : World} {β β' : Bt} {D D' : Nat → Prop} (e : Evo M M' w w') (b : BEvo β β' D D') {x : TV} {v : Value} (h : VT w M β D x v) : VT w' M' β' D' x v := by
  cases x with
  | one x => exact VL.evo e b h
  | agg xs => obtain ⟨arr, rfl, h⟩ := h; exact ⟨arr, rfl, h.mono fun _ _ _ h => h.evo e b⟩
theorem VA.evo {M M' : CM} {w w' : World} {β β' : Bt} {D D' : Nat → Prop} (e : Evo M M' w w') (b : BEvo β β' D D') {x : AV} {v : Value} (h : VA w M β D x v) : VA w' M' β' D' x v := by
  cases x with
  | t x => exact VT.evo e b h
  | tup xs => obtain ⟨arr, rfl, h⟩ := h; exact ⟨arr, rfl, h.mono fun _ _ _ h => VT.evo e b h⟩

theorem VT.cells {w : World} {M : CM} {β : Bt} {D : Nat → Prop} {x : TV} {v : Value} (h : VT w M β D x v) : All2 (VL w M β D) x.cells v.cells.toList := by
  cases x with
  | one x => rw [one_cells (VL.one h)]; exact .cons h .nil
  | agg xs => obtain ⟨arr, rfl, h⟩ := h; exact h

/-- the state's blocks in a world -/
def dm (hp : Nat → Option HO) (n : Nat) : Prop := hp n ≠ none
/-- the cells of an entry's block that may be written -/
def HO.mut : HO → Nat → Prop
  | .cells _, _ => True
  | .gr _ sz len, off => len * sz ≤ off
  | .mp _ _ _, _ => True
  | .ob _ _ _, _ => False
  | .vec _ _ _, _ => True
/-- the blocks that a name holds -/
def bk (β : Bt) (n k : Nat) : Prop := β n = some k ∨ ∃ off, β.ym n k off
def Mt (β : Bt) (hp : Nat → Option HO) : CM := fun k off => β.m k off ∨ ∃ n o, hp n = some o ∧ ((β n = some k ∧ o.mut off) ∨ β.ym n k off)
structure HR (β : Bt) (hp : Nat → Option HO) (w : World) : Prop where
  m0 : ∀ k off, β.m k off → k < w.heap.size
  lt : ∀ n k, hp n ≠ none → bk β n k → k < w.heap.size
  fresh : ∀ n k off, hp n ≠ none → bk β n k → ¬ β.m k off
  inj : ∀ n m k, hp n ≠ none → hp m ≠ none → bk β n k → bk β m k → n = m
  ye : ∀ n o, hp n = some o → o.isOb = false → ∀ k off, ¬ β.ym n k off
  blk : ∀ n o, hp n = some o → HOR w (Mt β hp) β (dm hp) n o

/-- what of old memory is as it was -/
structure Fr (B : Nat → Prop) (w w' : World) : Prop where
  os : w'.os = w.os
  tape : w'.tape = w.tape
  output : w'.output = w.output
  size : w.heap.size ≤ w'.heap.size
  block : ∀ k, k < w.heap.size → ¬ B k → w'.heap[k]? = w.heap[k]?

theorem Fr.refl {B : Nat → Prop} {w : World} : Fr B w w := ⟨rfl, rfl, rfl, Nat.le_refl _, fun _ _ _ => rfl⟩
theorem Fr.trans {B B' B'' : Nat → Prop} {a b c : World} (h : Fr B a b) (k : Fr B' b c) (hB : ∀ x, x < a.heap.size → ¬ B'' x → ¬ B x ∧ ¬ B' x) : Fr B'' a c :=
  ⟨k.os.trans h.os, k.tape.trans h.tape, k.output.trans h.output, Nat.le_trans h.size k.size,
    fun i hi hb => (k.block i (Nat.lt_of_lt_of_le hi h.size) (hB i hi hb).2).trans (h.block i hi (hB i hi hb).1)⟩

/-- the marks of the loops over functions among the deferred calls -/
def Marks (b : Nat) (m : CM) (w : World) : List Deferred → Prop
  | [] => True
  | d :: r => (∃ k, d = { target := .collected k, args := #[] } ∧ w.heap[k]? = some (Obj.deferred (some [])) ∧ b ≤ k ∧ m k 0 ∧ d ∉ r) ∧ Marks b m w r
theorem Marks.keep {b : Nat} {m m' : CM} {w w' : World} (hm : ∀ k off, m k off → m' k off) : ∀ {ds : List Deferred}, Marks b m w ds → (∀ k : Nat, m k 0 → w.heap[k]? = some (Obj.deferred (some [])) → ({ target := .collected k, args := #[] } : Deferred) ∈ ds → w'.heap[k]? = some (Obj.deferred (some []))) → Marks b m' w' ds
  | [], _, _ => trivial
  | _ :: _, ⟨⟨k, h1, h2, h3, h4, h5⟩, hr⟩, h => ⟨⟨k, h1, h k h4 h2 (by rw [h1]; exact List.mem_cons_self ..), h3, hm k 0 h4, h5⟩, Marks.keep hm hr fun k' hk h' hm => h k' hk h' (List.mem_cons_of_mem _ hm)⟩

structure Cx where
  w0 : World
  B0 : Nat → Prop
  N : Nat
  b0 : Bt
  D0 : Nat → Prop
  M : CM
  mb : Nat

structure Rel (X : Cx) (β : Bt) (σ : St) (a : Act) (w : World) : Prop where
  tn : a.tmps.size = X.N
  df : Marks X.mb β.m w a.defers
  fr : Fr X.B0 X.w0 w
  own : ∀ n k, look σ.h n ≠ none → bk β n k → X.B0 k ∨ X.w0.heap.size ≤ k
  be : BEvo X.b0 β X.D0 (dm (look σ.h))
  bm : ∀ k off, X.b0.m k off → β.m k off
  hr : HR β (look σ.h) w
  ev : Evo X.M (Mt β (look σ.h)) X.w0 w
  sl : ∀ t v, look σ.s t = some v → t < X.N ∧ VA w (Mt β (look σ.h)) β (dm (look σ.h)) v (a.tmps.getD t undef)
  gd : ∀ t g b x, look σ.g t = some (g, b, x) → t < X.N ∧ ((a.tmps.getD g undef = .bool b ∧ VT w (Mt β (look σ.h)) β (dm (look σ.h)) x (a.tmps.getD t undef)) ∨ (a.tmps.getD g undef ≠ .bool b ∧ a.tmps.getD t undef = undef))

theorem look_cons {β : Type _} (a : Nat) (x : β) (r : List (Nat × β)) (k : Nat) : look ((a, x) :: r) k = if a = k then some x else look r k := by
  simp [look]
theorem look_upds (up h : List (Nat × HO)) (k : Nat) : look (upds up h) k = match look up.reverse k with | some x => some x | none => look h k := by
  induction up generalizing h with
  | nil => simp [upds, look]
  | cons x r ih =>
    obtain ⟨a, x⟩ := x
    rw [upds, ih]
    have key : ∀ (l m : List (Nat × HO)), look (l ++ m) k = match look l k with | some y => some y | none => look m k := by
      intro l m
      induction l with
      | nil => simp [look]
      | cons y l ih => obtain ⟨b, y⟩ := y; simp only [List.cons_append, look]; split <;> simp_all
    rw [List.reverse_cons, key, look_cons]
    cases look r.reverse k with
    | some y => simp
    | none => simp only [look]; by_cases h : a = k <;> simp [h]

theorem LV.st_sound {w : World} {M : CM} {β : Bt} {D : Nat → Prop} {x : LV} {v : Value} (h : VL w M β D x v) : VL w M β D x.st v := by
  cases h with
  | own h _ => exact .d h
  | d h => exact .d h
  | ptr h => exact .ptr h
  | dptr vs hb hM hc hv => exact .dptr vs hb hM hc hv
  | clo h1 h2 => exact .clo h1 h2
  | mp h1 h2 h3 => exact .mp h1 h2 h3
  | yl h1 h2 h3 => exact .yl h1 h2 h3
  | vr hs hk ho => exact .vr hs hk ho
  | vp h => exact .vp h
theorem stL_sound {w : World} {M : CM} {β : Bt} {D : Nat → Prop} {xs : List LV} {vs : List Value} (h : All2 (VL w M β D) xs vs) : All2 (VL w M β D) (stL xs) vs := by
  induction h with
  | nil => exact .nil
  | cons h _ ih => exact .cons (LV.st_sound h) ih
theorem TV.st_sound {w : World} {M : CM} {β : Bt} {D : Nat → Prop} {x : TV} {v : Value} (h : VT w M β D x v) : VT w M β D x.st v := by
  cases x with
  | one x => exact LV.st_sound h
  | agg xs => obtain ⟨arr, h1, h2⟩ := h; exact ⟨arr, h1, stL_sound h2⟩
theorem stT_sound {w : World} {M : CM} {β : Bt} {D : Nat → Prop} {xs : List TV} {vs : List Value} (h : All2 (VT w M β D) xs vs) : All2 (VT w M β D) (stT xs) vs := by
  induction h with
  | nil => exact .nil
  | cons h _ ih => exact .cons (TV.st_sound h) ih
theorem All2.set {α : Type _} {β : Type _} {R : α → β → Prop} {l : List α} {m : List β} (h : All2 R l m) {j : Nat} {x : α} {y : β} (hy : m[j]? = some y) (hr : R x y) : All2 R (l.set j x) m := by
  induction h generalizing j with
  | nil => simp at hy
  | cons h1 h2 ih =>
    cases j with
    | zero => simp at hy; subst hy; exact .cons hr h2
    | succ j => exact .cons h1 (ih (by simpa using hy))
theorem nilCs_sound {w : World} {M : CM} {β : Bt} {D : Nat → Prop} {vs : List Value} : ∀ {cz : List (Nat × Ty)} {xs : List LV}, All2 (VL w M β D) xs vs → All2 (VL w M β D) (nilCs cz xs) vs
  | [], _, h => h
  | (j, τ) :: r, xs, h => by
    unfold nilCs
    split
    · rename_i l hx
      obtain ⟨v, hv, hr⟩ := h.get hx
      refine nilCs_sound (h.set hv ?_)
      cases hr with
      | d hr => cases hr with
        | nil => exact .d .nil
        | sl _ h0 => exact absurd h0 (by decide)
    · exact nilCs_sound h
theorem nilT_sound {L : Nat → Option Lay} {w : World} {M : CM} {β : Bt} {D : Nat → Prop} {t : TypeId} {x : TV} {v : Value} (h : VT w M β D x v) : VT w M β D (nilT L t x) v := by
  unfold nilT
  split
  · split
    · split
      · have h : VL w M β D (.d (.sl .tu _)) v := h
        cases h with
        | d h => cases h with
          | nil => exact VL.d .nil
          | sl _ h0 => exact absurd h0 (by decide)
      · exact h
    · exact h
  · split
    · obtain ⟨arr, e, h⟩ := h
      exact ⟨arr, e, nilCs_sound h⟩
    · exact h
  · exact h
theorem nilTs_sound {L : Nat → Option Lay} {w : World} {M : CM} {β : Bt} {D : Nat → Prop} : ∀ {ts : List TypeId} {xs : List TV} {vs : List Value}, All2 (VT w M β D) xs vs → All2 (VT w M β D) (nilTs L ts xs) vs
  | _ :: _, _ :: _, _, .cons h r => .cons (nilT_sound h) (nilTs_sound r)
  | [], _, _, h => h
  | _ :: _, [], _, h => h

/-! operands -/
section
variable {X : Cx} {β : Bt} {σ : St} {a : Act} {w : World} {G : List (Nat × Bool)}
def GOk (a : Act) (G : List (Nat × Bool)) : Prop := ∀ t b, has G t b = true → a.tmps.getD t undef = .bool b

theorem constV_sound {v : Value} {x : AV} (h : constV v = some x) : VA w (Mt β (look σ.h)) β (dm (look σ.h)) x v := by
  unfold constV at h
  split at h
  · cases h
  · cases h
  · obtain rfl := Option.some.inj h; exact .d .nil
  · rename_i h1 h2 h3
    obtain rfl := Option.some.inj h
    refine .d (.lit ?_)
    cases v <;> first | rfl | (exact absurd rfl (h1 _)) | (exact absurd rfl (h2 _))

theorem opd_sound (R : Rel X β σ a w) (hG : GOk a G) {o : Operand} {x : AV} (h : opd G σ o = some x) : VA w (Mt β (look σ.h)) β (dm (look σ.h)) x (a.eval o) := by
  cases o with
  | tmp t =>
    simp only [opd] at h
    cases hg : look σ.g t with
    | none => rw [hg] at h; exact (R.sl _ _ h).2
    | some e =>
      obtain ⟨g, b, y⟩ := e
      rw [hg] at h
      simp only at h
      split at h
      · rename_i hh
        obtain rfl := Option.some.inj h
        rcases (R.gd _ _ _ _ hg).2 with h1 | h1
        · exact h1.2
        · exact absurd (hG _ _ hh) h1.1
      · cases h
  | const v => exact constV_sound h
  | func f => obtain rfl := Option.some.inj h; exact VL.clo (vf := []) (vc := []) .nil .nil
  | _ => cases h

theorem opT_sound (R : Rel X β σ a w) (hG : GOk a G) {o : Operand} {x : TV} (h : opT G σ o = some x) : VT w (Mt β (look σ.h)) β (dm (look σ.h)) x (a.eval o) := by
  unfold opT at h
  split at h
  · rename_i y hy
    obtain rfl := Option.some.inj h
    exact opd_sound R hG hy
  · cases h

theorem opS_sound (R : Rel X β σ a w) (hG : GOk a G) {o : Operand} {x : TV} (h : opS G σ o = some x) : VT w (Mt β (look σ.h)) β (dm (look σ.h)) x (a.eval o) := by
  unfold opS at h
  split at h
  · rename_i y hy
    obtain rfl := Option.some.inj h
    exact TV.st_sound (opT_sound R hG hy)
  · cases h

theorem mapT_sound (R : Rel X β σ a w) (hG : GOk a G) : ∀ {os : List Operand} {xs : List TV}, mapT (opT G σ) os = some xs → All2 (VT w (Mt β (look σ.h)) β (dm (look σ.h))) xs (os.map a.eval)
  | [], xs, h => by obtain rfl := Option.some.inj h; exact .nil
  | o :: r, xs, h => by
    simp only [mapT] at h
    split at h
    · rename_i x hx
      split at h
      · rename_i ys hys
        obtain rfl := Option.some.inj h
        exact .cons (opT_sound R hG hx) (mapT_sound R hG hys)
      · cases h
    · cases h
end
end Go.Sy
