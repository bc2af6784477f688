/- A verified generator of conditions for this program, and its soundness: part O of the proof. -/
import Derived.Test.YtdkggjgmlccjcaaSyN
import Derived.OrdersIn
namespace Go.Sy
variable {P : Program} {L : Nat → Option Lay} {Γ : Nat → Option Con} {F : Fence} {n : Nat}

/-! regions that draw their order: what an operation looks at and what it turns -/
structure Foot where
  rs : List Nat
  hr : Option (List Nat)
  hw : List Nat
  d : Option Nat

def tmpsOf : List Operand → List Nat
  | [] => []
  | .tmp t :: r => t :: tmpsOf r
  | _ :: r => tmpsOf r
def fsts : List (Nat × HO) → List Nat
  | [] => []
  | (a, _) :: r => a :: fsts r
def gslots : List (Nat × Bool) → List Nat
  | [] => []
  | (a, _) :: r => a :: gslots r

def hrO (Pu : Nat → Bool) (G : List (Nat × Bool)) (σ : St) (o : Oper) : Option (List Nat) :=
  match o.op with
  | .load _ p => match opT G σ p with
    | some (.one (.ptr n _)) => some [n]
    | _ => some []
  | .store _ p _ => match opT G σ p with
    | some (.one (.ptr n _)) => some [n]
    | _ => some []
  | .alloc _ => match o.dst with | some d => some [d, rm d] | none => some []
  | .move _ => match o.dst with | some d => some [rm d] | none => some []
  | .assign _ => match o.dst with | some d => some [rm d] | none => some []
  | .buildSlice _ _ _ => match o.dst with | some d => some [rm d] | none => some []
  | .call { callee := .builtin .append, args, .. } => match args.toList with
    | s :: _ => match opT G σ s with
      | some (.one (.own n _)) => some [n]
      | _ => match o.dst with | some d => some [rm d] | none => some []
    | [] => some []
  | .call { callee := .builtin .len, args, .. } => match mapT (opT G σ) args.toList with
    | some [.one (.mp n)] => some [n]
    | _ => some []
  | .call { callee := .builtin _, .. } => some []
  | .makeMap _ _ => match o.dst with | some d => some [md d] | none => some []
  | .lookup _ m _ _ => match opT G σ m with
    | some (.one (.mp n)) => some [n]
    | _ => some []
  | .mapUpdate _ m _ _ => match opT G σ m with
    | some (.one (.mp n)) => some [n]
    | _ => some []
  | .box _ _ => match o.dst with | some d => some [d] | none => some []
  | .call { callee := .value f, .. } => match opT G σ f with
    | some (.one (.clo fid _ _)) => if Pu fid then some [] else none
    | some (.one (.yl n)) => some [n]
    | _ => none
  | _ => some []

def opN : Option Nat → List Nat
  | some n => [n]
  | none => []
def roomN (L : Nat → Option Lay) (t : TypeId) : Option Nat → List Nat
  | some d => d :: (match L t with | some y => y.cv.map (fun q => rm2 d q.1) | none => [])
  | none => []
/-- the same, of slices whose elements may be written -/
def hrV (L : Nat → Option Lay) (Pu : Nat → Bool) (G : List (Nat × Bool)) (σ : St) (o : Oper) : Option (List Nat) :=
  match o.op with
  | .move _ | .assign _ => some (opN (o.dst.map rm))
  | .alloc t => some (roomN L t o.dst)
  | .buildSlice _ _ _ => some (opN (o.dst.map rm))
  | .load _ p => some (opN (isVp (opT G σ p)))
  | .store _ p _ => some (opN (isVp (opT G σ p)))
  | .fieldAddr _ p _ => some (opN (isVp (opT G σ p)))
  | .indexAddr _ x _ => some (opN (isVr (opT G σ x)))
  | .slice _ x _ _ _ => some (opN (isVr (opT G σ x)))
  | .call { callee := .builtin .append, args, .. } => match args.toList with
    | s :: _ => some (opN (isVr (opT G σ s)) ++ opN (o.dst.map rm))
    | [] => some []
  | .call { callee := .builtin .len, .. } => some []
  | .call { callee := .value f, args, .. } => match opT G σ f with
    | some (.one (.clo fid _ _)) => if Pu fid then some (someV (mapT (opT G σ) args.toList)) else none
    | _ => none
  | _ => some []
def heapReads (L : Nat → Option Lay) (Pu : Nat → Bool) (G : List (Nat × Bool)) (σ : St) (o : Oper) : Option (List Nat) :=
  match isV L G σ o with
  | true => hrV L Pu G σ o
  | false => hrO Pu G σ o

/-- what is turned under a guard is read, too -/
def withW (G : List (Nat × Bool)) (w : List Nat) (l : Option (List Nat)) : Option (List Nat) :=
  match G, l with
  | [], l => l
  | _, none => none
  | _, some l => some (w ++ l)
def footOf (L : Nat → Option Lay) (Γ : Nat → Option Con) (Pu : Nat → Bool) (ops : List Oper) (o : Oper) (σ : St) : Option Foot :=
  match aopG L Γ (chain ops 10 o.guard) σ o with
  | some r => some { rs := tmpsOf o.op.operands.toList ++ gslots (chain ops 10 o.guard), hr := withW (chain ops 10 o.guard) (fsts r.h) (heapReads L Pu (chain ops 10 o.guard) σ o), hw := fsts r.h, d := o.dst }
  | none => none

def disj (a : List Nat) (b : Option (List Nat)) : Bool :=
  match a with
  | [] => true
  | x :: r => (match b with | none => false | some l => !mem l x) && disj r b
def dIn (d : Option Nat) (l : List Nat) : Bool := match d with | some x => mem l x | none => false
def dNe (a b : Option Nat) : Bool := match a, b with | some x, some y => x != y | _, _ => true
/-- apart: neither sees what the other one turns -/
def apartF (f g : Foot) : Bool :=
  dNe f.d g.d && (!dIn f.d g.rs && (!dIn g.d f.rs && (disj f.hw g.hr && (disj g.hw f.hr && disj f.hw (some g.hw)))))

/-- all that has to come ahead of an operation -/
def depsOf (acc : List (List Nat)) (o : Oper) : List Nat :=
  go acc (o.after.toList.filter (Region.binds .any ·))
where go (acc : List (List Nat)) : List Edge → List Nat
  | [] => []
  | e :: r => (e.on :: acc.getD e.on []) ++ go acc r
def backOk (i : Nat) (o : Oper) : Bool := (o.after.toList.filter (Region.binds .any ·)).all fun e => decide (e.on < i)

/-- the run in the text's order; each operation held against those ahead of it -/
def drawGo (L : Nat → Option Lay) (Γ : Nat → Option Con) (Pu : Nat → Bool) (N : Nat) (ops : List Oper) : List Oper → Nat → List (List Nat) → List (Nat × Foot) → St → Bool
  | [], _, _, _, _ => true
  | o :: r, i, acc, seen, σ => match footOf L Γ Pu ops o σ, astep L Γ N ops o σ with
    | some f, some (_, σ') =>
      let ds := depsOf acc o
      backOk i o && (seen.all (fun q => mem ds q.1 || apartF q.2 f) && drawGo L Γ Pu N ops r (i + 1) (acc ++ [ds]) (seen ++ [(i, f)]) σ')
    | _, _ => false
def draws (L : Nat → Option Lay) (Γ : Nat → Option Con) (Pu : Nat → Bool) (N : Nat) (ops : List Oper) (σ : St) : Bool := drawGo L Γ Pu N ops ops 0 [] [] σ

def PuOk (Γ : Nat → Option Con) (Pu : Nat → Bool) : Prop := ∀ f con, Pu f = true → Γ f = some con → ∀ args hp hp' fr, con args hp fr = con args hp' fr

/-! an operation sees no more than its foot -/
structure Ag (rs : List Nat) (hr : Option (List Nat)) (σ τ : St) : Prop where
  s : ∀ t, t ∈ rs → look σ.s t = look τ.s t
  g : ∀ t, t ∈ rs → look σ.g t = look τ.g t
  h : ∀ n, (∀ l, hr = some l → n ∈ l) → look σ.h n = look τ.h n

section
variable {σ τ : St} {G : List (Nat × Bool)} {rs : List Nat}
theorem mem_tmpsOf {t : Nat} : ∀ {l : List Operand}, Operand.tmp t ∈ l → t ∈ tmpsOf l
  | .tmp u :: r, h => by
    rcases List.mem_cons.1 h with e | h
    · injection e with e; subst e; exact List.mem_cons_self ..
    · exact List.mem_cons_of_mem _ (mem_tmpsOf h)
  | .const _ :: r, h => by rcases List.mem_cons.1 h with e | h; cases e; exact mem_tmpsOf (l := r) h
  | .global _ :: r, h => by rcases List.mem_cons.1 h with e | h; cases e; exact mem_tmpsOf (l := r) h
  | .func _ :: r, h => by rcases List.mem_cons.1 h with e | h; cases e; exact mem_tmpsOf (l := r) h

theorem opd_local (hs : ∀ t, t ∈ rs → look σ.s t = look τ.s t) (hg : ∀ t, t ∈ rs → look σ.g t = look τ.g t) {o : Operand} (ho : ∀ t, o = .tmp t → t ∈ rs) : opd G σ o = opd G τ o := by
  cases o with
  | tmp t => simp only [opd]; rw [hg t (ho t rfl), hs t (ho t rfl)]
  | const => rfl
  | func => rfl
  | _ => rfl
theorem opT_local (hs : ∀ t, t ∈ rs → look σ.s t = look τ.s t) (hg : ∀ t, t ∈ rs → look σ.g t = look τ.g t) {o : Operand} (ho : ∀ t, o = .tmp t → t ∈ rs) : opT G σ o = opT G τ o := by
  unfold opT; rw [opd_local hs hg ho]
theorem mapT_local (hs : ∀ t, t ∈ rs → look σ.s t = look τ.s t) (hg : ∀ t, t ∈ rs → look σ.g t = look τ.g t) : ∀ {os : List Operand}, (∀ t, Operand.tmp t ∈ os → t ∈ rs) → mapT (opT G σ) os = mapT (opT G τ) os
  | [], _ => rfl
  | o :: r, h => by
    simp only [mapT]
    rw [opT_local hs hg (fun t e => h t (by rw [e]; exact List.mem_cons_self ..)), mapT_local hs hg (fun t ht => h t (List.mem_cons_of_mem _ ht))]
theorem mapP_local (hs : ∀ t, t ∈ rs → look σ.s t = look τ.s t) (hg : ∀ t, t ∈ rs → look σ.g t = look τ.g t) : ∀ {os : List (Nat × Operand)}, (∀ t, Operand.tmp t ∈ os.map (·.2) → t ∈ rs) → mapP (opT G σ) os = mapP (opT G τ) os
  | [], _ => rfl
  | (i, o) :: r, h => by
    simp only [mapP]
    rw [opT_local hs hg (fun t e => h t (by rw [e]; exact List.mem_cons_self ..)), mapP_local hs hg (fun t ht => h t (List.mem_cons_of_mem _ ht))]

theorem rmFree_local {dst : Option Tmp} (h : ∀ d, dst = some d → look σ.h (rm d) = look τ.h (rm d)) : rmFree σ dst = rmFree τ dst := by
  unfold rmFree
  cases dst with
  | none => rfl
  | some d => simp only [h d rfl]
theorem aNil_local {t : TypeId} {x : Operand} {dst : Option Tmp} (h : ∀ d, dst = some d → look σ.h (rm d) = look τ.h (rm d)) : aNil L σ t x dst = aNil L τ t x dst := by
  unfold aNil
  rw [rmFree_local h]
theorem appendA_local {hp hp' : Nat → Option HO} {ts : List TypeId} {dst : Option Nat} {s x : TV} (h1 : ∀ n y, s = .one (.own n y) → hp n = hp' n) (h2 : (∀ n y, s ≠ .one (.own n y)) → ∀ d, dst = some d → hp (rm d) = hp' (rm d)) :
    appendA L hp ts dst s x = appendA L hp' ts dst s x := by
  unfold appendA
  split
  · split
    · split
      · split
        · split
          · rw [h1 _ _ rfl]
          · rename_i s' _
            split
            · rw [h2 (fun n y e => by cases e) _ rfl]
            · rfl
          · rfl
        · rfl
      · rfl
    · rfl
  · rfl

theorem bnd_local {d : Int} {y : Option Operand} (h : ∀ z, y = some z → opT G σ z = opT G τ z) : bnd G σ d y = bnd G τ d y := by
  cases y with
  | none => rfl
  | some z => simp only [bnd, h z rfl]

theorem aop0_local {Pu : Nat → Bool} (hPu : PuOk Γ Pu) {o : Oper} {r : Res} (h : aop0 L Γ G σ o = some r) (ha : Ag (tmpsOf o.op.operands.toList ++ rs) (hrO Pu G σ o) σ τ) :
    aop0 L Γ G τ o = some r ∧ hrO Pu G τ o = hrO Pu G σ o := by
  have hin : ∀ t, Operand.tmp t ∈ o.op.operands.toList → t ∈ tmpsOf o.op.operands.toList ++ rs := fun t ht => List.mem_append_left _ (mem_tmpsOf ht)
  have e1 : ∀ (G : List (Nat × Bool)) (x : Operand), x ∈ o.op.operands.toList → opd G σ x = opd G τ x := fun G x hx => opd_local ha.s ha.g fun t e => hin t (e ▸ hx)
  have e2 : ∀ (G : List (Nat × Bool)) (x : Operand), x ∈ o.op.operands.toList → opT G σ x = opT G τ x := fun G x hx => opT_local ha.s ha.g fun t e => hin t (e ▸ hx)
  have e3 : ∀ (xs : List Operand), (∀ x ∈ xs, x ∈ o.op.operands.toList) → mapT (opT G σ) xs = mapT (opT G τ) xs := fun xs hx => mapT_local ha.s ha.g fun t ht => hin t (hx _ ht)
  have e4 : ∀ (xs : List (Nat × Operand)), (∀ x ∈ xs.map (·.2), x ∈ o.op.operands.toList) → mapP (opT G σ) xs = mapP (opT G τ) xs := fun xs hx => mapP_local ha.s ha.g fun t ht => hin t (hx _ ht)
  have hh := ha.h
  clear ha hin
  unfold aop0 at h ⊢
  unfold hrO at hh ⊢
  cases ho : o.op <;> simp only [ho] at h hh ⊢ <;> simp only [ho, Op.operands, Call.operands] at e1 e2 e3 e4
  all_goals first | (cases h; done) | skip
  case move x =>
    rw [← aNil_local (σ := σ) (τ := τ) (fun d hd => by rw [hd] at hh; exact hh _ (fun l hl => by injection hl with hl; rw [← hl]; simp)), ← e1 G x (by simp)]; exact ⟨h, by first | rfl | trivial⟩
  case assign x =>
    rw [← aNil_local (σ := σ) (τ := τ) (fun d hd => by rw [hd] at hh; exact hh _ (fun l hl => by injection hl with hl; rw [← hl]; simp)), ← e1 G x (by simp)]; exact ⟨h, by first | rfl | trivial⟩
  case pick c x y =>
    cases c with
    | tmp tc => simp only [aPick] at h ⊢; rw [← e2 G (.tmp tc) (by simp), ← e2 _ x (by simp), ← e2 _ y (by simp)]; exact ⟨h, by first | rfl | trivial⟩
    | const => cases h
    | func => cases h
    | _ => cases h
  case alloc t =>
    simp only [aAlloc] at h ⊢
    cases hd : o.dst with
    | none => rw [hd] at h; split at h <;> first | cases h | (rename_i hx; cases hx)
    | some d =>
      rw [hd] at h hh
      have hx := hh d (fun l hl => by injection hl with hl; rw [← hl]; simp)
      have hx2 := hh (rm d) (fun l hl => by injection hl with hl; rw [← hl]; simp)
      have hx2 := rmFree_local (σ := σ) (τ := τ) (dst := some d) fun d' hd' => by injection hd' with hd'; rw [← hd']; exact hx2
      cases hLt : L t with
      | none => rw [hLt] at h; cases h
      | some y => rw [hLt] at h; simp only at h ⊢; rw [← hx, ← hx2]; exact ⟨h, by first | rfl | trivial⟩
  case box t x =>
    simp only [aBox] at h ⊢
    rw [← e2 G x (by simp)]
    cases hd : o.dst with
    | none => rw [hd] at h; split at h <;> first | cases h | (rename_i hx; cases hx)
    | some d =>
      rw [hd] at h hh
      have hx := hh d (fun l hl => by injection hl with hl; rw [← hl]; simp)
      cases hLt : opT G σ x with
      | none => rw [hLt] at h; cases h
      | some y => rw [hLt] at h; simp only at h ⊢; rw [← hx]; exact ⟨h, by first | rfl | trivial⟩
  case build t parts =>
    simp only [aBuild] at h ⊢
    rw [← e4 parts.toList (fun x hx => by simpa using hx)]; exact ⟨h, by first | rfl | trivial⟩
  case buildSlice t len parts =>
    simp only [aRows] at h ⊢
    rw [← e4 parts.toList (fun x hx => by simpa using hx)]
    rw [← rmFree_local (σ := σ) (τ := τ) (fun d hd => by rw [hd] at hh; exact hh _ (fun l hl => by injection hl with hl; rw [← hl]; simp))]
    exact ⟨h, by first | rfl | trivial⟩
  case load t p =>
    simp only [aLoad] at h ⊢
    rw [← e2 G p (by simp)]
    refine ⟨?_, by first | rfl | trivial⟩
    split at h
    · rename_i y q hy hq
      rw [hq] at hh
      have : loadFrom σ y q = loadFrom τ y q := by
        unfold loadFrom
        split
        · rename_i m off
          rw [hh m (fun l hl => by injection hl with hl; rw [← hl]; simp)]
        · rfl
        · rfl
      rw [← this]
      exact h
    · cases h
  case store t p x =>
    simp only [aStore] at h ⊢
    rw [← e2 G p (by simp), ← e2 G x (by simp)]
    refine ⟨?_, by first | rfl | trivial⟩
    split at h
    · rename_i y m off v hy hp hx
      rw [hp] at hh
      rw [← hh m (fun l hl => by injection hl with hl; rw [← hl]; simp)]
      exact h
    · cases h
  case binOp op t x y t' =>
    simp only [aBinW, aBin, aBinB, aBinAgg] at h ⊢
    rw [← e2 G x (by simp), ← e2 G y (by simp)]; exact ⟨h, by first | rfl | trivial⟩
  case unOp op t x => simp only [aUn] at h ⊢; rw [← e2 G x (by simp)]; exact ⟨h, by first | rfl | trivial⟩
  case convert s t x => simp only [aConv] at h ⊢; rw [← e2 G x (by simp)]; exact ⟨h, by first | rfl | trivial⟩
  case makeFunc f a b =>
    cases f with
    | func f =>
      simp only [aFunc] at h ⊢
      rw [← e3 a.toList (fun x hx => by simp at hx ⊢; exact .inl hx), ← e3 b.toList (fun x hx => by simp at hx ⊢; exact .inr hx)]
      exact ⟨h, by first | rfl | trivial⟩
    | method => cases h
    | methodOf => cases h
    | via => cases h
    | yield => cases h
  case fieldAddr t p i => simp only [aField] at h ⊢; rw [← e2 G p (by simp)]; exact ⟨h, by first | rfl | trivial⟩
  case indexAddr t x i => simp only [aIndex, opS] at h ⊢; rw [← e2 G x (by simp), ← e2 G i (by simp)]; exact ⟨h, by first | rfl | trivial⟩
  case slice t x lo hi mx =>
    have hlo : ∀ d, bnd G τ d lo = bnd G σ d lo := fun d => (bnd_local fun z hz => e2 G z (by simp [hz])).symm
    have hhi : ∀ d, bnd G τ d hi = bnd G σ d hi := fun d => (bnd_local fun z hz => e2 G z (by simp [hz])).symm
    simp only [aSlice, opS] at h ⊢
    rw [← e2 G x (by simp)]
    simp only [hlo, hhi]
    exact ⟨h, by first | rfl | trivial⟩
  case extract t i => simp only [aExtract] at h ⊢; rw [← e1 G t (by simp)]; exact ⟨h, by first | rfl | trivial⟩
  case makeMap t x =>
    cases x with
    | some _ => cases h
    | none =>
      simp only [aMake] at h ⊢
      cases hd : o.dst with
      | none => rw [hd] at h; split at h <;> first | cases h | (rename_i hx; cases hx)
      | some d =>
        rw [hd] at h hh
        cases hLt : L t with
        | none => rw [hLt] at h; cases h
        | some y => rw [hLt] at h; simp only at h ⊢; rw [← hh (md d) (fun l hl => by injection hl with hl; rw [← hl]; simp)]; exact ⟨h, by first | rfl | trivial⟩
  case lookup t m k ok =>
    simp only [aLook, opS] at h ⊢
    rw [← e2 G m (by simp), ← e2 G k (by simp)]
    refine ⟨?_, by first | rfl | trivial⟩
    split at h
    · rename_i y n kx hy hm hk
      rw [hm] at hh
      simp only [mapAt] at h ⊢
      rw [← hh n (fun l hl => by injection hl with hl; rw [← hl]; simp)]
      exact h
    · cases h
  case mapUpdate t m k x =>
    simp only [aUpd, opS] at h ⊢
    rw [← e2 G m (by simp), ← e2 G k (by simp), ← e2 G x (by simp)]
    refine ⟨?_, by first | rfl | trivial⟩
    split at h
    · rename_i y n kx xx hy hm hk hxx
      rw [hm] at hh
      simp only [mapAt] at h ⊢
      rw [← hh n (fun l hl => by injection hl with hl; rw [← hl]; simp)]
      exact h
    · cases h
  case call c =>
    obtain ⟨callee, args, ts⟩ := c
    cases callee with
    | value f =>
      simp only at e2 e3
      have hop := e2 G f (by simp)
      have har := e3 args.toList (fun x hx => by simp at hx ⊢; exact .inr hx)
      simp only at h hh ⊢
      refine ⟨?_, by rw [← hop]⟩
      cases hy : aYield G σ f args.toList with
      | some r' =>
        rw [hy] at h
        have : aYield G τ f args.toList = aYield G σ f args.toList := by
          unfold aYield at hy ⊢
          rw [← hop, ← har]
          split at hy
          · rename_i m hm
            rw [hm] at hh
            rw [hh m (fun l hl => by injection hl with hl; rw [← hl]; simp)]
          · cases hy
        rw [this, hy]
        exact h
      | none =>
        rw [hy] at h
        have hyn : aYield G τ f args.toList = none := by
          simp only [aCall] at h
          split at h
          · rename_i xs fid fi ca hxs hf
            unfold aYield
            rw [← hop, hf]
          · cases h
        rw [hyn]
        simp only [aCall] at h ⊢
        rw [← har, ← hop]
        split at h
        · rename_i xs fid fi ca hxs hf
          rw [hf] at hh
          simp only at hh
          split at h
          · rename_i con hcon
            by_cases hpu : Pu fid = true
            · have := hPu fid con hpu hcon
              rw [this _ (look τ.h) (look σ.h)]
              exact h
            · rw [if_neg hpu] at hh
              have : look σ.h = look τ.h := by funext m; exact hh m (fun l hl => by cases hl)
              rw [← this]
              exact h
          · cases h
        · cases h
    | builtin b =>
      simp only [aBuiltin] at h ⊢
      simp only at e3 e2
      rw [← e3 args.toList (fun x hx => by simpa using hx)]
      refine ⟨?_, ?_⟩
      · split at h
        · rename_i xs hxs
          split at h
          · split at h
            · rename_i s x
              rw [← h]
              refine (appendA_local (fun n y hs => ?_) fun hs d hd => ?_).symm
              · subst hs
                match hl : args.toList, hxs with
                | p :: r, hxs =>
                  simp only [mapT] at hxs
                  split at hxs
                  · rename_i u hu
                    split at hxs
                    · injection hxs with hxs; injection hxs with h1 h2
                      subst h1
                      refine hh n fun l hl' => ?_
                      simp only [hl, hu] at hl'
                      injection hl' with hl'; rw [← hl']; simp
                    · cases hxs
                  · cases hxs
              · match hl : args.toList, hxs with
                | p :: r, hxs =>
                  simp only [mapT] at hxs
                  split at hxs
                  · rename_i u hu
                    split at hxs
                    · injection hxs with hxs; injection hxs with h1 h2
                      subst h1
                      refine hh (rm d) fun l hl' => ?_
                      simp only [hl, hu] at hl'
                      split at hl'
                      · rename_i n y heq
                        injection heq with heq
                        exact absurd heq (hs n y)
                      · simp only [hd] at hl'
                        injection hl' with hl'; rw [← hl']; simp
                    · cases hxs
                  · cases hxs
            · cases h
          · split at h
            · rename_i n
              simp only [hxs] at hh
              have hn := hh n (fun l hl => by injection hl with hl; rw [← hl]; simp)
              rw [← h]
              simp only [mapLen, hn]
            · exact h
          · exact h
        · cases h
      · cases b <;> first | rfl | skip
        · simp only
          cases hl : args.toList with
          | nil => rfl
          | cons p r => simp only [e2 G p (by have : p ∈ args.toList := by rw [hl]; simp
                                              simpa using this)]
        · simp only
          rw [← e3 args.toList (fun x hx => by simpa using hx)]
    | invoke => cases h

theorem rooms_congr {hp hp' : Nat → Option HO} {d : Nat} : ∀ {cv : List (Nat × (Ty × (Nat × Bool)))} {cs : List LV}, (∀ q ∈ cv, hp (rm2 d q.1) = hp' (rm2 d q.1)) → rooms hp d cv cs = rooms hp' d cv cs
  | [], _, _ => rfl
  | (j, (τ, (e, vec))) :: r, cs, h => by
    unfold rooms
    rw [← h (j, (τ, (e, vec))) (by simp)]
    have ih : ∀ cs, rooms hp d r cs = rooms hp' d r cs := fun cs => rooms_congr fun q hq => h q (List.mem_cons_of_mem _ hq)
    simp only [ih]
theorem look_upds_eq {es h h' : List (Nat × HO)} {n : Nat} (e : look h n = look h' n) : look (upds es h) n = look (upds es h') n := by rw [look_upds, look_upds, e]
theorem frzL_congr {h h' : List (Nat × HO)} {x : LV} (e : ∀ n ∈ vrL x, look h n = look h' n) : frzL h x = frzL h' x := by
  cases x <;> try rfl
  simp only [frzL]
  rw [e _ (by simp [vrL])]
theorem frzLs_congr : ∀ {xs : List LV} {h h' : List (Nat × HO)}, (∀ n ∈ vrLs xs, look h n = look h' n) → frzLs h xs = frzLs h' xs
  | [], _, _, _ => rfl
  | x :: r, h, h', e => by
    simp only [frzLs]
    rw [frzL_congr (h := h) (h' := h') fun n hn => e n (by simp only [vrLs, List.mem_append]; exact .inl hn)]
    rw [frzLs_congr (h := upds (frzL h' x).2.2 h) (h' := upds (frzL h' x).2.2 h') fun n hn => look_upds_eq (e n (by simp only [vrLs, List.mem_append]; exact .inr hn))]
theorem frzT_congr {h h' : List (Nat × HO)} {x : TV} (e : ∀ n ∈ vrT x, look h n = look h' n) : frzT h x = frzT h' x := by
  cases x with
  | one x => simp only [frzT]; rw [frzL_congr e]
  | agg xs => simp only [frzT]; rw [frzLs_congr e]
theorem frzTs_congr : ∀ {xs : List TV} {h h' : List (Nat × HO)}, (∀ n ∈ vrTs xs, look h n = look h' n) → frzTs h xs = frzTs h' xs
  | [], _, _, _ => rfl
  | x :: r, h, h', e => by
    simp only [frzTs]
    rw [frzT_congr (h := h) (h' := h') fun n hn => e n (by simp only [vrTs, List.mem_append]; exact .inl hn)]
    rw [frzTs_congr (h := upds (frzT h' x).2.2 h) (h' := upds (frzT h' x).2.2 h') fun n hn => look_upds_eq (e n (by simp only [vrTs, List.mem_append]; exact .inr hn))]
theorem vrL_st (x : LV) : vrL x.st = vrL x := by cases x <;> rfl
theorem vrLs_st : ∀ (xs : List LV), vrLs (stL xs) = vrLs xs
  | [] => rfl
  | x :: r => by simp only [stL, vrLs, vrL_st, vrLs_st r]
theorem vrT_st (x : TV) : vrT x.st = vrT x := by
  cases x with
  | one x => exact vrL_st x
  | agg xs => exact vrLs_st xs
theorem vrTs_st : ∀ (xs : List TV), vrTs (stT xs) = vrTs xs
  | [] => rfl
  | x :: r => by simp only [stT, vrTs, vrT_st, vrTs_st r]
theorem vrLs_set : ∀ {xs : List LV} {j : Nat} {x : LV} {n : Nat}, n ∈ vrLs (xs.set j x) → n ∈ vrL x ∨ n ∈ vrLs xs
  | [], j, x, n, h => by simp [vrLs] at h
  | y :: r, 0, x, n, h => by
    simp only [List.set_cons_zero, vrLs, List.mem_append] at h ⊢
    exact h.imp id .inr
  | y :: r, j + 1, x, n, h => by
    simp only [List.set_cons_succ, vrLs, List.mem_append] at h ⊢
    rcases h with h | h
    · exact .inr (.inl h)
    · exact (vrLs_set h).imp id .inr
theorem vrLs_nilCs : ∀ (cz : List (Nat × Ty)) (xs : List LV), ∀ n ∈ vrLs (nilCs cz xs), n ∈ vrLs xs
  | [], _, _, h => h
  | (j, τ) :: r, xs, n, h => by
    unfold nilCs at h
    split at h
    · have := vrLs_nilCs r _ n h
      rcases vrLs_set this with h | h
      · simp [vrL] at h
      · exact h
    · exact vrLs_nilCs r _ n h
theorem vrT_nil (t : TypeId) (x : TV) : ∀ n ∈ vrT (nilT L t x), n ∈ vrT x := by
  intro n hn
  unfold nilT at hn
  split at hn
  · split at hn
    · split at hn
      · simp [vrT, vrL] at hn
      · exact hn
    · exact hn
  · split at hn
    · exact vrLs_nilCs _ _ n hn
    · exact hn
  · exact hn
theorem vrTs_nil : ∀ (ts : List TypeId) (xs : List TV), ∀ n ∈ vrTs (nilTs L ts xs), n ∈ vrTs xs
  | t :: ts, x :: xs, n, hn => by
    simp only [nilTs, vrTs, List.mem_append] at hn ⊢
    exact hn.imp (vrT_nil t x n) (vrTs_nil ts xs n)
  | [], _, n, hn => by simpa [nilTs] using hn
  | _ :: _, [], n, hn => by simpa [nilTs] using hn

theorem isV_local {o : Oper} (e2 : ∀ (x : Operand), x ∈ o.op.operands.toList → opT G σ x = opT G τ x) (e3 : ∀ (xs : List Operand), (∀ x ∈ xs, x ∈ o.op.operands.toList) → mapT (opT G σ) xs = mapT (opT G τ) xs) : isV L G τ o = isV L G σ o := by
  unfold isV
  cases ho : o.op <;> simp only [ho, Op.operands, Call.operands] at e2 e3 ⊢
  case load => rw [← e2 _ (by simp)]
  case store => rw [← e2 _ (by simp)]
  case fieldAddr => rw [← e2 _ (by simp)]
  case indexAddr => rw [← e2 _ (by simp)]
  case slice => rw [← e2 _ (by simp)]
  case call c =>
    obtain ⟨callee, args, ts⟩ := c
    cases callee with
    | value f =>
      simp only at e2 e3 ⊢
      rw [← e2 f (by simp), ← e3 args.toList (fun x hx => by simp at hx ⊢; exact .inr hx)]
    | builtin b =>
      simp only at e2 e3
      cases b <;> try rfl
      · simp only
        split
        · rename_i s r t q hl hq
          rw [← e2 s (by have : s ∈ args.toList := by rw [hl]; simp
                         simpa using this)]
        · rfl
      · simp only
        split
        · rename_i s hl
          rw [← e2 s (by have : s ∈ args.toList := by rw [hl]; simp
                         simpa using this)]
        · rfl
    | invoke => rfl

theorem aopV_local {Pu : Nat → Bool} (hPu : PuOk Γ Pu) {o : Oper} {r : Res} (h : aopV L Γ G σ o = some r) (ha : Ag (tmpsOf o.op.operands.toList ++ rs) (hrV L Pu G σ o) σ τ) :
    aopV L Γ G τ o = some r ∧ hrV L Pu G τ o = hrV L Pu G σ o := by
  have hin : ∀ t, Operand.tmp t ∈ o.op.operands.toList → t ∈ tmpsOf o.op.operands.toList ++ rs := fun t ht => List.mem_append_left _ (mem_tmpsOf ht)
  have e1 : ∀ (x : Operand), x ∈ o.op.operands.toList → opd G σ x = opd G τ x := fun x hx => opd_local ha.s ha.g fun t e => hin t (e ▸ hx)
  have e2 : ∀ (x : Operand), x ∈ o.op.operands.toList → opT G σ x = opT G τ x := fun x hx => opT_local ha.s ha.g fun t e => hin t (e ▸ hx)
  have e3 : ∀ (xs : List Operand), (∀ x ∈ xs, x ∈ o.op.operands.toList) → mapT (opT G σ) xs = mapT (opT G τ) xs := fun xs hx => mapT_local ha.s ha.g fun t ht => hin t (hx _ ht)
  have e4 : ∀ (xs : List (Nat × Operand)), (∀ x ∈ xs.map (·.2), x ∈ o.op.operands.toList) → mapP (opT G σ) xs = mapP (opT G τ) xs := fun xs hx => mapP_local ha.s ha.g fun t ht => hin t (hx _ ht)
  have hh := ha.h
  clear ha hin
  unfold aopV at h ⊢
  unfold hrV at hh ⊢
  have rml : ∀ l : List Nat, (∀ d, o.dst = some d → rm d ∈ l) → (∀ n, n ∈ l → look σ.h n = look τ.h n) → rmFree τ o.dst = rmFree σ o.dst := fun l h1 h2 => (rmFree_local fun d hd => h2 _ (h1 d hd)).symm
  cases ho : o.op <;> simp only [ho] at h hh ⊢ <;> simp only [ho, Op.operands, Call.operands] at e1 e2 e3 e4
  all_goals first | (cases h; done) | skip
  case move x =>
    refine ⟨?_, trivial⟩
    unfold vNil at h ⊢
    rw [rml (opN (o.dst.map rm)) (fun d hd => by rw [hd]; simp [opN]) (fun n hn => hh n fun l hl => by injection hl with hl; rw [← hl]; exact hn)]
    exact h
  case assign x =>
    refine ⟨?_, trivial⟩
    unfold vNil at h ⊢
    rw [rml (opN (o.dst.map rm)) (fun d hd => by rw [hd]; simp [opN]) (fun n hn => hh n fun l hl => by injection hl with hl; rw [← hl]; exact hn)]
    exact h
  case alloc t =>
    refine ⟨?_, trivial⟩
    unfold vAlloc at h ⊢
    cases hd : o.dst with
    | none => rw [hd] at h; cases hL : L t <;> rw [hL] at h <;> cases h
    | some d =>
      rw [hd] at h hh
      cases hL : L t with
      | none => rw [hL] at h; cases h
      | some y =>
        rw [hL] at h
        have hk : ∀ n, n ∈ roomN L t (some d) → look σ.h n = look τ.h n := fun n hn => hh n fun l hl => by injection hl with hl; rw [← hl]; exact hn
        simp only at h ⊢
        rw [← hk d (by simp [roomN]), ← rooms_congr (hp := look σ.h) (hp' := look τ.h) fun q hq => hk _ (by simp only [roomN, hL, List.mem_cons, List.mem_map]; exact .inr ⟨q, hq, rfl⟩)]
        exact h
  case buildSlice t len parts =>
    refine ⟨?_, trivial⟩
    unfold vRows at h ⊢
    rw [rml (opN (o.dst.map rm)) (fun d hd => by rw [hd]; simp [opN]) (fun n hn => hh n fun l hl => by injection hl with hl; rw [← hl]; exact hn), ← e4 parts.toList (fun x hx => by simpa using hx)]
    exact h
  case load t p =>
    rw [← e2 p (by simp)]
    refine ⟨?_, rfl⟩
    unfold vLoad at h ⊢
    rw [← e2 p (by simp)]
    split at h
    · rename_i y n k sz j off wd hy hp
      rw [hp] at hh
      rw [← hh n (fun l hl => by injection hl with hl; rw [← hl]; simp [opN, isVp])]
      exact h
    · cases h
  case store t p x =>
    rw [← e2 p (by simp)]
    refine ⟨?_, rfl⟩
    unfold vStore at h ⊢
    rw [← e2 p (by simp), ← e2 x (by simp)]
    split at h
    · rename_i y n k sz j off wd v hy hp hx
      rw [hp] at hh
      rw [← hh n (fun l hl => by injection hl with hl; rw [← hl]; simp [opN, isVp])]
      exact h
    · cases h
  case fieldAddr t p i =>
    rw [← e2 p (by simp)]
    refine ⟨?_, rfl⟩
    unfold vField at h ⊢
    rw [← e2 p (by simp)]
    split at h
    · rename_i y n k sz j off wd hy hp
      rw [hp] at hh
      rw [← hh n (fun l hl => by injection hl with hl; rw [← hl]; simp [opN, isVp])]
      exact h
    · cases h
  case indexAddr t x i =>
    rw [← e2 x (by simp)]
    refine ⟨?_, rfl⟩
    unfold vIndex at h ⊢
    rw [← e2 x (by simp), ← e2 i (by simp)]
    split at h
    · rename_i y n k kk j hy hp hq
      rw [hp] at hh
      rw [← hh n (fun l hl => by injection hl with hl; rw [← hl]; simp [opN, isVr])]
      exact h
    · cases h
  case slice t x lo hi mx =>
    rw [← e2 x (by simp)]
    refine ⟨?_, rfl⟩
    unfold vSlice at h ⊢
    rw [← e2 x (by simp)]
    split at h
    · rename_i y n k hy hp
      rw [hp] at hh
      rw [← hh n (fun l hl => by injection hl with hl; rw [← hl]; simp [opN, isVr])]
      split at h
      · rename_i τ' e l hn
        rw [← bnd_local (σ := σ) (τ := τ) (d := 0) (y := lo) fun z hz => e2 z (by subst hz; simp), ← bnd_local (σ := σ) (τ := τ) (d := (l.length : Int)) (y := hi) fun z hz => e2 z (by subst hz; simp)]
        exact h
      · cases h
    · cases h
  case call c =>
    obtain ⟨callee, args, ts⟩ := c
    cases callee with
    | value f =>
      simp only at e2 e3 h hh ⊢
      have hop := e2 f (by simp)
      have har := e3 args.toList (fun x hx => by simp at hx ⊢; exact .inr hx)
      rw [← hop, ← har]
      refine ⟨?_, rfl⟩
      unfold vCall aCall at h ⊢
      rw [← hop, ← har]
      cases hf : opT G σ f with
      | none => rw [hf] at h; cases hx : mapT (opT G σ) args.toList <;> simp [hx] at h
      | some fv =>
        rw [hf] at h hh
        cases hx : mapT (opT G σ) args.toList with
        | none => rw [hx] at h; simp at h
        | some xs =>
          rw [hx] at h hh
          match fv with
          | .one (.clo fid fi ca) =>
            simp only at h hh ⊢
            cases hcon : Γ fid with
            | none => rw [hcon] at h; simp at h
            | some con =>
              rw [hcon] at h
              simp only at h ⊢
              by_cases hpu : Pu fid = true
              · have hp := hPu fid con hpu hcon
                rw [if_pos hpu] at hh
                have hk : ∀ n ∈ vrTs xs, look σ.h n = look τ.h n := fun n hn => hh n fun l hl => by injection hl with hl; rw [← hl]; exact hn
                have hfz : frzTs τ.h (nilTs L ts.toList (stT xs)) = frzTs σ.h (nilTs L ts.toList (stT xs)) := (frzTs_congr fun n hn => hk n (by have := vrTs_nil _ _ n hn; rwa [vrTs_st] at this)).symm
                rw [hp _ (look τ.h) (look σ.h), hfz]
                rcases hq : frzTs σ.h (nilTs L ts.toList (stT xs)) with ⟨ps, ys, es⟩
                rw [hq] at h
                simp only at h ⊢
                rw [hp _ (look (upds es τ.h)) (look (upds es σ.h))]
                exact h
              · rw [if_neg hpu] at hh
                have hlk : look τ.h = look σ.h := by funext m; exact (hh m (fun l hl => by cases hl)).symm
                have hfz : frzTs τ.h (nilTs L ts.toList (stT xs)) = frzTs σ.h (nilTs L ts.toList (stT xs)) := frzTs_congr fun n _ => by rw [hlk]
                rw [hlk, hfz]
                rcases hq : frzTs σ.h (nilTs L ts.toList (stT xs)) with ⟨ps, ys, es⟩
                rw [hq] at h
                simp only at h ⊢
                have : look (upds es τ.h) = look (upds es σ.h) := by funext m; exact look_upds_eq (by rw [hlk])
                rw [this]
                exact h
          | .one (.d _) => simp at h
          | .one (.ptr _ _) => simp at h
          | .one (.dptr _ _) => simp at h
          | .one (.own _ _) => simp at h
          | .one (.mp _) => simp at h
          | .one (.yl _) => simp at h
          | .one (.vr _ _) => simp at h
          | .one (.vp _ _ _ _ _ _) => simp at h
          | .agg _ => simp at h
    | builtin b =>
      simp only at e2 e3
      cases b <;> simp only at h hh ⊢ <;> first | (cases h; done) | skip
      · rw [← e3 args.toList (fun x hx => by simpa using hx)]
        split at h
        · rename_i s x hxs
          match hl : args.toList with
          | [] => rw [hl] at hxs; cases hxs
          | p :: q =>
            rw [hl] at hh
            simp only at hh ⊢
            rw [← e2 p (by have : p ∈ args.toList := by rw [hl]; simp
                           simpa using this)]
            refine ⟨?_, rfl⟩
            have hps : opT G σ p = some s := by
              rw [hl] at hxs
              simp only [mapT] at hxs
              split at hxs
              · rename_i u hu
                split at hxs
                · injection hxs with hxs; injection hxs with h1 h2; rw [hu, h1]
                · cases hxs
              · cases hxs
            rw [hps] at hh
            have hk : ∀ n, n ∈ opN (isVr (some s)) ++ opN (o.dst.map rm) → look σ.h n = look τ.h n := fun n hn => hh n fun l hl' => by injection hl' with hl'; rw [← hl']; exact hn
            unfold vAppend at h ⊢
            split at h
            · split at h
              · rename_i htt
                rw [if_pos htt]
                split at h
                · split at h
                  · split at h
                    · rename_i n k hl'
                      rw [← hk n (by simp [isVr, opN])]
                      exact h
                    · split at h
                      · rename_i d hnil hd
                        rw [← hk (rm d) (by rw [hd]; simp [opN])]
                        exact h
                      · cases h
                    · cases h
                  · cases h
                · cases h
              · cases h
            · cases h
        · cases h
      · rw [← e3 args.toList (fun x hx => by simpa using hx)]
        exact ⟨h, by first | rfl | trivial⟩
    | invoke => cases h

theorem aop_local {Pu : Nat → Bool} (hPu : PuOk Γ Pu) {o : Oper} {r : Res} (h : aop L Γ G σ o = some r) (ha : Ag (tmpsOf o.op.operands.toList ++ rs) (heapReads L Pu G σ o) σ τ) :
    aop L Γ G τ o = some r ∧ heapReads L Pu G τ o = heapReads L Pu G σ o := by
  have hin : ∀ t, Operand.tmp t ∈ o.op.operands.toList → t ∈ tmpsOf o.op.operands.toList ++ rs := fun t ht => List.mem_append_left _ (mem_tmpsOf ht)
  have hV : isV L G τ o = isV L G σ o := isV_local (fun x hx => opT_local ha.s ha.g fun t e => hin t (e ▸ hx)) fun xs hx => mapT_local ha.s ha.g fun t ht => hin t (hx _ ht)
  unfold aop at h ⊢
  unfold heapReads at ha ⊢
  rw [hV]
  cases hv : isV L G σ o with
  | true => rw [hv] at h ha; exact aopV_local hPu h ha
  | false => rw [hv] at h ha; exact aop0_local hPu h ha

theorem gbool_local {σ τ : St} : ∀ {G : List (Nat × Bool)}, (∀ t, t ∈ gslots G → look σ.s t = look τ.s t) → (∀ t, t ∈ gslots G → look σ.g t = look τ.g t) → gbool σ G = gbool τ G
  | [], _, _ => rfl
  | [(t, w)], hs, hg => by
    have h1 := hs t (by simp [gslots])
    have h2 := hg t (by simp [gslots])
    simp only [gbool, h1, h2]
  | (t, w) :: (t', w') :: r, hs, hg => by
    have h2 := hg t (by simp [gslots])
    have ih := gbool_local (G := (t', w') :: r) (fun t ht => hs t (by simp only [gslots, List.mem_cons] at ht ⊢; exact .inr ht)) (fun t ht => hg t (by simp only [gslots, List.mem_cons] at ht ⊢; exact .inr ht))
    unfold gbool
    simp only [h2, ih]
theorem gres_fsts {G : List (Nat × Bool)} {σ : St} {r r' : Res} (h : gres σ G r = some r') : fsts r'.h = fsts r.h := by
  unfold gres at h
  split at h
  · injection h with h; rw [h]
  · injection h with h; rw [h]
  · rename_i n o _ hh
    split at h
    · split at h
      · injection h with h; rw [← h, hh]; rfl
      · cases h
    · cases h
  · cases h
theorem Ag.less {rs : List Nat} {hr : Option (List Nat)} {w : List Nat} {G : List (Nat × Bool)} (ha : Ag rs (withW G w hr) σ τ) : Ag rs hr σ τ := by
  refine ⟨ha.s, ha.g, fun n hn => ha.h n fun l hl => ?_⟩
  unfold withW at hl
  split at hl
  · exact hn l hl
  · cases hl
  · injection hl with hl; rw [← hl]; exact List.mem_append_right _ (hn _ rfl)
/-- the same, under its guards -/
theorem aopG_local {Pu : Nat → Bool} (hPu : PuOk Γ Pu) {o : Oper} {r : Res} (h : aopG L Γ G σ o = some r) (hrs : ∀ t, t ∈ gslots G → t ∈ rs) (ha : Ag (tmpsOf o.op.operands.toList ++ rs) (withW G (fsts r.h) (heapReads L Pu G σ o)) σ τ) :
    aopG L Γ G τ o = some r ∧ heapReads L Pu G τ o = heapReads L Pu G σ o := by
  unfold aopG at h ⊢
  split at h
  · rename_i r0 hrO
    obtain ⟨h1, h2⟩ := aop_local (rs := rs) hPu hrO ha.less
    rw [h1]
    refine ⟨?_, h2⟩
    have hb := gbool_local (G := G) (fun t ht => ha.s t (List.mem_append_right _ (hrs t ht))) (fun t ht => ha.g t (List.mem_append_right _ (hrs t ht)))
    have hf := gres_fsts h
    rw [← h]
    unfold gres
    cases G with
    | nil => rfl
    | cons q G =>
      simp only
      match hh : r0.h with
      | [] => rfl
      | [(n, o')] =>
        simp only
        have hn : look σ.h n = look τ.h n := ha.h n fun l hl => by
          unfold withW at hl
          cases hq : heapReads L Pu (q :: G) σ o with
          | none => rw [hq] at hl; cases hl
          | some l' =>
            rw [hq] at hl
            injection hl with hl
            rw [← hl, hf, hh]
            exact List.mem_append_left _ (by simp [fsts])
        rw [hb, hn]
      | _ :: _ :: _ => rfl
  · cases h
end
end Go.Sy
