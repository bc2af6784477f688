/- A verified generator of conditions for this program, and its soundness: part O of the proof. -/
import Derived.Test.YthnboahemgmfnaaSyN
import Derived.OrdersIn
namespace Go.Sy
variable {P : Program} {L : Nat → Option Lay} {Γ : Nat → Option Con} {F : Fence} {n : Nat}

/-! regions that draw their order: what an operation looks at and what it turns -/
structure Foot where
  rs : List Nat
  hr : Option (List Nat)
  hw : List Nat
  d : Option Nat

def tmpsOf : List Operand → List Nat
  | [] => []
  | .tmp t :: r => t :: tmpsOf r
  | _ :: r => tmpsOf r
def fsts : List (Nat × HO) → List Nat
  | [] => []
  | (a, _) :: r => a :: fsts r
def gslots : List (Nat × Bool) → List Nat
  | [] => []
  | (a, _) :: r => a :: gslots r

def heapReads (Pu : Nat → Bool) (G : List (Nat × Bool)) (σ : St) (o : Oper) : Option (List Nat) :=
  match o.op with
  | .load _ p => match opT G σ p with
    | some (.one (.ptr n _)) => some [n]
    | _ => some []
  | .store _ p _ => match opT G σ p with
    | some (.one (.ptr n _)) => some [n]
    | _ => some []
  | .alloc _ => match o.dst with | some d => some [d, rm d] | none => some []
  | .move _ => match o.dst with | some d => some [rm d] | none => some []
  | .assign _ => match o.dst with | some d => some [rm d] | none => some []
  | .buildSlice _ _ _ => match o.dst with | some d => some [rm d] | none => some []
  | .call { callee := .builtin .append, args, .. } => match args.toList with
    | s :: _ => match opT G σ s with
      | some (.one (.own n _)) => some [n]
      | _ => match o.dst with | some d => some [rm d] | none => some []
    | [] => some []
  | .call { callee := .builtin .len, args, .. } => match mapT (opT G σ) args.toList with
    | some [.one (.mp n)] => some [n]
    | _ => some []
  | .call { callee := .builtin _, .. } => some []
  | .makeMap _ _ => match o.dst with | some d => some [md d] | none => some []
  | .lookup _ m _ _ => match opT G σ m with
    | some (.one (.mp n)) => some [n]
    | _ => some []
  | .mapUpdate _ m _ _ => match opT G σ m with
    | some (.one (.mp n)) => some [n]
    | _ => some []
  | .box _ _ => match o.dst with | some d => some [d] | none => some []
  | .call { callee := .value f, .. } => match opT G σ f with
    | some (.one (.clo fid _ _)) => if Pu fid then some [] else none
    | some (.one (.yl n)) => some [n]
    | _ => none
  | _ => some []

/-- what is turned under a guard is read, too -/
def withW (G : List (Nat × Bool)) (w : List Nat) (l : Option (List Nat)) : Option (List Nat) :=
  match G, l with
  | [], l => l
  | _, none => none
  | _, some l => some (w ++ l)
def footOf (L : Nat → Option Lay) (Γ : Nat → Option Con) (Pu : Nat → Bool) (ops : List Oper) (o : Oper) (σ : St) : Option Foot :=
  match aopG L Γ (chain ops 10 o.guard) σ o with
  | some r => some { rs := tmpsOf o.op.operands.toList ++ gslots (chain ops 10 o.guard), hr := withW (chain ops 10 o.guard) (fsts r.h) (heapReads Pu (chain ops 10 o.guard) σ o), hw := fsts r.h, d := o.dst }
  | none => none

def disj (a : List Nat) (b : Option (List Nat)) : Bool :=
  match a with
  | [] => true
  | x :: r => (match b with | none => false | some l => !mem l x) && disj r b
def dIn (d : Option Nat) (l : List Nat) : Bool := match d with | some x => mem l x | none => false
def dNe (a b : Option Nat) : Bool := match a, b with | some x, some y => x != y | _, _ => true
/-- apart: neither sees what the other one turns -/
def apartF (f g : Foot) : Bool :=
  dNe f.d g.d && (!dIn f.d g.rs && (!dIn g.d f.rs && (disj f.hw g.hr && (disj g.hw f.hr && disj f.hw (some g.hw)))))

/-- all that has to come ahead of an operation -/
def depsOf (acc : List (List Nat)) (o : Oper) : List Nat :=
  go acc (o.after.toList.filter (Region.binds .any ·))
where go (acc : List (List Nat)) : List Edge → List Nat
  | [] => []
  | e :: r => (e.on :: acc.getD e.on []) ++ go acc r
def backOk (i : Nat) (o : Oper) : Bool := (o.after.toList.filter (Region.binds .any ·)).all fun e => decide (e.on < i)

/-- the run in the text's order; each operation held against those ahead of it -/
def drawGo (L : Nat → Option Lay) (Γ : Nat → Option Con) (Pu : Nat → Bool) (N : Nat) (ops : List Oper) : List Oper → Nat → List (List Nat) → List (Nat × Foot) → St → Bool
  | [], _, _, _, _ => true
  | o :: r, i, acc, seen, σ => match footOf L Γ Pu ops o σ, astep L Γ N ops o σ with
    | some f, some (_, σ') =>
      let ds := depsOf acc o
      backOk i o && (seen.all (fun q => mem ds q.1 || apartF q.2 f) && drawGo L Γ Pu N ops r (i + 1) (acc ++ [ds]) (seen ++ [(i, f)]) σ')
    | _, _ => false
def draws (L : Nat → Option Lay) (Γ : Nat → Option Con) (Pu : Nat → Bool) (N : Nat) (ops : List Oper) (σ : St) : Bool := drawGo L Γ Pu N ops ops 0 [] [] σ

def PuOk (Γ : Nat → Option Con) (Pu : Nat → Bool) : Prop := ∀ f con, Pu f = true → Γ f = some con → ∀ args hp hp' fr, con args hp fr = con args hp' fr

/-! an operation sees no more than its foot -/
structure Ag (rs : List Nat) (hr : Option (List Nat)) (σ τ : St) : Prop where
  s : ∀ t, t ∈ rs → look σ.s t = look τ.s t
  g : ∀ t, t ∈ rs → look σ.g t = look τ.g t
  h : ∀ n, (∀ l, hr = some l → n ∈ l) → look σ.h n = look τ.h n

section
variable {σ τ : St} {G : List (Nat × Bool)} {rs : List Nat}
theorem mem_tmpsOf {t : Nat} : ∀ {l : List Operand}, Operand.tmp t ∈ l → t ∈ tmpsOf l
  | .tmp u :: r, h => by
    rcases List.mem_cons.1 h with e | h
    · injection e with e; subst e; exact List.mem_cons_self ..
    · exact List.mem_cons_of_mem _ (mem_tmpsOf h)
  | .const _ :: r, h => by rcases List.mem_cons.1 h with e | h; cases e; exact mem_tmpsOf (l := r) h
  | .global _ :: r, h => by rcases List.mem_cons.1 h with e | h; cases e; exact mem_tmpsOf (l := r) h
  | .func _ :: r, h => by rcases List.mem_cons.1 h with e | h; cases e; exact mem_tmpsOf (l := r) h

theorem opd_local (hs : ∀ t, t ∈ rs → look σ.s t = look τ.s t) (hg : ∀ t, t ∈ rs → look σ.g t = look τ.g t) {o : Operand} (ho : ∀ t, o = .tmp t → t ∈ rs) : opd G σ o = opd G τ o := by
  cases o with
  | tmp t => simp only [opd]; rw [hg t (ho t rfl), hs t (ho t rfl)]
  | const => rfl
  | func => rfl
  | _ => rfl
theorem opT_local (hs : ∀ t, t ∈ rs → look σ.s t = look τ.s t) (hg : ∀ t, t ∈ rs → look σ.g t = look τ.g t) {o : Operand} (ho : ∀ t, o = .tmp t → t ∈ rs) : opT G σ o = opT G τ o := by
  unfold opT; rw [opd_local hs hg ho]
theorem mapT_local (hs : ∀ t, t ∈ rs → look σ.s t = look τ.s t) (hg : ∀ t, t ∈ rs → look σ.g t = look τ.g t) : ∀ {os : List Operand}, (∀ t, Operand.tmp t ∈ os → t ∈ rs) → mapT (opT G σ) os = mapT (opT G τ) os
  | [], _ => rfl
  | o :: r, h => by
    simp only [mapT]
    rw [opT_local hs hg (fun t e => h t (by rw [e]; exact List.mem_cons_self ..)), mapT_local hs hg (fun t ht => h t (List.mem_cons_of_mem _ ht))]
theorem mapP_local (hs : ∀ t, t ∈ rs → look σ.s t = look τ.s t) (hg : ∀ t, t ∈ rs → look σ.g t = look τ.g t) : ∀ {os : List (Nat × Operand)}, (∀ t, Operand.tmp t ∈ os.map (·.2) → t ∈ rs) → mapP (opT G σ) os = mapP (opT G τ) os
  | [], _ => rfl
  | (i, o) :: r, h => by
    simp only [mapP]
    rw [opT_local hs hg (fun t e => h t (by rw [e]; exact List.mem_cons_self ..)), mapP_local hs hg (fun t ht => h t (List.mem_cons_of_mem _ ht))]

theorem rmFree_local {dst : Option Tmp} (h : ∀ d, dst = some d → look σ.h (rm d) = look τ.h (rm d)) : rmFree σ dst = rmFree τ dst := by
  unfold rmFree
  cases dst with
  | none => rfl
  | some d => simp only [h d rfl]
theorem aNil_local {t : TypeId} {x : Operand} {dst : Option Tmp} (h : ∀ d, dst = some d → look σ.h (rm d) = look τ.h (rm d)) : aNil L σ t x dst = aNil L τ t x dst := by
  unfold aNil
  rw [rmFree_local h]
theorem appendA_local {hp hp' : Nat → Option HO} {ts : List TypeId} {dst : Option Nat} {s x : TV} (h1 : ∀ n y, s = .one (.own n y) → hp n = hp' n) (h2 : (∀ n y, s ≠ .one (.own n y)) → ∀ d, dst = some d → hp (rm d) = hp' (rm d)) :
    appendA L hp ts dst s x = appendA L hp' ts dst s x := by
  unfold appendA
  split
  · split
    · split
      · split
        · split
          · rw [h1 _ _ rfl]
          · rename_i s' _
            split
            · rw [h2 (fun n y e => by cases e) _ rfl]
            · rfl
          · rfl
        · rfl
      · rfl
    · rfl
  · rfl

theorem bnd_local {d : Int} {y : Option Operand} (h : ∀ z, y = some z → opT G σ z = opT G τ z) : bnd G σ d y = bnd G τ d y := by
  cases y with
  | none => rfl
  | some z => simp only [bnd, h z rfl]

theorem aop_local {Pu : Nat → Bool} (hPu : PuOk Γ Pu) {o : Oper} {r : Res} (h : aop L Γ G σ o = some r) (ha : Ag (tmpsOf o.op.operands.toList ++ rs) (heapReads Pu G σ o) σ τ) :
    aop L Γ G τ o = some r ∧ heapReads Pu G τ o = heapReads Pu G σ o := by
  have hin : ∀ t, Operand.tmp t ∈ o.op.operands.toList → t ∈ tmpsOf o.op.operands.toList ++ rs := fun t ht => List.mem_append_left _ (mem_tmpsOf ht)
  have e1 : ∀ (G : List (Nat × Bool)) (x : Operand), x ∈ o.op.operands.toList → opd G σ x = opd G τ x := fun G x hx => opd_local ha.s ha.g fun t e => hin t (e ▸ hx)
  have e2 : ∀ (G : List (Nat × Bool)) (x : Operand), x ∈ o.op.operands.toList → opT G σ x = opT G τ x := fun G x hx => opT_local ha.s ha.g fun t e => hin t (e ▸ hx)
  have e3 : ∀ (xs : List Operand), (∀ x ∈ xs, x ∈ o.op.operands.toList) → mapT (opT G σ) xs = mapT (opT G τ) xs := fun xs hx => mapT_local ha.s ha.g fun t ht => hin t (hx _ ht)
  have e4 : ∀ (xs : List (Nat × Operand)), (∀ x ∈ xs.map (·.2), x ∈ o.op.operands.toList) → mapP (opT G σ) xs = mapP (opT G τ) xs := fun xs hx => mapP_local ha.s ha.g fun t ht => hin t (hx _ ht)
  have hh := ha.h
  clear ha hin
  unfold aop at h ⊢
  unfold heapReads at hh ⊢
  cases ho : o.op <;> simp only [ho] at h hh ⊢ <;> simp only [ho, Op.operands, Call.operands] at e1 e2 e3 e4
  all_goals first | (cases h; done) | skip
  case move x =>
    rw [← aNil_local (σ := σ) (τ := τ) (fun d hd => by rw [hd] at hh; exact hh _ (fun l hl => by injection hl with hl; rw [← hl]; simp)), ← e1 G x (by simp)]; exact ⟨h, by first | rfl | trivial⟩
  case assign x =>
    rw [← aNil_local (σ := σ) (τ := τ) (fun d hd => by rw [hd] at hh; exact hh _ (fun l hl => by injection hl with hl; rw [← hl]; simp)), ← e1 G x (by simp)]; exact ⟨h, by first | rfl | trivial⟩
  case pick c x y =>
    cases c with
    | tmp tc => simp only [aPick] at h ⊢; rw [← e2 G (.tmp tc) (by simp), ← e2 _ x (by simp), ← e2 _ y (by simp)]; exact ⟨h, by first | rfl | trivial⟩
    | const => cases h
    | func => cases h
    | _ => cases h
  case alloc t =>
    simp only [aAlloc] at h ⊢
    cases hd : o.dst with
    | none => rw [hd] at h; split at h <;> first | cases h | (rename_i hx; cases hx)
    | some d =>
      rw [hd] at h hh
      have hx := hh d (fun l hl => by injection hl with hl; rw [← hl]; simp)
      have hx2 := hh (rm d) (fun l hl => by injection hl with hl; rw [← hl]; simp)
      have hx2 := rmFree_local (σ := σ) (τ := τ) (dst := some d) fun d' hd' => by injection hd' with hd'; rw [← hd']; exact hx2
      cases hLt : L t with
      | none => rw [hLt] at h; cases h
      | some y => rw [hLt] at h; simp only at h ⊢; rw [← hx, ← hx2]; exact ⟨h, by first | rfl | trivial⟩
  case box t x =>
    simp only [aBox] at h ⊢
    rw [← e2 G x (by simp)]
    cases hd : o.dst with
    | none => rw [hd] at h; split at h <;> first | cases h | (rename_i hx; cases hx)
    | some d =>
      rw [hd] at h hh
      have hx := hh d (fun l hl => by injection hl with hl; rw [← hl]; simp)
      cases hLt : opT G σ x with
      | none => rw [hLt] at h; cases h
      | some y => rw [hLt] at h; simp only at h ⊢; rw [← hx]; exact ⟨h, by first | rfl | trivial⟩
  case build t parts =>
    simp only [aBuild] at h ⊢
    rw [← e4 parts.toList (fun x hx => by simpa using hx)]; exact ⟨h, by first | rfl | trivial⟩
  case buildSlice t len parts =>
    simp only [aRows] at h ⊢
    rw [← e4 parts.toList (fun x hx => by simpa using hx)]
    rw [← rmFree_local (σ := σ) (τ := τ) (fun d hd => by rw [hd] at hh; exact hh _ (fun l hl => by injection hl with hl; rw [← hl]; simp))]
    exact ⟨h, by first | rfl | trivial⟩
  case load t p =>
    simp only [aLoad] at h ⊢
    rw [← e2 G p (by simp)]
    refine ⟨?_, by first | rfl | trivial⟩
    split at h
    · rename_i y q hy hq
      rw [hq] at hh
      have : loadFrom σ y q = loadFrom τ y q := by
        unfold loadFrom
        split
        · rename_i m off
          rw [hh m (fun l hl => by injection hl with hl; rw [← hl]; simp)]
        · rfl
        · rfl
      rw [← this]
      exact h
    · cases h
  case store t p x =>
    simp only [aStore] at h ⊢
    rw [← e2 G p (by simp), ← e2 G x (by simp)]
    refine ⟨?_, by first | rfl | trivial⟩
    split at h
    · rename_i y m off v hy hp hx
      rw [hp] at hh
      rw [← hh m (fun l hl => by injection hl with hl; rw [← hl]; simp)]
      exact h
    · cases h
  case binOp op t x y t' =>
    simp only [aBin, aBinB, aBinAgg] at h ⊢
    rw [← e2 G x (by simp), ← e2 G y (by simp)]; exact ⟨h, by first | rfl | trivial⟩
  case unOp op t x => simp only [aUn] at h ⊢; rw [← e2 G x (by simp)]; exact ⟨h, by first | rfl | trivial⟩
  case convert s t x => simp only [aConv] at h ⊢; rw [← e2 G x (by simp)]; exact ⟨h, by first | rfl | trivial⟩
  case makeFunc f a b =>
    cases f with
    | func f =>
      simp only [aFunc] at h ⊢
      rw [← e3 a.toList (fun x hx => by simp at hx ⊢; exact .inl hx), ← e3 b.toList (fun x hx => by simp at hx ⊢; exact .inr hx)]
      exact ⟨h, by first | rfl | trivial⟩
    | method => cases h
    | methodOf => cases h
    | via => cases h
    | yield => cases h
  case fieldAddr t p i => simp only [aField] at h ⊢; rw [← e2 G p (by simp)]; exact ⟨h, by first | rfl | trivial⟩
  case indexAddr t x i => simp only [aIndex, opS] at h ⊢; rw [← e2 G x (by simp), ← e2 G i (by simp)]; exact ⟨h, by first | rfl | trivial⟩
  case slice t x lo hi mx =>
    have hlo : ∀ d, bnd G τ d lo = bnd G σ d lo := fun d => (bnd_local fun z hz => e2 G z (by simp [hz])).symm
    have hhi : ∀ d, bnd G τ d hi = bnd G σ d hi := fun d => (bnd_local fun z hz => e2 G z (by simp [hz])).symm
    simp only [aSlice, opS] at h ⊢
    rw [← e2 G x (by simp)]
    simp only [hlo, hhi]
    exact ⟨h, by first | rfl | trivial⟩
  case extract t i => simp only [aExtract] at h ⊢; rw [← e1 G t (by simp)]; exact ⟨h, by first | rfl | trivial⟩
  case makeMap t x =>
    cases x with
    | some _ => cases h
    | none =>
      simp only [aMake] at h ⊢
      cases hd : o.dst with
      | none => rw [hd] at h; split at h <;> first | cases h | (rename_i hx; cases hx)
      | some d =>
        rw [hd] at h hh
        cases hLt : L t with
        | none => rw [hLt] at h; cases h
        | some y => rw [hLt] at h; simp only at h ⊢; rw [← hh (md d) (fun l hl => by injection hl with hl; rw [← hl]; simp)]; exact ⟨h, by first | rfl | trivial⟩
  case lookup t m k ok =>
    simp only [aLook, opS] at h ⊢
    rw [← e2 G m (by simp), ← e2 G k (by simp)]
    refine ⟨?_, by first | rfl | trivial⟩
    split at h
    · rename_i y n kx hy hm hk
      rw [hm] at hh
      simp only [mapAt] at h ⊢
      rw [← hh n (fun l hl => by injection hl with hl; rw [← hl]; simp)]
      exact h
    · cases h
  case mapUpdate t m k x =>
    simp only [aUpd, opS] at h ⊢
    rw [← e2 G m (by simp), ← e2 G k (by simp), ← e2 G x (by simp)]
    refine ⟨?_, by first | rfl | trivial⟩
    split at h
    · rename_i y n kx xx hy hm hk hxx
      rw [hm] at hh
      simp only [mapAt] at h ⊢
      rw [← hh n (fun l hl => by injection hl with hl; rw [← hl]; simp)]
      exact h
    · cases h
  case call c =>
    obtain ⟨callee, args, ts⟩ := c
    cases callee with
    | value f =>
      simp only at e2 e3
      have hop := e2 G f (by simp)
      have har := e3 args.toList (fun x hx => by simp at hx ⊢; exact .inr hx)
      simp only at h hh ⊢
      refine ⟨?_, by rw [← hop]⟩
      cases hy : aYield G σ f args.toList with
      | some r' =>
        rw [hy] at h
        have : aYield G τ f args.toList = aYield G σ f args.toList := by
          unfold aYield at hy ⊢
          rw [← hop, ← har]
          split at hy
          · rename_i m hm
            rw [hm] at hh
            rw [hh m (fun l hl => by injection hl with hl; rw [← hl]; simp)]
          · cases hy
        rw [this, hy]
        exact h
      | none =>
        rw [hy] at h
        have hyn : aYield G τ f args.toList = none := by
          simp only [aCall] at h
          split at h
          · rename_i xs fid fi ca hxs hf
            unfold aYield
            rw [← hop, hf]
          · cases h
        rw [hyn]
        simp only [aCall] at h ⊢
        rw [← har, ← hop]
        split at h
        · rename_i xs fid fi ca hxs hf
          rw [hf] at hh
          simp only at hh
          split at h
          · rename_i con hcon
            by_cases hpu : Pu fid = true
            · have := hPu fid con hpu hcon
              rw [this _ (look τ.h) (look σ.h)]
              exact h
            · rw [if_neg hpu] at hh
              have : look σ.h = look τ.h := by funext m; exact hh m (fun l hl => by cases hl)
              rw [← this]
              exact h
          · cases h
        · cases h
    | builtin b =>
      simp only [aBuiltin] at h ⊢
      simp only at e3 e2
      rw [← e3 args.toList (fun x hx => by simpa using hx)]
      refine ⟨?_, ?_⟩
      · split at h
        · rename_i xs hxs
          split at h
          · split at h
            · rename_i s x
              rw [← h]
              refine (appendA_local (fun n y hs => ?_) fun hs d hd => ?_).symm
              · subst hs
                match hl : args.toList, hxs with
                | p :: r, hxs =>
                  simp only [mapT] at hxs
                  split at hxs
                  · rename_i u hu
                    split at hxs
                    · injection hxs with hxs; injection hxs with h1 h2
                      subst h1
                      refine hh n fun l hl' => ?_
                      simp only [hl, hu] at hl'
                      injection hl' with hl'; rw [← hl']; simp
                    · cases hxs
                  · cases hxs
              · match hl : args.toList, hxs with
                | p :: r, hxs =>
                  simp only [mapT] at hxs
                  split at hxs
                  · rename_i u hu
                    split at hxs
                    · injection hxs with hxs; injection hxs with h1 h2
                      subst h1
                      refine hh (rm d) fun l hl' => ?_
                      simp only [hl, hu] at hl'
                      split at hl'
                      · rename_i n y heq
                        injection heq with heq
                        exact absurd heq (hs n y)
                      · simp only [hd] at hl'
                        injection hl' with hl'; rw [← hl']; simp
                    · cases hxs
                  · cases hxs
            · cases h
          · split at h
            · rename_i n
              simp only [hxs] at hh
              have hn := hh n (fun l hl => by injection hl with hl; rw [← hl]; simp)
              rw [← h]
              simp only [mapLen, hn]
            · exact h
          · exact h
        · cases h
      · cases b <;> first | rfl | skip
        · simp only
          cases hl : args.toList with
          | nil => rfl
          | cons p r => simp only [e2 G p (by have : p ∈ args.toList := by rw [hl]; simp
                                              simpa using this)]
        · simp only
          rw [← e3 args.toList (fun x hx => by simpa using hx)]
    | invoke => cases h

theorem gbool_local {σ τ : St} : ∀ {G : List (Nat × Bool)}, (∀ t, t ∈ gslots G → look σ.s t = look τ.s t) → (∀ t, t ∈ gslots G → look σ.g t = look τ.g t) → gbool σ G = gbool τ G
  | [], _, _ => rfl
  | [(t, w)], hs, hg => by
    have h1 := hs t (by simp [gslots])
    have h2 := hg t (by simp [gslots])
    simp only [gbool, h1, h2]
  | (t, w) :: (t', w') :: r, hs, hg => by
    have h2 := hg t (by simp [gslots])
    have ih := gbool_local (G := (t', w') :: r) (fun t ht => hs t (by simp only [gslots, List.mem_cons] at ht ⊢; exact .inr ht)) (fun t ht => hg t (by simp only [gslots, List.mem_cons] at ht ⊢; exact .inr ht))
    unfold gbool
    simp only [h2, ih]
theorem gres_fsts {G : List (Nat × Bool)} {σ : St} {r r' : Res} (h : gres σ G r = some r') : fsts r'.h = fsts r.h := by
  unfold gres at h
  split at h
  · injection h with h; rw [h]
  · injection h with h; rw [h]
  · rename_i n o _ hh
    split at h
    · split at h
      · injection h with h; rw [← h, hh]; rfl
      · cases h
    · cases h
  · cases h
theorem Ag.less {rs : List Nat} {hr : Option (List Nat)} {w : List Nat} {G : List (Nat × Bool)} (ha : Ag rs (withW G w hr) σ τ) : Ag rs hr σ τ := by
  refine ⟨ha.s, ha.g, fun n hn => ha.h n fun l hl => ?_⟩
  unfold withW at hl
  split at hl
  · exact hn l hl
  · cases hl
  · injection hl with hl; rw [← hl]; exact List.mem_append_right _ (hn _ rfl)
/-- the same, under its guards -/
theorem aopG_local {Pu : Nat → Bool} (hPu : PuOk Γ Pu) {o : Oper} {r : Res} (h : aopG L Γ G σ o = some r) (hrs : ∀ t, t ∈ gslots G → t ∈ rs) (ha : Ag (tmpsOf o.op.operands.toList ++ rs) (withW G (fsts r.h) (heapReads Pu G σ o)) σ τ) :
    aopG L Γ G τ o = some r ∧ heapReads Pu G τ o = heapReads Pu G σ o := by
  unfold aopG at h ⊢
  split at h
  · rename_i r0 hr0
    obtain ⟨h1, h2⟩ := aop_local (rs := rs) hPu hr0 ha.less
    rw [h1]
    refine ⟨?_, h2⟩
    have hb := gbool_local (G := G) (fun t ht => ha.s t (List.mem_append_right _ (hrs t ht))) (fun t ht => ha.g t (List.mem_append_right _ (hrs t ht)))
    have hf := gres_fsts h
    rw [← h]
    unfold gres
    cases G with
    | nil => rfl
    | cons q G =>
      simp only
      match hh : r0.h with
      | [] => rfl
      | [(n, o')] =>
        simp only
        have hn : look σ.h n = look τ.h n := ha.h n fun l hl => by
          unfold withW at hl
          cases hq : heapReads Pu (q :: G) σ o with
          | none => rw [hq] at hl; cases hl
          | some l' =>
            rw [hq] at hl
            injection hl with hl
            rw [← hl, hf, hh]
            exact List.mem_append_left _ (by simp [fsts])
        rw [hb, hn]
      | _ :: _ :: _ => rfl
  · cases h
end
end Go.Sy
