/- A verified generator of conditions for this program, and its soundness: part V of the proof. -/
import Derived.Test.YtdkggjgmlccjcaaSyA
namespace Go.Sy

/-! code to a tree of conditions -/
def VC.fcts : List Cd → VC → VC
  | [], v => v
  | .ob _ :: r, v => VC.fcts r v
  | .fact p :: r, v => .imp p (VC.fcts r v)

/-- a loop's annotation: a ghost x; what holds of it; a measure; the slots and blocks that the body changes, at the head -/
structure Ann : Type 1 where
  X : Type
  inv : X → Prop
  m : X → Nat
  s : X → List (Nat × AV)
  h : X → List (Nat × HO) := fun _ => []

inductive It : Type 1
  | code (c : Code)
  | blk (id : Nat)
  | lend (A : Ann) (x : A.X) (hd : A.X → St)

def mem (l : List Nat) (k : Nat) : Bool :=
  match l with
  | [] => false
  | a :: r => a == k || mem r k

/-- the slots that are read later -/
def keepS (keep : List Nat) : List (Nat × AV) → List Nat → List (Nat × AV)
  | [], _ => []
  | (k, v) :: r, seen => if mem keep k && !mem seen k then (k, v) :: keepS keep r (k :: seen) else keepS keep r (k :: seen)
/-- one entry a block -/
def keepH : List (Nat × HO) → List Nat → List (Nat × HO)
  | [], _ => []
  | (k, v) :: r, seen => if !mem seen k then (k, v) :: keepH r (k :: seen) else keepH r seen

def dsts : Nat → Code → List Nat
  | 0, _ => []
  | n + 1, c => match c with
    | .region _ ops _ => ops.toList.filterMap (·.dst)
    | .seq a b => dsts n a ++ dsts n b
    | .cond _ a b => dsts n a ++ dsts n b
    | .block _ a => dsts n a
    | .loop a => dsts n a
    | .scope a => dsts n a
    | _ => []

def dropTo (id : Nat) : List It → Option (List It)
  | [] => none
  | .blk i :: r => if i == id then some r else dropTo id r
  | .code _ :: r => dropTo id r
  | .lend _ _ _ :: r => dropTo id r

def eqDV : DV → DV → List Prop
  | .lit (.int k a), .lit (.int k' b) => if k = k' then [a = b] else [False]
  | .lit (.bool a), .lit (.bool b) => [a = b]
  | .sl τ l, .sl σ m => match Ty.same τ σ with
    | some ⟨h⟩ => [(h ▸ l : List σ.T) = m]
    | none => [False]
  | x, y => [x = y]
def eqLV : LV → LV → List Prop
  | .d x, .d y => eqDV x y
  | .ptr n o, .ptr m q => if n = m ∧ o = q then [] else [False]
  | .own n x, .own m y => if n = m then eqDV x y else [False]
  | .mp n, .mp m => if n = m then [] else [False]
  | .yl n, .yl m => if n = m then [] else [False]
  | .vr n k, .vr m q => if n = m then [k = q] else [False]
  | x, y => [x = y]
def eqLVs : List LV → List LV → List Prop
  | [], [] => []
  | x :: r, y :: q => eqLV x y ++ eqLVs r q
  | _, _ => [False]
def eqTV : TV → TV → List Prop
  | .one x, .one y => eqLV x y
  | .agg x, .agg y => eqLVs x y
  | _, _ => [False]
def eqTVs : List TV → List TV → List Prop
  | [], [] => []
  | x :: r, y :: q => eqTV x y ++ eqTVs r q
  | _, _ => [False]
def eqAV : AV → AV → List Prop
  | .t x, .t y => eqTV x y
  | .tup x, .tup y => eqTVs x y
  | _, _ => [False]
def eqHO : HO → HO → List Prop
  | .cells a, .cells b => eqLVs a b
  | .gr e s a, .gr e' s' b => if e = e' ∧ s = s' then [a = b] else [False]
  | .ob sg h g, .ob sg' h' g' => match sgSame sg sg' with
    | some ⟨e⟩ => [(e ▸ h : List (tpl sg').T) = h', (e ▸ g : Lp (tpl sg').T) = g']
    | none => [False]
  | .mp κ ν l, .mp κ' ν' l' => match κ.same κ', ν.same ν' with
    | some ⟨h1⟩, some ⟨h2⟩ => [(h2 ▸ h1 ▸ l : List (κ'.T × ν'.T)) = l']
    | _, _ => [False]
  | .vec τ e l, .vec τ' e' l' => if e = e' then match τ.same τ' with
    | some ⟨h⟩ => [(h ▸ l : List τ'.T) = l']
    | none => [False]
    else [False]
  | x, y => [x = y]
/-- a value as it is wanted: a slice without its room; a nil slice at a type -/
def coD : DV → DV → DV
  | .sl τ _, .sl .tu _ => .sl τ []
  | _, y => y
def coL : LV → LV → LV
  | .d w, .own _ x => .d (coD w x)
  | .d w, .d x => .d (coD w x)
  | _, y => y
def coLs : List LV → List LV → List LV
  | w :: ws, x :: xs => coL w x :: coLs ws xs
  | _, xs => xs
def coT : TV → TV → TV
  | .one w, .one x => .one (coL w x)
  | .agg ws, .agg xs => .agg (coLs ws xs)
  | _, y => y
def coTs : List TV → List TV → List TV
  | w :: ws, x :: xs => coT w x :: coTs ws xs
  | _, xs => xs
def coA : AV → AV → AV
  | .t w, .t x => .t (coT w x)
  | .tup ws, .tup xs => .tup (coTs ws xs)
  | _, y => y
def entS (σ : List (Nat × AV)) : List (Nat × AV) → List Prop
  | [] => []
  | (k, v) :: r => (match look σ k with | some u => eqAV (coA v u) v | none => [False]) ++ entS σ r
def entH (σ : List (Nat × HO)) : List (Nat × HO) → List Prop
  | [] => []
  | (k, v) :: r => (match look σ k with | some u => eqHO u v | none => [False]) ++ entH σ r

def dropS (ds : List Nat) : List (Nat × AV) → List (Nat × AV)
  | [] => []
  | (k, v) :: r => if mem ds k then dropS ds r else (k, v) :: dropS ds r
def dropH (ds : List (Nat × HO)) : List (Nat × HO) → List (Nat × HO)
  | [] => []
  | (k, v) :: r => match look ds k with
    | some _ => dropH ds r
    | none => (k, v) :: dropH ds r

def firstRegion : Nat → Code → Option Nat
  | 0, _ => none
  | n + 1, c => match c with
    | .region id _ _ => some id
    | .seq a b => match firstRegion n a with | some i => some i | none => firstRegion n b
    | .cond _ a b => match firstRegion n a with | some i => some i | none => firstRegion n b
    | .block _ a => firstRegion n a
    | .loop a => firstRegion n a
    | .scope a => firstRegion n a
    | _ => none

/-- all pointers of the state lead to blocks of the state -/
def ptrOk (h : List (Nat × HO)) (n : Nat) : Bool := match look h n with | some _ => true | none => false
def ptrsOk (h : List (Nat × HO)) : List (Nat × Nat) → Bool
  | [] => true
  | (n, _) :: r => ptrOk h n && ptrsOk h r
def lvOk (h : List (Nat × HO)) : LV → Bool
  | .ptr n _ => ptrOk h n
  | .clo _ a b => ptrsOk h a && ptrsOk h b
  | .own n _ => ptrOk h n
  | .mp n => ptrOk h n
  | .yl n => ptrOk h n
  | .vr n _ => ptrOk h n
  | .vp n _ _ _ _ _ => ptrOk h n
  | _ => true
def lvsOk (h : List (Nat × HO)) : List LV → Bool
  | [] => true
  | x :: r => lvOk h x && lvsOk h r
def tvOk (h : List (Nat × HO)) : TV → Bool
  | .one x => lvOk h x
  | .agg xs => lvsOk h xs
def tvsOk (h : List (Nat × HO)) : List TV → Bool
  | [] => true
  | x :: r => tvOk h x && tvsOk h r
def avOk (h : List (Nat × HO)) : AV → Bool
  | .t x => tvOk h x
  | .tup xs => tvsOk h xs
def slotsOk (h : List (Nat × HO)) : List (Nat × AV) → Bool
  | [] => true
  | (_, v) :: r => avOk h v && slotsOk h r
def heapOk (h : List (Nat × HO)) : List (Nat × HO) → Bool
  | [] => true
  | (_, .cells b) :: r => lvsOk h b && heapOk h r
  | (_, .gr _ _ _) :: r => heapOk h r
  | (_, .mp _ _ _) :: r => heapOk h r
  | (_, .ob _ _ _) :: r => heapOk h r
  | (_, .vec _ _ _) :: r => heapOk h r

/-- how code is left -/
inductive Ex | nm | rt | ex (id : Nat)
def Ex.code : Ex → Code
  | .nm => .skip
  | .rt => .ret
  | .ex id => .exit id
def Ex.exit : Ex → Exit
  | .nm => .normal
  | .rt => .ret
  | .ex id => .exit id
def Ex.same : Ex → Ex → Bool
  | .nm, .nm => true
  | .rt, .rt => true
  | .ex i, .ex j => i == j
  | _, _ => false

/-- a loop over a function: what it is handed; whether it goes on; what holds; the blocks that its rounds change; how it is left, and what is known then -/
structure RAnn where
  sg : List Ty
  go : Lp (tpl sg).T
  inv : List (tpl sg).T → Prop := fun _ => True
  h : List (tpl sg).T → List (Nat × HO) := fun _ => []
  js : List (Ex × (List (tpl sg).T → Prop)) := []
def exFind {α : Type} : List (Ex × α) → Ex → Option α
  | [], _ => none
  | (e, p) :: r, f => if e.same f then some p else exFind r f
def ry (i : Nat) : Nat := 90000 + i
def lvN : LV → List Nat
  | .ptr n _ => [n]
  | .clo _ a b => a.map (·.1) ++ b.map (·.1)
  | .own n _ => [n]
  | .mp n => [n]
  | .yl n => [n]
  | .vr n _ => [n]
  | .vp n _ _ _ _ _ => [n]
  | _ => []
def lvsN : List LV → List Nat
  | [] => []
  | x :: r => lvN x ++ lvsN r
def expN (h : List (Nat × HO)) : List Nat → List Nat
  | [] => []
  | n :: r => (match look h n with | some (.cells b) => lvsN b | _ => []) ++ expN h r
/-- the names that a closure leads to -/
def lentN (h : List (Nat × HO)) (ca : List (Nat × Nat)) : List Nat :=
  let a := ca.map (·.1)
  let b := expN h a
  a ++ (b ++ expN h b)
def selH (ln : List Nat) (q : Bool) : List (Nat × HO) → List (Nat × HO)
  | [] => []
  | (n, o) :: r => if mem ln n == q then (n, o) :: selH ln q r else selH ln q r
def namesIn (h : List (Nat × HO)) : List (Nat × HO) → Bool
  | [] => true
  | (n, o) :: r => ptrOk h n && (!o.isOb && namesIn h r)
def okS (h : List (Nat × HO)) : List (Nat × AV) → List Nat → List (Nat × AV)
  | [], _ => []
  | (k, v) :: r, seen => if !mem seen k && avOk h v then (k, v) :: okS h r (k :: seen) else okS h r (k :: seen)
def pSlots : List Nat → (sg : List Ty) → (tpl sg).T → List (Nat × AV)
  | p :: ps, a :: r, x => (p, .t (tvOf a x.1)) :: pSlots ps r x.2
  | _, _, _ => []
def distinct : List Nat → Bool
  | [] => true
  | a :: r => !mem r a && distinct r
def below (N : Nat) : List Nat → Bool
  | [] => true
  | a :: r => Nat.blt a N && below N r

variable (L : Nat → Option Lay) (Γ : Nat → Option Con)

/-- the empty list, its type said -/
abbrev nl (α : Type) : List α := []
/-- what a loop's annotation may read of the state ahead of it -/
def slD (σ : St) (k : Nat) : DV := match look σ.s k with
  | some (.t (.one (.d x))) => x
  | some (.t (.one (.own _ x))) => x
  | _ => nilS
def clD (σ : St) (n i : Nat) : DV := match look σ.h n with
  | some (.cells b) => match b[i]? with
    | some (.d x) => x
    | some (.own _ x) => x
    | _ => nilS
  | _ => nilS
def dI : DV → Int
  | .lit (.int _ x) => x
  | _ => 0
def dB : DV → Bool
  | .lit (.bool x) => x
  | _ => false
def dL (τ : Ty) (x : DV) : List τ.T := match asL τ x with
  | some l => l
  | none => []
structure Fn : Type 1 where
  N : Nat
  keep : List Nat
  ann : Nat → St → Option Ann := fun _ _ => none
  draw : List Oper → St → Bool := fun _ _ => false
  rann : Nat → St → Option RAnn := fun _ _ => none
  rf : Bool := true

def vc (φ : Fn) (post : Ex → St → VC) : Nat → List It → St → VC
  | 0, _, _ => .ff
  | _ + 1, [], σ => post .nm σ
  | n + 1, .blk _ :: r, σ => vc φ post n r σ
  | _ + 1, .lend A x hd :: _, σ => .ex fun x' => .conj (A.inv x') (.conj (A.m x' < A.m x) (VC.all (entS σ.s (hd x').s ++ entH σ.h (hd x').h)))
  | n + 1, .code c :: r, σ => match c with
    | .skip => vc φ post n r σ
    | .region _ ops false => match asteps L Γ φ.N ops.toList ops.toList σ with
      | some (cs, σ') => VC.ands cs (vc φ post n r { s := keepS φ.keep σ'.s [], g := [], h := keepH σ'.h [] })
      | none => .ff
    | .region _ ops true => match asteps L Γ φ.N ops.toList ops.toList σ with
      | some (cs, σ') => if φ.draw ops.toList σ then VC.obs cs (VC.fcts cs (vc φ post n r { s := keepS φ.keep σ'.s [], g := [], h := keepH σ'.h [] })) else .ff
      | none => .ff
    | .seq a b => vc φ post n (.code a :: .code b :: r) σ
    | .cond c a b => match opT [] σ c with
      | some (.one (.d (.lit (.bool x)))) => .both (.imp (x = true) (vc φ post n (.code a :: r) σ)) (.imp (x = false) (vc φ post n (.code b :: r) σ))
      | _ => .ff
    | .block id b => vc φ post n (.code b :: .blk id :: r) σ
    | .exit id => match dropTo id r with
      | some r' => vc φ post n r' σ
      | none => post (.ex id) σ
    | .ret => post .rt σ
    | .rangeFunc g ps as bd => match φ.rf, firstRegion 20 (.seq as bd) with
      | true, some i => match φ.rann i σ, opT [] σ g with
        | some A, some (.one (.clo f [] ca)) => match Γ f with
          | some con => match con (.one (.yl (ry i)) :: ptrs ca) (look ((ry i, .ob A.sg [] A.go) :: selH (lentN σ.h ca) true σ.h)) 99000 with
            | some (cs, _, [(y, .ob sg' H go')]) => match sgSame sg' A.sg with
              | some ⟨e⟩ =>
                if (y == ry i && (!ptrOk σ.h (ry i) && (heapOk (selH (lentN σ.h ca) true σ.h) (selH (lentN σ.h ca) true σ.h) && ptrsOk (selH (lentN σ.h ca) true σ.h) ca))) &&
                    (heapOk (selH (lentN σ.h ca) false σ.h) (selH (lentN σ.h ca) false σ.h) && (ps.size == A.sg.length && (distinct ps.toList && below φ.N ps.toList))) then
                  VC.ands (cs.map .ob) (.conj ((e ▸ go' : Lp (tpl A.sg).T) = A.go) (.conj (A.inv []) (.both (VC.all (entH (selH (lentN σ.h ca) false σ.h) (A.h []))) (.both
                    (.fa fun hist => .imp (A.inv hist) (if namesIn (selH (lentN σ.h ca) false σ.h) (A.h hist) && heapOk (A.h hist ++ dropH (A.h hist) (selH (lentN σ.h ca) false σ.h)) (A.h hist) then
                      .fa fun x => .imp (liveX A.go hist x) (
                        vc { φ with rf := false } (fun e1 σ1 => match e1 with
                          | .nm => vc { φ with rf := false } (fun e2 σ2 => match e2 with
                            | .nm => .conj (A.go (hist ++ [x]) = true) (.conj (A.inv (hist ++ [x])) (VC.all (entH σ2.h (A.h (hist ++ [x]) ++ dropH (A.h (hist ++ [x])) (selH (lentN σ.h ca) false σ.h)))))
                            | e2 => match exFind A.js e2 with
                              | some p => .conj (A.go (hist ++ [x]) = false) (.conj (A.inv (hist ++ [x])) (.conj (p (hist ++ [x])) (VC.all (entH σ2.h (A.h (hist ++ [x]) ++ dropH (A.h (hist ++ [x])) (selH (lentN σ.h ca) false σ.h))))))
                              | none => .ff) n [.code bd] σ1
                          | _ => .ff) n [.code as]
                          { s := pSlots ps.toList A.sg x ++ dropS ps.toList (okS (selH (lentN σ.h ca) false σ.h) σ.s []), g := [], h := A.h hist ++ dropH (A.h hist) (selH (lentN σ.h ca) false σ.h) }) else .ff))
                    (.imp (A.inv (e ▸ H)) (.both
                      (.imp (live A.go (e ▸ H)) (vc φ post n r { s := σ.s, g := [], h := A.h (e ▸ H) ++ dropH (A.h (e ▸ H)) σ.h }))
                      (A.js.foldr (fun q v => .both (.imp (¬ live A.go (e ▸ H)) (.imp (q.2 (e ▸ H)) (vc φ post n (.code q.1.code :: r) { s := σ.s, g := [], h := A.h (e ▸ H) ++ dropH (A.h (e ▸ H)) σ.h }))) v) .tt)))))))
                else .ff
              | none => .ff
            | _ => .ff
          | none => .ff
        | _, _ => .ff
      | _, _ => .ff
    | .loop b => match firstRegion 20 b with
      | some i => match φ.ann i σ with
        | some A => .both (.ex fun x => .conj (A.inv x) (VC.all (entS σ.s (A.s x) ++ entH σ.h (A.h x))))
            (.fa fun x => .imp (A.inv x) (if slotsOk (A.h x ++ dropH (A.h x) σ.h) (A.s x) && heapOk (A.h x ++ dropH (A.h x) σ.h) (A.h x) then
              vc φ post n (.code b :: .lend A x (fun x => { s := A.s x ++ dropS (dsts 20 b) σ.s, g := [], h := A.h x ++ dropH (A.h x) σ.h }) :: r)
                { s := A.s x ++ dropS (dsts 20 b) σ.s, g := [], h := A.h x ++ dropH (A.h x) σ.h } else .ff))
        | none => .ff
      | none => .ff
    | _ => .ff

def resOf (σ : St) : List ResultVar → Option (List TV)
  | [] => some []
  | .tmp t :: r => match look σ.s t, resOf σ r with
    | some (.t x), some xs => some (x :: xs)
    | _, _ => none
  | .cell a t :: r => match look σ.s a, L t, resOf σ r with
    | some (.t q), some y, some xs => match loadFrom σ y q with
      | some x => some (x :: xs)
      | none => none
    | _, _, _ => none
def resAV : List TV → AV
  | [x] => .t x
  | xs => .tup xs
def args0 : Nat → List TV → List (Nat × AV)
  | _, [] => []
  | i, x :: r => (i, .t x) :: args0 (i + 1) r
/-- a function that touches nothing of its caller's: its results are r -/
def postOf (rs : List ResultVar) (r : AV) (σ : St) : VC := match resOf L σ rs with
  | some xs => match frzA σ.h (resAV xs) with
    | (ps, (y, _)) => VC.all (ps ++ eqAV (coA r y) r)
  | none => .ff
def vcFn (φ : Fn) (rs : List ResultVar) (c : Code) (args : List TV) (r : AV) : VC :=
  vc L Γ φ (fun e σ => match e with | .ex _ => .ff | _ => postOf L rs r σ) 4000 [.code c] { s := args0 0 args, g := [], h := [] }
end Go.Sy
