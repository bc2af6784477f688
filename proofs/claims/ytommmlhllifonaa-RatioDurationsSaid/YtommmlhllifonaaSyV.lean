/- A verified generator of conditions for this program, and its soundness: part V of the proof. -/
import Derived.Test.YtommmlhllifonaaSyA
namespace Go.Sy

/-! code to a tree of conditions -/
def VC.fcts : List Cd → VC → VC
  | [], v => v
  | .ob _ :: r, v => VC.fcts r v
  | .fact p :: r, v => .imp p (VC.fcts r v)

/-- a loop's annotation: a ghost x; what holds of it; a measure; the slots and blocks that the body changes, at the head -/
structure Ann : Type 1 where
  X : Type
  inv : X → Prop
  m : X → Nat
  s : X → List (Nat × AV)
  h : X → List (Nat × HO) := fun _ => []

inductive It : Type 1
  | code (c : Code)
  | blk (id : Nat)
  | lend (A : Ann) (x : A.X) (hd : A.X → St)

def mem (l : List Nat) (k : Nat) : Bool :=
  match l with
  | [] => false
  | a :: r => a == k || mem r k

/-- the slots that are read later -/
def keepS (keep : List Nat) : List (Nat × AV) → List Nat → List (Nat × AV)
  | [], _ => []
  | (k, v) :: r, seen => if mem keep k && !mem seen k then (k, v) :: keepS keep r (k :: seen) else keepS keep r (k :: seen)
/-- one entry a block -/
def keepH : List (Nat × HO) → List Nat → List (Nat × HO)
  | [], _ => []
  | (k, v) :: r, seen => if !mem seen k then (k, v) :: keepH r (k :: seen) else keepH r seen

def dsts : Nat → Code → List Nat
  | 0, _ => []
  | n + 1, c => match c with
    | .region _ ops _ => ops.toList.filterMap (·.dst)
    | .seq a b => dsts n a ++ dsts n b
    | .cond _ a b => dsts n a ++ dsts n b
    | .block _ a => dsts n a
    | .loop a => dsts n a
    | .scope a => dsts n a
    | _ => []

def dropTo (id : Nat) : List It → Option (List It)
  | [] => none
  | .blk i :: r => if i == id then some r else dropTo id r
  | .code _ :: r => dropTo id r
  | .lend _ _ _ :: r => dropTo id r

def eqDV : DV → DV → List Prop
  | .lit (.int k a), .lit (.int k' b) => if k = k' then [a = b] else [False]
  | .lit (.bool a), .lit (.bool b) => [a = b]
  | .sl τ l, .sl σ m => match Ty.same τ σ with
    | some ⟨h⟩ => [(h ▸ l : List σ.T) = m]
    | none => [False]
  | x, y => [x = y]
def eqLV : LV → LV → List Prop
  | .d x, .d y => eqDV x y
  | .ptr n o, .ptr m q => if n = m ∧ o = q then [] else [False]
  | .own n x, .own m y => if n = m then eqDV x y else [False]
  | .mp n, .mp m => if n = m then [] else [False]
  | x, y => [x = y]
def eqLVs : List LV → List LV → List Prop
  | [], [] => []
  | x :: r, y :: q => eqLV x y ++ eqLVs r q
  | _, _ => [False]
def eqTV : TV → TV → List Prop
  | .one x, .one y => eqLV x y
  | .agg x, .agg y => eqLVs x y
  | _, _ => [False]
def eqTVs : List TV → List TV → List Prop
  | [], [] => []
  | x :: r, y :: q => eqTV x y ++ eqTVs r q
  | _, _ => [False]
def eqAV : AV → AV → List Prop
  | .t x, .t y => eqTV x y
  | .tup x, .tup y => eqTVs x y
  | _, _ => [False]
def eqHO : HO → HO → List Prop
  | .cells a, .cells b => eqLVs a b
  | .gr e s a, .gr e' s' b => if e = e' ∧ s = s' then [a = b] else [False]
  | x, y => [x = y]
/-- a value as it is wanted: a slice without its room; a nil slice at a type -/
def coD : DV → DV → DV
  | .sl τ _, .sl .tu _ => .sl τ []
  | _, y => y
def coL : LV → LV → LV
  | .d w, .own _ x => .d (coD w x)
  | .d w, .d x => .d (coD w x)
  | _, y => y
def coLs : List LV → List LV → List LV
  | w :: ws, x :: xs => coL w x :: coLs ws xs
  | _, xs => xs
def coT : TV → TV → TV
  | .one w, .one x => .one (coL w x)
  | .agg ws, .agg xs => .agg (coLs ws xs)
  | _, y => y
def coTs : List TV → List TV → List TV
  | w :: ws, x :: xs => coT w x :: coTs ws xs
  | _, xs => xs
def coA : AV → AV → AV
  | .t w, .t x => .t (coT w x)
  | .tup ws, .tup xs => .tup (coTs ws xs)
  | _, y => y
def entS (σ : List (Nat × AV)) : List (Nat × AV) → List Prop
  | [] => []
  | (k, v) :: r => (match look σ k with | some u => eqAV (coA v u) v | none => [False]) ++ entS σ r
def entH (σ : List (Nat × HO)) : List (Nat × HO) → List Prop
  | [] => []
  | (k, v) :: r => (match look σ k with | some u => eqHO u v | none => [False]) ++ entH σ r

def dropS (ds : List Nat) : List (Nat × AV) → List (Nat × AV)
  | [] => []
  | (k, v) :: r => if mem ds k then dropS ds r else (k, v) :: dropS ds r
def dropH (ds : List (Nat × HO)) : List (Nat × HO) → List (Nat × HO)
  | [] => []
  | (k, v) :: r => match look ds k with
    | some _ => dropH ds r
    | none => (k, v) :: dropH ds r

def firstRegion : Nat → Code → Option Nat
  | 0, _ => none
  | n + 1, c => match c with
    | .region id _ _ => some id
    | .seq a b => match firstRegion n a with | some i => some i | none => firstRegion n b
    | .cond _ a b => match firstRegion n a with | some i => some i | none => firstRegion n b
    | .block _ a => firstRegion n a
    | .loop a => firstRegion n a
    | .scope a => firstRegion n a
    | _ => none

/-- all pointers of the state lead to blocks of the state -/
def ptrOk (h : List (Nat × HO)) (n : Nat) : Bool := match look h n with | some _ => true | none => false
def ptrsOk (h : List (Nat × HO)) : List (Nat × Nat) → Bool
  | [] => true
  | (n, _) :: r => ptrOk h n && ptrsOk h r
def lvOk (h : List (Nat × HO)) : LV → Bool
  | .ptr n _ => ptrOk h n
  | .clo _ a b => ptrsOk h a && ptrsOk h b
  | .own n _ => ptrOk h n
  | .mp n => ptrOk h n
  | _ => true
def lvsOk (h : List (Nat × HO)) : List LV → Bool
  | [] => true
  | x :: r => lvOk h x && lvsOk h r
def tvOk (h : List (Nat × HO)) : TV → Bool
  | .one x => lvOk h x
  | .agg xs => lvsOk h xs
def tvsOk (h : List (Nat × HO)) : List TV → Bool
  | [] => true
  | x :: r => tvOk h x && tvsOk h r
def avOk (h : List (Nat × HO)) : AV → Bool
  | .t x => tvOk h x
  | .tup xs => tvsOk h xs
def slotsOk (h : List (Nat × HO)) : List (Nat × AV) → Bool
  | [] => true
  | (_, v) :: r => avOk h v && slotsOk h r
def heapOk (h : List (Nat × HO)) : List (Nat × HO) → Bool
  | [] => true
  | (_, .cells b) :: r => lvsOk h b && heapOk h r
  | (_, .gr _ _ _) :: r => heapOk h r
  | (_, .mp _ _ _) :: r => heapOk h r

variable (L : Nat → Option Lay) (Γ : Nat → Option Con)

structure Fn : Type 1 where
  N : Nat
  keep : List Nat
  ann : Nat → Option Ann := fun _ => none
  draw : List Oper → St → Bool := fun _ _ => false

def vc (φ : Fn) (post : St → VC) : Nat → List It → St → VC
  | 0, _, _ => .ff
  | _ + 1, [], σ => post σ
  | n + 1, .blk _ :: r, σ => vc φ post n r σ
  | _ + 1, .lend A x hd :: _, σ => .ex fun x' => .conj (A.inv x') (.conj (A.m x' < A.m x) (VC.all (entS σ.s (hd x').s ++ entH σ.h (hd x').h)))
  | n + 1, .code c :: r, σ => match c with
    | .skip => vc φ post n r σ
    | .region _ ops false => match asteps L Γ φ.N ops.toList ops.toList σ with
      | some (cs, σ') => VC.ands cs (vc φ post n r { s := keepS φ.keep σ'.s [], g := [], h := keepH σ'.h [] })
      | none => .ff
    | .region _ ops true => match asteps L Γ φ.N ops.toList ops.toList σ with
      | some (cs, σ') => if φ.draw ops.toList σ then VC.obs cs (VC.fcts cs (vc φ post n r { s := keepS φ.keep σ'.s [], g := [], h := keepH σ'.h [] })) else .ff
      | none => .ff
    | .seq a b => vc φ post n (.code a :: .code b :: r) σ
    | .cond c a b => match opT [] σ c with
      | some (.one (.d (.lit (.bool x)))) => .both (.imp (x = true) (vc φ post n (.code a :: r) σ)) (.imp (x = false) (vc φ post n (.code b :: r) σ))
      | _ => .ff
    | .block id b => vc φ post n (.code b :: .blk id :: r) σ
    | .exit id => match dropTo id r with
      | some r' => vc φ post n r' σ
      | none => .ff
    | .ret => post σ
    | .loop b => match firstRegion 20 b with
      | some i => match φ.ann i with
        | some A => .both (.ex fun x => .conj (A.inv x) (VC.all (entS σ.s (A.s x) ++ entH σ.h (A.h x))))
            (.fa fun x => .imp (A.inv x) (if slotsOk (A.h x ++ dropH (A.h x) σ.h) (A.s x) && heapOk (A.h x ++ dropH (A.h x) σ.h) (A.h x) then
              vc φ post n (.code b :: .lend A x (fun x => { s := A.s x ++ dropS (dsts 20 b) σ.s, g := [], h := A.h x ++ dropH (A.h x) σ.h }) :: r)
                { s := A.s x ++ dropS (dsts 20 b) σ.s, g := [], h := A.h x ++ dropH (A.h x) σ.h } else .ff))
        | none => .ff
      | none => .ff
    | _ => .ff

def resOf (σ : St) : List ResultVar → Option (List TV)
  | [] => some []
  | .tmp t :: r => match look σ.s t, resOf σ r with
    | some (.t x), some xs => some (x :: xs)
    | _, _ => none
  | .cell a t :: r => match look σ.s a, L t, resOf σ r with
    | some (.t q), some y, some xs => match loadFrom σ y q with
      | some x => some (x :: xs)
      | none => none
    | _, _, _ => none
def resAV : List TV → AV
  | [x] => .t x
  | xs => .tup xs
def args0 : Nat → List TV → List (Nat × AV)
  | _, [] => []
  | i, x :: r => (i, .t x) :: args0 (i + 1) r
/-- a function that touches nothing of its caller's: its results are r -/
def postOf (rs : List ResultVar) (r : AV) (σ : St) : VC := match resOf L σ rs with
  | some xs => VC.all (eqAV (coA r (resAV xs)) r)
  | none => .ff
def vcFn (φ : Fn) (rs : List ResultVar) (c : Code) (args : List TV) (r : AV) : VC :=
  vc L Γ φ (postOf L rs r) 4000 [.code c] { s := args0 0 args, g := [], h := [] }
end Go.Sy
