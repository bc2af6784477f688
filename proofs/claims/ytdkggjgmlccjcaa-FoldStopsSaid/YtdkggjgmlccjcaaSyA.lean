/- A verified generator of conditions for this program, and its soundness: part A of the proof. -/
import Derived.RangeFuncNested
namespace Go.Sy

/-! abstract values, abstract state, the evaluation of operations and of code to a tree of conditions -/
inductive LK | i | b | s
inductive Ty | tu | ti (k : IntKind) | tb | ts | tp (x y : Ty) | tl (x : Ty)
def Ty.T : Ty → Type
  | .tu => Unit
  | .ti _ => Int
  | .tb => Bool
  | .ts => ByteArray
  | .tp x y => x.T × y.T
  | .tl x => List x.T
def Ty.same : (a c : Ty) → Option (PLift (a = c))
  | .tu, .tu => some ⟨rfl⟩
  | .ti k, .ti k' => if h : k = k' then some ⟨by rw [h]⟩ else none
  | .tb, .tb => some ⟨rfl⟩
  | .ts, .ts => some ⟨rfl⟩
  | .tp a e, .tp c d => match Ty.same a c, Ty.same e d with
    | some ⟨h⟩, some ⟨h'⟩ => some ⟨by rw [h, h']⟩
    | _, _ => none
  | .tl a, .tl c => match Ty.same a c with
    | some ⟨h⟩ => some ⟨by rw [h]⟩
    | none => none
  | _, _ => none
def Ty.d0 : (τ : Ty) → τ.T
  | .tu => ()
  | .ti _ => (0 : Int)
  | .tb => false
  | .ts => ByteArray.empty
  | .tp x y => (x.d0, y.d0)
  | .tl _ => []
def Ty.size : Ty → Nat
  | .tu => 0
  | .ti _ => 1
  | .tb => 1
  | .ts => 1
  | .tp x y => x.size + y.size
  | .tl _ => 1
/-- keys: equal ones; the kinds of their leafs -/
def Ty.beq : (τ : Ty) → τ.T → τ.T → Bool
  | .tu, _, _ => true
  | .ti _, a, b => (show Int from a) == b
  | .tb, a, b => (show Bool from a) == b
  | .ts, a, b => (show ByteArray from a) == b
  | .tp x y, a, b => x.beq a.1 b.1 && y.beq a.2 b.2
  | .tl _, _, _ => false
def Ty.lks : Ty → List LK
  | .ti _ => [.i]
  | .tb => [.b]
  | .ts => [.s]
  | .tp x y => x.lks ++ y.lks
  | _ => []
def Ty.cmp : Ty → Bool
  | .ti _ => true
  | .tb => true
  | .ts => true
  | .tp x y => x.cmp && y.cmp
  | _ => false
def mget {α β : Type _} (e : α → α → Bool) (k : α) : List (α × β) → Option β
  | [] => none
  | p :: r => if e k p.1 then some p.2 else mget e k r
def mput {α β : Type _} (e : α → α → Bool) (k : α) (v : β) : List (α × β) → List (α × β)
  | [] => [(k, v)]
  | p :: r => if e k p.1 then (k, v) :: r else p :: mput e k v r
inductive DV : Type
  | lit (v : Value)
  | sl (τ : Ty) (l : List τ.T)
/-- the cells of a plain value -/
def Ty.enc : (τ : Ty) → τ.T → Nat → DV
  | .tu, _, _ => .lit undef
  | .ti k, n, _ => .lit (.int k n)
  | .tb, q, _ => .lit (.bool q)
  | .ts, q, _ => .lit (.string q)
  | .tp x y, v, j => bif Nat.blt j x.size then x.enc v.1 j else y.enc v.2 (j - x.size)
  | .tl x, v, _ => .sl x v
inductive LV : Type
  | d (x : DV)
  | ptr (n off : Nat)
  | dptr (k : Nat) (c : Nat → DV)
  | clo (f : FuncId) (first caps : List (Nat × Nat))
  /-- a slice x, of which the call holds the room behind it: name n -/
  | own (n : Nat) (x : DV)
  /-- a map of the state's -/
  | mp (n : Nat)
  /-- what a loop over a function hands to this function: name n -/
  | yl (n : Nat)
  /-- a slice of k elements whose room n the call holds, elements and all -/
  | vr (n k : Nat)
  /-- a pointer into such a slice's room, made when it had k elements: element i (sz cells each), cell off, wd cells -/
  | vp (n k sz i off wd : Nat)
inductive TV : Type
  | one (x : LV)
  | agg (xs : List LV)
inductive AV : Type
  | t (x : TV)
  | tup (xs : List TV)
/-- several values as one -/
def tpl : List Ty → Ty
  | [] => .tu
  | a :: r => .tp a (tpl r)
def Ty.ag : Ty → Bool
  | .tp _ _ => true
  | _ => false
/-- when a loop goes on; what it may be handed -/
structure Lp (α : Type) where
  go : List α → Bool
  ok : List α → Prop := fun _ => True
instance {α : Type} : CoeFun (Lp α) (fun _ => List α → Bool) := ⟨Lp.go⟩
inductive HO : Type
  | cells (b : List LV)
  /-- a slice's room: elements of type e, sz cells each; the slice that may grow has len of them -/
  | gr (e sz len : Nat)
  /-- a map: what it holds, in the order in which it came -/
  | mp (κ ν : Ty) (l : List (κ.T × ν.T))
  /-- a loop over a function: what has come, and whether it goes on -/
  | ob (sg : List Ty) (hist : List (tpl sg).T) (go : Lp (tpl sg).T)
  /-- a slice's room whose elements may be written -/
  | vec (τ : Ty) (e : Nat) (l : List τ.T)
def HO.isOb : HO → Bool
  | .ob _ _ _ => true
  | _ => false
/-- the loop has not been left -/
def live {α : Type} (go : Lp α) (hist : List α) : Prop := hist = [] ∨ go hist = true
/-- x may be handed on -/
def liveX {α : Type} (go : Lp α) (hist : List α) (x : α) : Prop := live go hist ∧ go.ok (hist ++ [x])

structure St where
  s : List (Nat × AV)
  g : List (Nat × (Nat × Bool × TV))
  h : List (Nat × HO)

structure Lay where
  size : Nat := 1
  agg : Bool := false
  zero : List DV := []
  fs : List (Nat × Nat) := []
  kind : Option IntKind := none
  el : Option Nat := none
  ety : Option (Ty × Nat × Nat) := none
  mpt : Option (Ty × Ty) := none
  eqs : Option (List LK) := none
  vec : Bool := false
  /-- of which operations (1000000 + their slot) it is not -/
  nov : List Nat := []
  wr : Bool := false
  cv : List (Nat × (Ty × (Nat × Bool))) := []
  cz : List (Nat × Ty) := []

def look {β : Type _} : List (Nat × β) → Nat → Option β
  | [], _ => none
  | (a, x) :: r, k => if a == k then some x else look r k

def li (k : IntKind) (n : Int) : LV := .d (.lit (.int k n))
def lb (b : Bool) : LV := .d (.lit (.bool b))
def TV.cells : TV → List LV
  | .one x => [x]
  | .agg xs => xs
def nilS : DV := .sl .tu []
/-- without its room -/
def LV.st : LV → LV
  | .own _ x => .d x
  | x => x
def stL : List LV → List LV
  | [] => []
  | x :: r => x.st :: stL r
def TV.st : TV → TV
  | .one x => .one x.st
  | .agg xs => .agg (stL xs)
def stT : List TV → List TV
  | [] => []
  | x :: r => x.st :: stT r

def has (G : List (Nat × Bool)) (g : Nat) (w : Bool) : Bool :=
  match G with
  | [] => false
  | (a, b) :: r => (a == g && b == w) || has r g w

def constV (v : Value) : Option AV :=
  match v with
  | .agg _ => none
  | .tuple _ => none
  | .slice none 0 0 => some (.t (.one (.d nilS)))
  | v => some (.t (.one (.d (.lit v))))

def opd (G : List (Nat × Bool)) (σ : St) : Operand → Option AV
  | .tmp t => match look σ.g t with
    | some (g, w, x) => if has G g w then some (.t x) else none
    | none => look σ.s t
  | .const v => constV v
  | .func f => some (.t (.one (.clo f [] [])))
  | .global _ => none

def opT (G : List (Nat × Bool)) (σ : St) (o : Operand) : Option TV :=
  match opd G σ o with
  | some (.t x) => some x
  | _ => none

/-- the same, without its room -/
def opS (G : List (Nat × Bool)) (σ : St) (o : Operand) : Option TV :=
  match opT G σ o with
  | some x => some x.st
  | none => none

def mapT (f : Operand → Option TV) : List Operand → Option (List TV)
  | [] => some []
  | o :: r => match f o with
    | some x => match mapT f r with
      | some xs => some (x :: xs)
      | none => none
    | none => none

def mapP (f : Operand → Option TV) : List (Nat × Operand) → Option (List (Nat × TV))
  | [] => some []
  | (i, o) :: r => match f o with
    | some x => match mapP f r with
      | some xs => some ((i, x) :: xs)
      | none => none
    | none => none

def chain (ops : List Oper) : Nat → Option (Nat × Bool) → List (Nat × Bool)
  | 0, _ => []
  | _ + 1, none => []
  | n + 1, some (j, w) => match ops[j]? with
    | some o => match o.dst with
      | some t => (t, w) :: chain ops n o.guard
      | none => []
    | none => []

def boolOf : TV → Option Bool
  | .one (.d (.lit (.bool x))) => some x
  | _ => none

def guards (σ : St) : List (Nat × Bool) → Option (List Prop)
  | [] => some []
  | (t, w) :: r => match r with
    | [] => match look σ.g t with
      | some _ => none
      | none => match look σ.s t with
        | some (.t x) => match boolOf x with
          | some b => some [b = w]
          | none => none
        | _ => none
    | (t', w') :: _ => match look σ.g t with
      | some (g, v, x) => if g == t' && v == w' then
          match boolOf x, guards σ r with
          | some b, some l => some ((b = w) :: l)
          | _, _ => none
        else none
      | none => none

def All : List Prop → Prop
  | [] => True
  | [p] => p
  | p :: r => p ∧ All r
inductive VC : Type 1
  | tt | ff
  | at (p : Prop)
  | conj (p : Prop) (v : VC)
  | imp (p : Prop) (v : VC)
  | both (a b : VC)
  | ex {α : Type} (f : α → VC)
  | fa {α : Type} (f : α → VC)
def VC.holds : VC → Prop
  | .tt => True
  | .ff => False
  | .at p => p
  | .conj p v => p ∧ v.holds
  | .imp p v => p → v.holds
  | .both a b => a.holds ∧ b.holds
  | .ex f => ∃ x, (f x).holds
  | .fa f => ∀ x, (f x).holds
inductive Cd | ob (p : Prop) | fact (p : Prop)
def VC.ands : List Cd → VC → VC
  | [], v => v
  | .ob p :: r, v => .conj p (VC.ands r v)
  | .fact p :: r, v => .imp p (VC.ands r v)
def VC.obs : List Cd → VC → VC
  | [], v => v
  | .ob p :: r, v => .conj p (VC.obs r v)
  | .fact _ :: r, v => VC.obs r v
def VC.all : List Prop → VC
  | [] => .tt
  | [p] => .at p
  | p :: r => .conj p (VC.all r)
def InI64 (x : Int) : Prop := -9223372036854775808 ≤ x ∧ x ≤ 9223372036854775807

/-- the opposite, as the machine has it -/
def negW (a : Int) : Int := IntKind.i64.wrap (-a)
def getAt (l : List LV) (off n : Nat) : Option (List LV) := if off + n ≤ l.length then some ((l.drop off).take n) else none
def setAt (l : List LV) (off : Nat) (xs : List LV) : Option (List LV) :=
  if off + xs.length ≤ l.length then some (l.take off ++ (xs ++ l.drop (off + xs.length))) else none

abbrev Con := List TV → (Nat → Option HO) → Nat → Option (List Prop × AV × List (Nat × HO))

structure Res where
  v : AV
  c : List Prop := []
  f : List Prop := []
  h : List (Nat × HO) := []

def arith (op : BinOp) (k : IntKind) (x y : Int) : Option Res :=
  match op, k with
  | .add, .i64 => some { v := .t (.one (li .i64 (x + y))), c := [InI64 (x + y)] }
  | .sub, .i64 => some { v := .t (.one (li .i64 (x - y))), c := [InI64 (x - y)] }
  | .mul, .i64 => some { v := .t (.one (li .i64 (x * y))), c := [InI64 (x * y)] }
  | .quo, .i64 => some { v := .t (.one (li .i64 (x.tdiv y))), c := [y ≠ 0, InI64 (x.tdiv y)] }
  | .rem, .i64 => some { v := .t (.one (li .i64 (x.tmod y))), c := [y ≠ 0] }
  | .eql, _ => some { v := .t (.one (lb (x == y))) }
  | .neq, _ => some { v := .t (.one (lb (x != y))) }
  | .lss, _ => some { v := .t (.one (lb (decide (x < y)))) }
  | .leq, _ => some { v := .t (.one (lb (decide (x ≤ y)))) }
  | .gtr, _ => some { v := .t (.one (lb (decide (x > y)))) }
  | .geq, _ => some { v := .t (.one (lb (decide (x ≥ y)))) }
  | _, _ => none

def leafEq : LK → LV → LV → Option Bool
  | .i, .d (.lit (.int k a)), .d (.lit (.int k' b)) => if k = k' then some (a == b) else none
  | .b, .d (.lit (.bool a)), .d (.lit (.bool b)) => some (a == b)
  | .s, .d (.lit (.string a)), .d (.lit (.string b)) => some (a == b)
  | _, _, _ => none
def leafsEq : List LK → List LV → List LV → Option Bool
  | [], [], [] => some true
  | k :: p, a :: r, b :: q => match leafEq k a b, leafsEq p r q with
    | some x, some y => some (match r with | [] => x | _ => x && y)
    | _, _ => none
  | _, _, _ => none

def ptrs : List (Nat × Nat) → List TV
  | [] => []
  | (n, o) :: r => .one (.ptr n o) :: ptrs r

def asPtrs : List TV → Option (List (Nat × Nat))
  | [] => some []
  | .one (.ptr n o) :: r => match asPtrs r with
    | some l => some ((n, o) :: l)
    | none => none
  | _ => none

def wrapD : List DV → List LV
  | [] => []
  | x :: r => .d x :: wrapD r

def dcells (c : Nat → DV) : Nat → Nat → List LV
  | _, 0 => []
  | i, n + 1 => .d (c i) :: dcells c (i + 1) n

/-- a plain value as an abstract one -/
def tvOf (τ : Ty) (v : τ.T) : TV := if τ.ag then .agg (dcells (τ.enc v) 0 τ.size) else .one (.d (τ.enc v 0))

def fill (fs : List (Nat × Nat)) (cells : List LV) : List (Nat × TV) → Option (List LV)
  | [] => some cells
  | (i, v) :: r => match fs[i]? with
    | some (off, size) => if v.cells.length = size then
        match setAt cells off v.cells with
        | some cs => fill fs cs r
        | none => none
      else none
    | none => none

def builtinA (L : Nat → Option Lay) (b : Builtin) (ts : List TypeId) (args : List TV) : Option Res :=
  match b, ts, args with
  | .len, [t], [.one (.d (.sl _ l))] => match L t with
    | some y => match y.el with
      | some _ => some { v := .t (.one (li .i64 l.length)), f := [(l.length : Int) ≤ 9223372036854775807] }
      | none => none
    | none => none
  | .max, _, [.one (.d (.lit (.int k x))), .one (.d (.lit (.int _ y)))] => some { v := .t (.one (li k (if y > x then y else x))) }
  | .min, _, [.one (.d (.lit (.int k x))), .one (.d (.lit (.int _ y)))] => some { v := .t (.one (li k (if y < x then y else x))) }
  | _, _, _ => none

/-- the elements of a slice, at type τ -/
def asL (τ : Ty) : DV → Option (List τ.T)
  | .sl σ l => match σ.same τ with
    | some ⟨h⟩ => some (h ▸ l)
    | none => match σ with
      | .tu => some []
      | _ => none
  | _ => none
def isNil : DV → Bool
  | .sl .tu _ => true
  | _ => false
/-- the name of a slice's room that slot d made -/
def rm (d : Nat) : Nat := 70000 + d

def appendA (L : Nat → Option Lay) (hp : Nat → Option HO) (ts : List TypeId) (dst : Option Nat) (s x : TV) : Option Res :=
  match ts with
  | [t, t'] => if t = t' then match L t with
    | some y => match y.ety, x.st with
      | some (τ, e, by'), .one (.d x) => match asL τ x, s with
        | some l', .one (.own n (.sl σ l)) => match σ.same τ, hp n with
          | some ⟨h⟩, some (.gr e' sz len) => if e' = e ∧ sz = τ.size then
              some { v := .t (.one (.own n (.sl τ ((h ▸ l) ++ l')))), c := [l.length = len, (len + l'.length) * by' ≤ 140737488355328], h := [(n, .gr e sz (len + l'.length))] }
            else none
          | _, _ => none
        | some l', .one (.d s) => match isNil s, dst with
          | true, some d => match hp (rm d) with
            | none => some { v := .t (.one (.own (rm d) (.sl τ l'))), c := [l'.length * by' ≤ 140737488355328], h := [(rm d, .gr e τ.size l'.length)] }
            | some _ => none
          | _, _ => none
        | _, _ => none
      | _, _ => none
    | none => none
    else none
  | _ => none

variable (L : Nat → Option Lay) (Γ : Nat → Option Con)

def pickB (a b : Operand) (x y z : Bool) : Bool :=
  match a, b with
  | .const (.bool true), _ => x || z
  | _, .const (.bool false) => x && y
  | _, _ => bif x then y else z

def aPick (G : List (Nat × Bool)) (σ : St) (tc : Tmp) (a b : Operand) : Option Res :=
  match opT G σ (.tmp tc) with
  | some (.one (.d (.lit (.bool x)))) =>
    match opT ((tc, true) :: G) σ a, opT ((tc, false) :: G) σ b with
    | some (.one (.d (.lit (.bool y)))), some (.one (.d (.lit (.bool z)))) =>
      some { v := .t (.one (lb (pickB a b x y z))) }
    | _, _ => none
  | _ => none

/-- the name of a new slice's room -/
def rmFree (σ : St) : Option Tmp → Option Nat
  | some d => match look σ.h (rm d) with
    | none => some (rm d)
    | some _ => none
  | none => none

def aAlloc (σ : St) (t : TypeId) (dst : Option Tmp) : Option Res :=
  match L t, dst with
  | some y, some d => match look σ.h d with
    | none => match y.ety, rmFree σ (some d) with
      | some (τ, e, _), some n => some { v := .t (.one (.ptr d 0)), h := [(n, .gr e τ.size 0), (d, .cells [.own n (.sl τ [])])] }
      | _, _ => some { v := .t (.one (.ptr d 0)), h := [(d, .cells (wrapD y.zero))] }
    | some _ => none
  | _, _ => none

/-- a nil slice, with the room that it has not -/
def aNil (σ : St) (t : TypeId) (x : Operand) (dst : Option Tmp) : Option Res :=
  match x with
  | .const (.slice none 0 0) => match L t with
    | some y => match y.ety with
      | some (τ, e, _) => match rmFree σ dst with
        | some n => some { v := .t (.one (.own n (.sl τ []))), h := [(n, .gr e τ.size 0)] }
        | none => some { v := .t (.one (.d (.sl τ []))) }
      | none => none
    | none => none
  | _ => none

def aBox (G : List (Nat × Bool)) (σ : St) (x : Operand) (dst : Option Tmp) : Option Res :=
  match opT G σ x, dst with
  | some v, some d => match look σ.h d with
    | none => some { v := .t (.one (.ptr d 0)), h := [(d, .cells v.cells)] }
    | some _ => none
  | _, _ => none

def aBuild (G : List (Nat × Bool)) (σ : St) (t : TypeId) (parts : List (Nat × Operand)) : Option Res :=
  match L t with
  | some y => match mapP (opT G σ) parts with
    | some ps => match fill y.fs (wrapD y.zero) ps with
      | some cs => if y.fs.isEmpty then none else some { v := .t (.agg cs) }
      | none => none
    | none => none
  | none => none

/-- a plain value of a known type out of cells -/
def intAt (k : IntKind) : LV → Option Int
  | .d (.lit (.int k' n)) => if k = k' then some n else none
  | _ => none
def boolAt : LV → Option Bool
  | .d (.lit (.bool q)) => some q
  | _ => none
def strAt : LV → Option ByteArray
  | .d (.lit (.string q)) => some q
  | _ => none
def slAt (τ : Ty) : LV → Option (List τ.T)
  | .d x => asL τ x
  | _ => none
def leafAt : (τ : Ty) → LV → Option τ.T
  | .ti k, x => intAt k x
  | .tb, x => boolAt x
  | .ts, x => strAt x
  | .tl τ, x => slAt τ x
  | _, _ => none
def takeC : (τ : Ty) → List LV → Option (τ.T × List LV)
  | .tp a c, xs => match takeC a xs with
    | some (u, r) => match takeC c r with
      | some (v, r') => some ((u, v), r')
      | none => none
    | none => none
  | τ, x :: r => match leafAt τ x.st with
    | some v => some (v, r)
    | none => none
  | _, [] => none
def plainC (τ : Ty) (xs : List LV) : Option τ.T := match takeC τ xs with
  | some (v, []) => some v
  | _ => none
def rowsOf (τ : Ty) : List (Nat × TV) → Option (List τ.T)
  | [] => some []
  | (_, x) :: r => match plainC τ x.cells, rowsOf τ r with
    | some v, some vs => some (v :: vs)
    | _, _ => none
def consec : Nat → List (Nat × TV) → Bool
  | _, [] => true
  | n, (i, _) :: r => i == n && consec (n + 1) r

def aRows (G : List (Nat × Bool)) (σ : St) (t : TypeId) (len : Nat) (parts : List (Nat × Operand)) (dst : Option Tmp) : Option Res :=
  match L t, mapP (opT G σ) parts with
  | some y, some ps => match y.ety with
    | some (τ, e, _) => match rowsOf τ ps with
      | some l => if consec 0 ps && (ps.length == len && (Nat.ble 1 τ.size && Nat.ble (len * τ.size) 65536)) then
          match rmFree σ dst with
          | some n => some { v := .t (.one (.own n (.sl τ l))), h := [(n, .gr e τ.size l.length)] }
          | none => none
        else none
      | none => none
    | none => none
  | _, _ => none

/-- the value of type t in the cells xs -/
def asTV (agg : Bool) (xs : List LV) : Option TV :=
  if agg then some (.agg xs) else match xs with
    | [x] => some (.one x)
    | _ => none

def loadFrom (σ : St) (y : Lay) : TV → Option TV
  | .one (.ptr n off) => match look σ.h n with
    | some (.cells b) => match getAt b off y.size with
      | some xs => asTV y.agg xs
      | none => none
    | _ => none
  | .one (.dptr k c) => if y.size ≤ k then asTV y.agg (dcells c 0 y.size) else none
  | _ => none

def aLoad (G : List (Nat × Bool)) (σ : St) (t : TypeId) (p : Operand) : Option Res :=
  match L t, opT G σ p with
  | some y, some q => match loadFrom σ y q with
    | some x => some { v := .t x }
    | none => none
  | _, _ => none

def nilCs : List (Nat × Ty) → List LV → List LV
  | [], xs => xs
  | (j, τ) :: r, xs => match xs[j]? with
    | some (.d (.sl .tu _)) => nilCs r (xs.set j (.d (.sl τ [])))
    | _ => nilCs r xs
/-- a nil constant as a slice of type t -/
def nilT (t : TypeId) (x : TV) : TV :=
  match x with
  | .one (.d (.sl .tu _)) => match L t with
    | some y => match y.ety with
      | some (τ, _, _) => .one (.d (.sl τ []))
      | none => x
    | none => x
  | .agg xs => match L t with
    | some y => .agg (nilCs y.cz xs)
    | none => .agg xs
  | x => x
def nilTs : List TypeId → List TV → List TV
  | t :: ts, x :: xs => nilT L t x :: nilTs ts xs
  | _, xs => xs

def aStore (G : List (Nat × Bool)) (σ : St) (t : TypeId) (p x : Operand) : Option Res :=
  match L t, opT G σ p, opT G σ x with
  | some y, some (.one (.ptr n off)), some v => if (nilT L t v).cells.length = y.size then
      match look σ.h n with
      | some (.cells b) => match setAt b off (nilT L t v).cells with
        | some b' => some { v := .tup [], h := [(n, .cells b')] }
        | none => none
      | _ => none
    else none
  | _, _, _ => none

def aBin (G : List (Nat × Bool)) (σ : St) (op : BinOp) (x y : Operand) : Option Res :=
  match opT G σ x, opT G σ y with
  | some (.one (.d (.lit (.int k a)))), some (.one (.d (.lit (.int k' b)))) => if k = k' then arith op k a b else none
  | _, _ => none

def xorW (k : IntKind) (a b : Int) : Int := k.wrap (BitVec.ofInt k.bits a ^^^ BitVec.ofInt k.bits b).toNat
def andW (k : IntKind) (a b : Int) : Int := k.wrap (BitVec.ofInt k.bits a &&& BitVec.ofInt k.bits b).toNat
def orW (k : IntKind) (a b : Int) : Int := k.wrap (BitVec.ofInt k.bits a ||| BitVec.ofInt k.bits b).toNat
def shlW (k : IntKind) (a b : Int) : Int := k.wrap (a * 2 ^ (min b.toNat k.bits))
def shrW (k : IntKind) (a b : Int) : Int := a.fdiv (2 ^ (min b.toNat k.bits))
def isI64 : IntKind → Bool
  | .i64 => true
  | _ => false
/-- numbers that wrap around -/
def arithW (wr : Bool) (op : BinOp) (k k' : IntKind) (a b : Int) : Option Res :=
  match op with
  | .shl => some { v := .t (.one (li k (shlW k a b))), c := [0 ≤ b] }
  | .shr => some { v := .t (.one (li k (shrW k a b))), c := [0 ≤ b] }
  | op => if k = k' then match op with
    | .and => some { v := .t (.one (li k (andW k a b))) }
    | .or => some { v := .t (.one (li k (orW k a b))) }
    | .xor => some { v := .t (.one (li k (xorW k a b))) }
    | .add => if isI64 k && !wr then none else some { v := .t (.one (li k (k.wrap (a + b)))) }
    | .sub => if isI64 k && !wr then none else some { v := .t (.one (li k (k.wrap (a - b)))) }
    | .mul => if isI64 k && !wr then none else some { v := .t (.one (li k (k.wrap (a * b)))) }
    | .quo => if isI64 k && !wr then none else some { v := .t (.one (li k (k.wrap (a.tdiv b)))), c := [b ≠ 0] }
    | .rem => if isI64 k then none else some { v := .t (.one (li k (a.tmod b))), c := [b ≠ 0] }
    | _ => none
    else none
def aBinW (G : List (Nat × Bool)) (σ : St) (op : BinOp) (t : TypeId) (x y : Operand) : Option Res :=
  match L t, opT G σ x, opT G σ y with
  | some la, some (.one (.d (.lit (.int k a)))), some (.one (.d (.lit (.int k' b)))) => arithW la.wr op k k' a b
  | _, _, _ => none

def aBinAgg (G : List (Nat × Bool)) (σ : St) (op : BinOp) (t : TypeId) (x y : Operand) : Option Res :=
  match L t, opT G σ x, opT G σ y with
  | some la, some (.agg xs), some (.agg ys) => match la.agg, la.eqs with
    | true, some ks => match leafsEq ks xs ys, op with
      | some r, .eql => some { v := .t (.one (lb r)) }
      | some r, .neq => some { v := .t (.one (lb (!r))) }
      | _, _ => none
    | _, _ => none
  | _, _, _ => none

/-- two booleans -/
def aBinB (G : List (Nat × Bool)) (σ : St) (op : BinOp) (t : TypeId) (x y : Operand) : Option Res :=
  match L t, opT G σ x, opT G σ y with
  | some la, some (.one (.d (.lit (.bool a)))), some (.one (.d (.lit (.bool c)))) => match la.agg, la.eqs with
    | false, some [.b] => match op with
      | .eql => some { v := .t (.one (lb (a == c))) }
      | .neq => some { v := .t (.one (lb (a != c))) }
      | _ => none
    | _, _ => none
  | _, _, _ => none

def aUn (G : List (Nat × Bool)) (σ : St) (op : UnOp) (x : Operand) : Option Res :=
  match op, opT G σ x with
  | .neg, some (.one (.d (.lit (.int .i64 a)))) => some { v := .t (.one (li .i64 (negW a))) }
  | .not, some (.one (.d (.lit (.bool a)))) => some { v := .t (.one (lb (!a))) }
  | _, _ => none

def aConv (G : List (Nat × Bool)) (σ : St) (s t : TypeId) (x : Operand) : Option Res :=
  match L s, L t, opT G σ x with
  | some _, some y, some (.one (.d (.lit (.int _ a)))) => match y.kind with
    | some .i64 => if y.wr then some { v := .t (.one (li .i64 (IntKind.i64.wrap a))) } else some { v := .t (.one (li .i64 a)), c := [InI64 a] }
    | some k => some { v := .t (.one (li k (k.wrap a))) }
    | none => none
  | _, _, _ => none

def aFunc (G : List (Nat × Bool)) (σ : St) (f : FuncId) (first caps : List Operand) : Option Res :=
  match mapT (opT G σ) first, mapT (opT G σ) caps with
  | some fi, some ca => match asPtrs fi, asPtrs ca with
    | some fi, some ca => some { v := .t (.one (.clo f fi ca)) }
    | _, _ => none
  | _, _ => none

def aField (G : List (Nat × Bool)) (σ : St) (t : TypeId) (p : Operand) (i : Nat) : Option Res :=
  match L t, opT G σ p with
  | some y, some (.one (.ptr n off)) => match y.fs[i]? with
    | some (fo, _) => some { v := .t (.one (.ptr n (off + fo))) }
    | none => none
  | some y, some (.one (.dptr k c)) => match y.fs[i]? with
    | some (fo, sz) => if fo + sz ≤ k then some { v := .t (.one (.dptr sz (fun j => c (fo + j)))) } else none
    | none => none
  | _, _ => none

def aIndex (G : List (Nat × Bool)) (σ : St) (t : TypeId) (x i : Operand) : Option Res :=
  match L t, opS G σ x, opT G σ i with
  | some y, some (.one (.d (.sl τ l))), some (.one (.d (.lit (.int _ n)))) =>
    match y.el with
    | some sz' => if τ.size = sz' then some { v := .t (.one (.dptr τ.size (τ.enc (l.getD n.toNat τ.d0)))), c := [0 ≤ n, n < l.length] } else none
    | _ => none
  | _, _, _ => none

/-- a part of a slice -/
def bnd (G : List (Nat × Bool)) (σ : St) (d : Int) : Option Operand → Option Int
  | none => some d
  | some o => match opT G σ o with
    | some (.one (.d (.lit (.int _ n)))) => some n
    | _ => none
def aSlice (G : List (Nat × Bool)) (σ : St) (t : TypeId) (x : Operand) (lo hi mx : Option Operand) : Option Res :=
  match L t, opS G σ x, mx with
  | some y, some (.one (.d (.sl τ l))), none => match y.el, bnd G σ 0 lo, bnd G σ l.length hi with
    | some sz, some a, some b => if τ.size = sz then some { v := .t (.one (.d (.sl τ ((l.take b.toNat).drop a.toNat)))), c := [0 ≤ a, a ≤ b, b ≤ l.length] } else none
    | _, _, _ => none
  | _, _, _ => none

def aExtract (G : List (Nat × Bool)) (σ : St) (t : Operand) (i : Nat) : Option Res :=
  match opd G σ t with
  | some (.tup xs) => match xs[i]? with
    | some v => some { v := .t v }
    | none => none
  | _ => none

def arg1 (τ : Ty) : TV → Option τ.T
  | .one x => if τ.ag then none else plainC τ [x]
  | .agg xs => if τ.ag then plainC τ xs else none
def unargs : (sg : List Ty) → List TV → Option (tpl sg).T
  | [], [] => some ()
  | a :: r, x :: xs => match arg1 a x, unargs r xs with
    | some u, some v => some (u, v)
    | _, _ => none
  | _, _ => none

def aCall (G : List (Nat × Bool)) (σ : St) (f : Operand) (args : List Operand) (ts : List TypeId) (fr : Nat) : Option Res :=
  match mapT (opT G σ) args, opT G σ f with
  | some args, some (.one (.clo fid fi ca)) => match Γ fid with
    | some con => match con (ptrs fi ++ (nilTs L ts (stT args) ++ ptrs ca)) (look σ.h) fr with
      | some (cs, r, up) => some { v := r, c := cs, h := up }
      | none => none
    | none => none
  | _, _ => none

/-- what a loop over a function is handed -/
def aYield (G : List (Nat × Bool)) (σ : St) (f : Operand) (args : List Operand) : Option Res :=
  match opT G σ f with
  | some (.one (.yl n)) => match look σ.h n, mapT (opT G σ) args with
    | some (.ob sg hist go), some xs => match unargs sg (stT xs) with
      | some x => some { v := .t (.one (lb (go (hist ++ [x])))), c := [liveX go hist x], h := [(n, .ob sg (hist ++ [x]) go)] }
      | none => none
    | _, _ => none
  | _ => none

/-- the name of a new map -/
def md (d : Nat) : Nat := 80000 + d
def aMake (σ : St) (t : TypeId) (dst : Option Tmp) : Option Res :=
  match L t, dst with
  | some y, some d => match y.mpt, look σ.h (md d) with
    | some (κ, ν), none => some { v := .t (.one (.mp (md d))), h := [(md d, .mp κ ν [])] }
    | _, _ => none
  | _, _ => none
/-- a map of the state's, as one of type t -/
def mapAt (hp : Nat → Option HO) (κ ν : Ty) (n : Nat) : Option (List (κ.T × ν.T)) :=
  match hp n with
  | some (.mp κ' ν' l) => match κ'.same κ, ν'.same ν with
    | some ⟨h1⟩, some ⟨h2⟩ => some (h2 ▸ h1 ▸ l)
    | _, _ => none
  | _ => none
def aLook (G : List (Nat × Bool)) (σ : St) (t : TypeId) (m k : Operand) (ok : Bool) : Option Res :=
  match L t, opT G σ m, opS G σ k with
  | some y, some (.one (.mp n)), some k => match y.mpt with
    | some (κ, ν) => match mapAt (look σ.h) κ ν n, arg1 κ k with
      | some l, some k => if ok then some { v := .tup [tvOf ν ((mget κ.beq k l).getD ν.d0), .one (lb (mget κ.beq k l).isSome)] } else some { v := .t (tvOf ν ((mget κ.beq k l).getD ν.d0)) }
      | _, _ => none
    | none => none
  | _, _, _ => none
def aUpd (G : List (Nat × Bool)) (σ : St) (t : TypeId) (m k v : Operand) : Option Res :=
  match L t, opT G σ m, opS G σ k, opS G σ v with
  | some y, some (.one (.mp n)), some k, some v => match y.mpt with
    | some (κ, ν) => match mapAt (look σ.h) κ ν n, arg1 κ k, arg1 ν v with
      | some l, some k, some v => some { v := .tup [], h := [(n, .mp κ ν (mput κ.beq k v l))] }
      | _, _, _ => none
    | none => none
  | _, _, _, _ => none
def mapLen (hp : Nat → Option HO) (ts : List TypeId) (n : Nat) : Option Res :=
  match ts with
  | [t] => match L t with
    | some y => match y.mpt, hp n with
      | some _, some (.mp _ _ l) => some { v := .t (.one (li .i64 l.length)) }
      | _, _ => none
    | none => none
  | _ => none

def aBuiltin (G : List (Nat × Bool)) (σ : St) (b : Builtin) (ts : List TypeId) (args : List Operand) (dst : Option Nat) : Option Res :=
  match mapT (opT G σ) args with
  | some args => match b with
    | .append => match args with
      | [s, x] => appendA L (look σ.h) ts dst s x
      | _ => none
    | .len => match args with
      | [.one (.mp n)] => mapLen L (look σ.h) ts n
      | args => builtinA L .len ts (stT args)
    | b => builtinA L b ts (stT args)
  | none => none

/-- one operation, its operands resolved under the chain G -/
def aop0 (G : List (Nat × Bool)) (σ : St) (o : Oper) : Option Res :=
  match o.op with
  | .move x | .assign x => match aNil L σ o.type x o.dst with
    | some r => some r
    | none => match opd G σ x with
      | some v => some { v := v }
      | none => none
  | .pick (.tmp tc) a b => aPick G σ tc a b
  | .alloc t => aAlloc L σ t o.dst
  | .box _ x => aBox G σ x o.dst
  | .build t parts => aBuild L G σ t parts.toList
  | .buildSlice t len parts => aRows L G σ t len parts.toList o.dst
  | .load t p => aLoad L G σ t p
  | .store t p x => aStore L G σ t p x
  | .binOp op t x y _ => match aBinW L G σ op t x y with
    | some r => some r
    | none => match aBin G σ op x y with
      | some r => some r
      | none => match aBinB L G σ op t x y with
        | some r => some r
        | none => aBinAgg L G σ op t x y
  | .unOp op _ x => aUn G σ op x
  | .convert s t x => aConv L G σ s t x
  | .makeFunc (.func f) first caps => aFunc G σ f first.toList caps.toList
  | .fieldAddr t p i => aField L G σ t p i
  | .indexAddr t x i => aIndex L G σ t x i
  | .slice t x lo hi mx => aSlice L G σ t x lo hi mx
  | .extract t i => aExtract G σ t i
  | .makeMap t none => aMake L σ t o.dst
  | .lookup t m k ok => aLook L G σ t m k ok
  | .mapUpdate t m k v => aUpd L G σ t m k v
  | .call { callee := .value f, args, argTypes } => match aYield G σ f args.toList with
    | some r => some r
    | none => aCall L Γ G σ f args.toList argTypes.toList (100000 + 100 * o.dst.getD 0)
  | .call { callee := .builtin b, args, argTypes } => aBuiltin L G σ b argTypes.toList args.toList o.dst
  | _ => none

def sgSame : (a b : List Ty) → Option (PLift (a = b))
  | [], [] => some ⟨rfl⟩
  | x :: a, y :: b => match x.same y, sgSame a b with
    | some ⟨h⟩, some ⟨h'⟩ => some ⟨by rw [h, h']⟩
    | _, _ => none
  | _, _ => none
/-- what is known of the guards, as a boolean -/
def gbool (σ : St) : List (Nat × Bool) → Option Bool
  | [] => some true
  | (t, w) :: r => match r with
    | [] => match look σ.g t with
      | some _ => none
      | none => match look σ.s t with
        | some (.t x) => match boolOf x with
          | some b => some (b == w)
          | none => none
        | _ => none
    | _ :: _ => match look σ.g t with
      | some (_, _, x) => match boolOf x, gbool σ r with
        | some b, some c => some ((b == w) && c)
        | _, _ => none
      | none => none
/-- an entry of the state's after an operation that is done if c -/
def gupd1 (c : Bool) (old : Option HO) (new : HO) : Option (List Prop × HO) :=
  match old, new with
  | none, .gr e sz l => some ([], .gr e sz (bif c then l else 0))
  | some (.gr e sz l), .gr e' sz' l' => if e = e' ∧ sz = sz' then some ([], .gr e sz (bif c then l' else l)) else none
  | some (.ob sg h g), .ob sg' h' g' => match sgSame sg' sg with
    | some ⟨e⟩ => some ([(e ▸ g' : Lp (tpl sg).T) = g], .ob sg (bif c then (e ▸ h' : List (tpl sg).T) else h) g)
    | none => none
  | _, _ => none
def gres (σ : St) (G : List (Nat × Bool)) (r : Res) : Option Res :=
  match G, r.h with
  | [], _ => some r
  | _, [] => some r
  | _, [(n, o)] => match gbool σ G with
    | some c => match gupd1 c (look σ.h n) o with
      | some (ps, o') => some { r with h := [(n, o')], c := r.c ++ ps }
      | none => none
    | none => none
  | _, _ => none
def upds : List (Nat × HO) → List (Nat × HO) → List (Nat × HO)
  | [], h => h
  | x :: r, h => upds r (x :: h)

/-! slices whose elements may be written -/
def roomE (vec : Bool) (τ : Ty) (e : Nat) : HO := match vec with
  | true => .vec τ e []
  | false => .gr e τ.size 0
def roomV (vec : Bool) (n : Nat) (τ : Ty) : LV := match vec with
  | true => .vr n 0
  | false => .own n (.sl τ [])
/-- the name of the room of a slice in cell j of a block -/
def rm2 (d j : Nat) : Nat := 400000 + (64 * d + j)
def isNilL : LV → Bool
  | .d (.sl .tu _) => true
  | _ => false
/-- the nil slices among the cells of a new block d, with the rooms that they have not -/
def rooms (hp : Nat → Option HO) (d : Nat) : List (Nat × (Ty × (Nat × Bool))) → List LV → List LV × List (Nat × HO)
  | [], cs => (cs, [])
  | (j, (τ, (e, vec))) :: r, cs => match cs[j]?, hp (rm2 d j) with
    | some x, none => match isNilL x with
      | true => match rooms hp d r (cs.set j (roomV vec (rm2 d j) τ)) with
        | (cs', es) => (cs', (rm2 d j, roomE vec τ e) :: es)
      | false => rooms hp d r cs
    | _, _ => rooms hp d r cs
def isVp (x : Option TV) : Option Nat := match x with
  | some (.one (.vp n _ _ _ _ _)) => some n
  | _ => none
def isVr (x : Option TV) : Option Nat := match x with
  | some (.one (.vr n _)) => some n
  | _ => none
def vecT (t : TypeId) (dst : Option Nat) : Bool := match L t with
  | some y => y.vec && y.nov.all fun v => !Nat.beq v (1000000 + dst.getD 0)
  | none => false
def isNilC : Operand → Bool
  | .const (.slice none 0 0) => true
  | _ => false
def vrL : LV → List Nat
  | .vr n _ => [n]
  | _ => []
def vrLs : List LV → List Nat
  | [] => []
  | x :: r => vrL x ++ vrLs r
def vrT : TV → List Nat
  | .one x => vrL x
  | .agg xs => vrLs xs
def vrTs : List TV → List Nat
  | [] => []
  | x :: r => vrT x ++ vrTs r
def vrA : AV → List Nat
  | .t x => vrT x
  | .tup xs => vrTs xs
def someV : Option (List TV) → List Nat
  | some xs => vrTs xs
  | none => []
/-- whether an operation is one on such slices -/
def isV (G : List (Nat × Bool)) (σ : St) (o : Oper) : Bool :=
  match o.op with
  | .move x | .assign x => isNilC x && vecT L o.type o.dst
  | .alloc t => match L t with
    | some y => !y.cv.isEmpty
    | none => false
  | .buildSlice t _ _ => vecT L t o.dst
  | .load _ p => (isVp (opT G σ p)).isSome
  | .store _ p _ => (isVp (opT G σ p)).isSome
  | .fieldAddr _ p _ => (isVp (opT G σ p)).isSome
  | .indexAddr _ x _ => (isVr (opT G σ x)).isSome
  | .slice _ x _ _ _ => (isVr (opT G σ x)).isSome
  | .call { callee := .builtin .append, args, argTypes } => match args.toList, argTypes.toList with
    | s :: _, t :: _ => (isVr (opT G σ s)).isSome || vecT L t o.dst
    | _, _ => false
  | .call { callee := .builtin .len, args, .. } => match args.toList with
    | [s] => (isVr (opT G σ s)).isSome
    | _ => false
  | .call { callee := .value f, args, .. } => match opT G σ f with
    | some (.one (.clo _ _ _)) => !(someV (mapT (opT G σ) args.toList)).isEmpty
    | _ => false
  | _ => false

def vNil (σ : St) (t : TypeId) (dst : Option Tmp) : Option Res :=
  match L t with
  | some y => match y.ety, rmFree σ dst with
    | some (τ, e, _), some n => some { v := .t (.one (.vr n 0)), h := [(n, .vec τ e [])] }
    | _, _ => none
  | none => none
def vAlloc (σ : St) (t : TypeId) (dst : Option Tmp) : Option Res :=
  match L t, dst with
  | some y, some d => match look σ.h d with
    | none => match rooms (look σ.h) d y.cv (wrapD y.zero) with
      | (cs, es) => if d < 400000 then some { v := .t (.one (.ptr d 0)), h := es ++ [(d, .cells cs)] } else none
    | some _ => none
  | _, _ => none
def vRows (G : List (Nat × Bool)) (σ : St) (t : TypeId) (len : Nat) (parts : List (Nat × Operand)) (dst : Option Tmp) : Option Res :=
  match L t, mapP (opT G σ) parts with
  | some y, some ps => match y.ety with
    | some (τ, e, _) => match rowsOf τ ps with
      | some l => if consec 0 ps && (ps.length == len && (Nat.ble 1 τ.size && Nat.ble (len * τ.size) 65536)) then
          match rmFree σ dst with
          | some n => some { v := .t (.one (.vr n l.length)), h := [(n, .vec τ e l)] }
          | none => none
        else none
      | none => none
    | none => none
  | _, _ => none
def vIndex (G : List (Nat × Bool)) (σ : St) (t : TypeId) (x i : Operand) : Option Res :=
  match L t, opT G σ x, opT G σ i with
  | some y, some (.one (.vr n k)), some (.one (.d (.lit (.int _ j)))) => match look σ.h n, y.el with
    | some (.vec τ _ l), some sz => if τ.size = sz then some { v := .t (.one (.vp n l.length sz j.toNat 0 sz)), c := [0 ≤ j, j < l.length, k = l.length] } else none
    | _, _ => none
  | _, _, _ => none
def vField (G : List (Nat × Bool)) (σ : St) (t : TypeId) (p : Operand) (i : Nat) : Option Res :=
  match L t, opT G σ p with
  | some y, some (.one (.vp n k sz j off wd)) => match y.fs[i]?, look σ.h n with
    | some (fo, fsz), some (.vec _ _ l) => if fo + fsz ≤ wd then some { v := .t (.one (.vp n k sz j (off + fo) fsz)), c := [k = l.length, j < l.length] } else none
    | _, _ => none
  | _, _ => none
def vLoad (G : List (Nat × Bool)) (σ : St) (t : TypeId) (p : Operand) : Option Res :=
  match L t, opT G σ p with
  | some y, some (.one (.vp n k sz j off _)) => match look σ.h n with
    | some (.vec τ _ l) => if τ.size = sz ∧ off + y.size ≤ sz then
        match asTV y.agg (dcells (fun i => τ.enc (l.getD j τ.d0) (off + i)) 0 y.size) with
        | some x => some { v := .t x, c := [k = l.length, j < l.length] }
        | none => none
      else none
    | _ => none
  | _, _ => none
def vStore (G : List (Nat × Bool)) (σ : St) (t : TypeId) (p x : Operand) : Option Res :=
  match L t, opT G σ p, opT G σ x with
  | some y, some (.one (.vp n k sz j off _)), some v => if (nilT L t v).cells.length = y.size then
      match look σ.h n with
      | some (.vec τ e l) => match setAt (dcells (τ.enc (l.getD j τ.d0)) 0 τ.size) off (nilT L t v).cells with
        | some cs => match plainC τ cs with
          | some u => if τ.size = sz then some { v := .tup [], c := [k = l.length, j < l.length], h := [(n, .vec τ e (l.set j u))] } else none
          | none => none
        | none => none
      | _ => none
    else none
  | _, _, _ => none
def vSlice (G : List (Nat × Bool)) (σ : St) (t : TypeId) (x : Operand) (lo hi mx : Option Operand) : Option Res :=
  match L t, opT G σ x, mx with
  | some y, some (.one (.vr n k)), none => match look σ.h n with
    | some (.vec τ e l) => match y.el, bnd G σ 0 lo, bnd G σ l.length hi with
      | some sz, some a, some b => if τ.size = sz then some { v := .t (.one (.d (.sl τ ((l.take b.toNat).drop a.toNat)))), c := [k = l.length, 0 ≤ a, a ≤ b, b ≤ l.length], h := [(n, .gr e τ.size l.length)] } else none
      | _, _, _ => none
    | _ => none
  | _, _, _ => none
def vAppend (hp : Nat → Option HO) (ts : List TypeId) (dst : Option Nat) (s x : TV) : Option Res :=
  match ts with
  | [t, t'] => if t = t' then match L t with
    | some y => match y.ety, x.st with
      | some (τ, e, by'), .one (.d x) => match asL τ x, s with
        | some l', .one (.vr n k) => match hp n with
          | some (.vec σ e' l) => match σ.same τ with
            | some ⟨h⟩ => if e' = e then some { v := .t (.one (.vr n (l.length + l'.length))), c := [k = l.length, (l.length + l'.length) * by' ≤ 140737488355328], h := [(n, .vec τ e ((h ▸ l) ++ l'))] } else none
            | none => none
          | _ => none
        | some l', .one (.d s) => match isNil s, dst with
          | true, some d => match hp (rm d) with
            | none => some { v := .t (.one (.vr (rm d) l'.length)), c := [l'.length * by' ≤ 140737488355328], h := [(rm d, .vec τ e l')] }
            | some _ => none
          | _, _ => none
        | _, _ => none
      | _, _ => none
    | none => none
    else none
  | _ => none
/-- values without their rooms: no element is written from now on -/
def frzL (h : List (Nat × HO)) : LV → List Prop × (LV × List (Nat × HO))
  | .vr n k => match look h n with
    | some (.vec τ e l) => match Nat.ble 1 τ.size with
      | true => ([k = l.length], (.d (.sl τ l), [(n, .gr e τ.size l.length)]))
      | false => ([], (.vr n k, []))
    | _ => ([], (.vr n k, []))
  | x => ([], (x, []))
def frzLs (h : List (Nat × HO)) : List LV → List Prop × (List LV × List (Nat × HO))
  | [] => ([], ([], []))
  | x :: r => match frzL h x with
    | (p, (y, e)) => match frzLs (upds e h) r with
      | (q, (ys, f)) => (p ++ q, (y :: ys, e ++ f))
def frzT (h : List (Nat × HO)) : TV → List Prop × (TV × List (Nat × HO))
  | .one x => match frzL h x with
    | (p, (y, e)) => (p, (.one y, e))
  | .agg xs => match frzLs h xs with
    | (p, (ys, e)) => (p, (.agg ys, e))
def frzTs (h : List (Nat × HO)) : List TV → List Prop × (List TV × List (Nat × HO))
  | [] => ([], ([], []))
  | x :: r => match frzT h x with
    | (p, (y, e)) => match frzTs (upds e h) r with
      | (q, (ys, f)) => (p ++ q, (y :: ys, e ++ f))
def frzA (h : List (Nat × HO)) : AV → List Prop × (AV × List (Nat × HO))
  | .t x => match frzT h x with
    | (p, (y, e)) => (p, (.t y, e))
  | .tup xs => match frzTs h xs with
    | (p, (ys, e)) => (p, (.tup ys, e))
def vCall (G : List (Nat × Bool)) (σ : St) (f : Operand) (args : List Operand) (ts : List TypeId) (fr : Nat) : Option Res :=
  match aCall L Γ G σ f args ts fr with
  | some r => some r
  | none => match mapT (opT G σ) args, opT G σ f with
    | some args, some (.one (.clo fid fi ca)) => match Γ fid, frzTs σ.h (nilTs L ts (stT args)) with
      | some con, (ps, (xs, es)) => match con (ptrs fi ++ (xs ++ ptrs ca)) (look (upds es σ.h)) fr with
        | some (cs, r, up) => some { v := r, c := ps ++ cs, h := es ++ up }
        | none => none
      | none, _ => none
    | _, _ => none
def aopV (G : List (Nat × Bool)) (σ : St) (o : Oper) : Option Res :=
  match o.op with
  | .move _ | .assign _ => vNil L σ o.type o.dst
  | .alloc t => vAlloc L σ t o.dst
  | .buildSlice t len parts => vRows L G σ t len parts.toList o.dst
  | .load t p => vLoad L G σ t p
  | .store t p x => vStore L G σ t p x
  | .fieldAddr t p i => vField L G σ t p i
  | .indexAddr t x i => vIndex L G σ t x i
  | .slice t x lo hi mx => vSlice L G σ t x lo hi mx
  | .call { callee := .builtin .append, args, argTypes } => match mapT (opT G σ) args.toList with
    | some [s, x] => vAppend L (look σ.h) argTypes.toList o.dst s x
    | _ => none
  | .call { callee := .builtin .len, args, argTypes } => match mapT (opT G σ) args.toList, argTypes.toList with
    | some [.one (.vr _ k)], [t] => match L t with
      | some y => match y.el with
        | some _ => some { v := .t (.one (li .i64 k)), f := [(k : Int) ≤ 9223372036854775807] }
        | none => none
      | none => none
    | _, _ => none
  | .call { callee := .value f, args, argTypes } => vCall L Γ G σ f args.toList argTypes.toList (100000 + 100 * o.dst.getD 0)
  | _ => none

/-- one operation, its operands resolved under the chain G -/
def aop (G : List (Nat × Bool)) (σ : St) (o : Oper) : Option Res :=
  match isV L G σ o with
  | true => aopV L Γ G σ o
  | false => aop0 L Γ G σ o

/-- one operation, as it is under its guards -/
def aopG (G : List (Nat × Bool)) (σ : St) (o : Oper) : Option Res :=
  match aop L Γ G σ o with
  | some r => gres σ G r
  | none => none

def cds (gs : List Prop) (r : Res) : List Cd :=
  match gs with
  | [] => r.c.map .ob ++ r.f.map .fact
  | gs => (match r.c with | [] => [] | cs => [.ob (All gs → All cs)]) ++ (match r.f with | [] => [] | fs => [.fact (All gs → All fs)])

def gfree (d : Nat) : List (Nat × (Nat × Bool × TV)) → Bool
  | [] => true
  | (a, (t, _, _)) :: r => a != d && (t != d && gfree d r)

/-- one operation of a region, N temporaries -/
def astep (N : Nat) (ops : List Oper) (o : Oper) (σ : St) : Option (List Cd × St) :=
  if o.guard.isSome && (chain ops 10 o.guard).isEmpty then none else
  match guards σ (chain ops 10 o.guard) with
  | none => none
  | some gs => match aopG L Γ (chain ops 10 o.guard) σ o with
    | none => none
    | some r => match o.dst, chain ops 10 o.guard with
      | none, [] => some (cds gs r, { σ with h := upds r.h σ.h })
      | none, _ :: _ => none
      | some d, [] => if gfree d σ.g && decide (d < N) then some (cds gs r, { σ with s := (d, r.v) :: σ.s, h := upds r.h σ.h }) else none
      | some d, (t, w) :: _ => if gfree d σ.g && (d != t && decide (d < N)) then match r.v, look σ.s d with
          | .t x, none => some (cds gs r, { σ with g := (d, (t, w, x)) :: σ.g, h := upds r.h σ.h })
          | _, _ => none
        else none

def asteps (N : Nat) (ops : List Oper) : List Oper → St → Option (List Cd × St)
  | [], σ => some ([], σ)
  | o :: r, σ => match astep L Γ N ops o σ with
    | some (c, σ') => match asteps N ops r σ' with
      | some (c', σ'') => some (c ++ c', σ'')
      | none => none
    | none => none
end Go.Sy
