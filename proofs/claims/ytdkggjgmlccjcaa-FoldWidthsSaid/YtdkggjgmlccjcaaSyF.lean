/- A verified generator of conditions for this program, and its soundness: part 1 of the proof. -/
import Derived.RangeFuncNested
import Derived.Laws.Entries
import Derived.Laws.Cells
import Derived.Laws.World
import Derived.Laws.NewBlocks
import Derived.Laws.Small
import Derived.Laws.StructEq
import Derived.Laws.AppendOwn
import Derived.IntWalk
import Derived.Lib.AppendStr
import Derived.Laws.BytesString
namespace Go.Sy

/-! abstract values, abstract state, the evaluation of operations and of code to a tree of conditions -/
inductive LK | i | b | s
inductive Ty | tu | ti (k : IntKind) | tb | ts | tp (x y : Ty) | tl (x : Ty)
def Ty.T : Ty → Type
 | .tu => Unit
 | .ti _ => Int
 | .tb => Bool
 | .ts => ByteArray
 | .tp x y => x.T × y.T
 | .tl x => List x.T
def Ty.same : (a c : Ty) → Option (PLift (a = c))
 | .tu, .tu => some ⟨rfl⟩
 | .ti k, .ti k' => if h : k = k' then some ⟨by rw [h]⟩ else none
 | .tb, .tb => some ⟨rfl⟩
 | .ts, .ts => some ⟨rfl⟩
 | .tp a e, .tp c d => match Ty.same a c, Ty.same e d with
  | some ⟨h⟩, some ⟨h'⟩ => some ⟨by rw [h, h']⟩
  | _, _ => none
 | .tl a, .tl c => match Ty.same a c with
  | some ⟨h⟩ => some ⟨by rw [h]⟩
  | none => none
 | _, _ => none
def Ty.d0 : (τ : Ty) → τ.T
 | .tu => ()
 | .ti _ => (0 : Int)
 | .tb => false
 | .ts => ByteArray.empty
 | .tp x y => (x.d0, y.d0)
 | .tl _ => []
def Ty.size : Ty → Nat
 | .tu => 0
 | .ti _ => 1
 | .tb => 1
 | .ts => 1
 | .tp x y => x.size + y.size
 | .tl _ => 1
def Ty.beq : (τ : Ty) → τ.T → τ.T → Bool
 | .tu, _, _ => true
 | .ti _, a, b => (show Int from a) == b
 | .tb, a, b => (show Bool from a) == b
 | .ts, a, b => (show ByteArray from a) == b
 | .tp x y, a, b => x.beq a.1 b.1 && y.beq a.2 b.2
 | .tl _, _, _ => false
def Ty.lks : Ty → List LK
 | .ti _ => [.i]
 | .tb => [.b]
 | .ts => [.s]
 | .tp x y => x.lks ++ y.lks
 | _ => []
def Ty.cmp : Ty → Bool
 | .ti _ => true
 | .tb => true
 | .ts => true
 | .tp x y => x.cmp && y.cmp
 | _ => false
def mget {α β : Type _} (e : α → α → Bool) (k : α) : List (α × β) → Option β
 | [] => none
 | p :: r => if e k p.1 then some p.2 else mget e k r
def mput {α β : Type _} (e : α → α → Bool) (k : α) (v : β) : List (α × β) → List (α × β)
 | [] => [(k, v)]
 | p :: r => if e k p.1 then (k, v) :: r else p :: mput e k v r
inductive DV : Type
 | lit (v : Value)
 | sl (τ : Ty) (l : List τ.T)
def Ty.enc : (τ : Ty) → τ.T → Nat → DV
 | .tu, _, _ => .lit undef
 | .ti k, n, _ => .lit (.int k n)
 | .tb, q, _ => .lit (.bool q)
 | .ts, q, _ => .lit (.string q)
 | .tp x y, v, j => bif Nat.blt j x.size then x.enc v.1 j else y.enc v.2 (j - x.size)
 | .tl x, v, _ => .sl x v
inductive LV : Type
 | d (x : DV)
 | ptr (n off : Nat)
 | dptr (k : Nat) (c : Nat → DV)
 | clo (f : FuncId) (first caps : List (Nat × Nat))
 | own (n : Nat) (x : DV)
 | mp (n : Nat)
 | yl (n : Nat)
 | vr (n k : Nat)
 | vp (n k sz i off wd : Nat)
 | nn (q : Bool) (x : DV)
 | kn (v : Int)
inductive TV : Type
 | one (x : LV)
 | agg (xs : List LV)
inductive AV : Type
 | t (x : TV)
 | tup (xs : List TV)
 | nx (b : Bool) (p c : Int)
def TV.cells : TV → List LV
 | .one x => [x]
 | .agg xs => xs
def tpl : List Ty → Ty
 | [] => .tu
 | a :: r => .tp a (tpl r)
def Ty.ag : Ty → Bool
 | .tp _ _ => true
 | _ => false
structure Lp (α : Type) where
 go : List α → Bool
 ok : List α → Prop := fun _ => True
instance {α : Type} : CoeFun (Lp α) (fun _ => List α → Bool) := ⟨Lp.go⟩
inductive HO : Type
 | cells (b : List LV)
 | gr (e sz len : Nat)
 | mp (κ ν : Ty) (l : List (κ.T × ν.T))
 | ob (sg : List Ty) (hist : List (tpl sg).T) (go : Lp (tpl sg).T)
 | vec (τ : Ty) (e : Nat) (l : List τ.T)
 | it (q : ByteArray) (p : Nat)
 | frz (τ : Ty) (e : Nat) (l : List τ.T)
 | dead (n : Nat)
 | fm (l : List (Int × TV))
 | vh (τ : Ty) (e : Nat) (l : List τ.T) (j off b m : Nat)
def HO.body : HO → List LV
 | .cells b => b
 | .fm l => l.flatMap fun p => p.2.cells
 | .vh _ _ _ _ _ b m => [.vr b m]
 | _ => []
def HO.isOb : HO → Bool
 | .ob _ _ _ => true
 | _ => false
def live {α : Type} (go : Lp α) (hist : List α) : Prop := hist = [] ∨ go hist = true
def liveX {α : Type} (go : Lp α) (hist : List α) (x : α) : Prop := live go hist ∧ go.ok (hist ++ [x])

structure St where
 s : List (Nat × AV)
 g : List (Nat × (Nat × Bool × TV))
 h : List (Nat × HO)

structure Lay where
 size : Nat := 1
 agg : Bool := false
 zero : List DV := []
 fs : List (Nat × Nat) := []
 kind : Option IntKind := none
 el : Option Nat := none
 ety : Option (Ty × Nat × Nat) := none
 mpt : Option (Ty × Ty) := none
 fmt : Option (Bool × List DV) := none
 ars : Option (Nat × Nat × Nat) := none
 eqs : Option (List LK) := none
 sk : Nat := 0
 vec : Bool := false
 nov : List Nat := []
 wr : Bool := false
 cv : List (Nat × (Ty × (Nat × Bool))) := []
 cz : List (Nat × Ty) := []

def look {β : Type _} : List (Nat × β) → Nat → Option β
 | [], _ => none
 | (a, x) :: r, k => if a == k then some x else look r k

def li (k : IntKind) (n : Int) : LV := .d (.lit (.int k n))
def lb (b : Bool) : LV := .d (.lit (.bool b))
def nilS : DV := .sl .tu []
def LV.st : LV → LV
 | .own _ x => .d x
 | .nn _ x => .d x
 | .kn v => .d (.lit (.int .i64 v))
 | x => x
def stL : List LV → List LV
 | [] => []
 | x :: r => x.st :: stL r
def TV.st : TV → TV
 | .one x => .one x.st
 | .agg xs => .agg (stL xs)
def stT : List TV → List TV
 | [] => []
 | x :: r => x.st :: stT r

def has (G : List (Nat × Bool)) (g : Nat) (w : Bool) : Bool :=
 match G with
 | [] => false
 | (a, b) :: r => (a == g && b == w) || has r g w

def constV (v : Value) : Option AV :=
 match v with
 | .agg _ => none
 | .tuple _ => none
 | .slice none 0 0 => some (.t (.one (.d nilS)))
 | v => some (.t (.one (.d (.lit v))))

def opd (G : List (Nat × Bool)) (σ : St) : Operand → Option AV
 | .tmp t => match look σ.g t with
  | some (g, w, x) => if has G g w then some (.t x) else none
  | none => look σ.s t
 | .const v => constV v
 | .func f => some (.t (.one (.clo f [] [])))
 | .global _ => none

def opT (G : List (Nat × Bool)) (σ : St) (o : Operand) : Option TV :=
 match opd G σ o with
 | some (.t x) => some x
 | _ => none

def opS (G : List (Nat × Bool)) (σ : St) (o : Operand) : Option TV :=
 match opT G σ o with
 | some x => some x.st
 | none => none

def mapT (f : Operand → Option TV) : List Operand → Option (List TV)
 | [] => some []
 | o :: r => match f o with
  | some x => match mapT f r with
   | some xs => some (x :: xs)
   | none => none
  | none => none

def mapP (f : Operand → Option TV) : List (Nat × Operand) → Option (List (Nat × TV))
 | [] => some []
 | (i, o) :: r => match f o with
  | some x => match mapP f r with
   | some xs => some ((i, x) :: xs)
   | none => none
  | none => none

def chain (ops : List Oper) : Nat → Option (Nat × Bool) → List (Nat × Bool)
 | 0, _ => []
 | _ + 1, none => []
 | n + 1, some (j, w) => match ops[j]? with
  | some o => match o.dst with
   | some t => (t, w) :: chain ops n o.guard
   | none => []
  | none => []

def boolOf : TV → Option Bool
 | .one (.d (.lit (.bool x))) => some x
 | _ => none

def guards (σ : St) : List (Nat × Bool) → Option (List Prop)
 | [] => some []
 | (t, w) :: r => match r with
  | [] => match look σ.g t with
   | some _ => none
   | none => match look σ.s t with
    | some (.t x) => match boolOf x with
     | some b => some [b = w]
     | none => none
    | _ => none
  | (t', w') :: _ => match look σ.g t with
   | some (g, v, x) => if g == t' && v == w' then
     match boolOf x, guards σ r with
     | some b, some l => some ((b = w) :: l)
     | _, _ => none
    else none
   | none => none

def All : List Prop → Prop
 | [] => True
 | [p] => p
 | p :: r => p ∧ All r
inductive VC : Type 1
 | tt | ff
 | at (p : Prop)
 | conj (p : Prop) (v : VC)
 | imp (p : Prop) (v : VC)
 | both (a b : VC)
 | ex {α : Type} (f : α → VC)
 | fa {α : Type} (f : α → VC)
def VC.holds : VC → Prop
 | .tt => True
 | .ff => False
 | .at p => p
 | .conj p v => p ∧ v.holds
 | .imp p v => p → v.holds
 | .both a b => a.holds ∧ b.holds
 | .ex f => ∃ x, (f x).holds
 | .fa f => ∀ x, (f x).holds
inductive Cd | ob (p : Prop) | fact (p : Prop)
def VC.ands : List Cd → VC → VC
 | [], v => v
 | .ob p :: r, v => .conj p (VC.ands r v)
 | .fact p :: r, v => .imp p (VC.ands r v)
def VC.obs : List Cd → VC → VC
 | [], v => v
 | .ob p :: r, v => .conj p (VC.obs r v)
 | .fact _ :: r, v => VC.obs r v
def VC.all : List Prop → VC
 | [] => .tt
 | [p] => .at p
 | p :: r => .conj p (VC.all r)
def InI64 (x : Int) : Prop := -9223372036854775808 ≤ x ∧ x ≤ 9223372036854775807

def negW (a : Int) : Int := IntKind.i64.wrap (-a)
def getAt (l : List LV) (off n : Nat) : Option (List LV) := if off + n ≤ l.length then some ((l.drop off).take n) else none
def setAt (l : List LV) (off : Nat) (xs : List LV) : Option (List LV) :=
 if off + xs.length ≤ l.length then some (l.take off ++ (xs ++ l.drop (off + xs.length))) else none

abbrev Con := List TV → (Nat → Option HO) → Nat → Option (List Prop × AV × List (Nat × HO))

structure Res where
 v : AV
 c : List Prop := []
 f : List Prop := []
 h : List (Nat × HO) := []

def arith (op : BinOp) (k : IntKind) (x y : Int) : Option Res :=
 match op, k with
 | .add, .i64 => some { v := .t (.one (li .i64 (x + y))), c := [InI64 (x + y)] }
 | .sub, .i64 => some { v := .t (.one (li .i64 (x - y))), c := [InI64 (x - y)] }
 | .mul, .i64 => some { v := .t (.one (li .i64 (x * y))), c := [InI64 (x * y)] }
 | .quo, .i64 => some { v := .t (.one (li .i64 (x.tdiv y))), c := [y ≠ 0, InI64 (x.tdiv y)] }
 | .rem, .i64 => some { v := .t (.one (li .i64 (x.tmod y))), c := [y ≠ 0] }
 | .eql, _ => some { v := .t (.one (lb (x == y))) }
 | .neq, _ => some { v := .t (.one (lb (x != y))) }
 | .lss, _ => some { v := .t (.one (lb (decide (x < y)))) }
 | .leq, _ => some { v := .t (.one (lb (decide (x ≤ y)))) }
 | .gtr, _ => some { v := .t (.one (lb (decide (x > y)))) }
 | .geq, _ => some { v := .t (.one (lb (decide (x ≥ y)))) }
 | _, _ => none

def leafEq : LK → LV → LV → Option Bool
 | .i, .d (.lit (.int k a)), .d (.lit (.int k' b)) => if k = k' then some (a == b) else none
 | .b, .d (.lit (.bool a)), .d (.lit (.bool b)) => some (a == b)
 | .s, .d (.lit (.string a)), .d (.lit (.string b)) => some (a == b)
 | _, _, _ => none
def leafsEq : List LK → List LV → List LV → Option Bool
 | [], [], [] => some true
 | k :: p, a :: r, b :: q => match leafEq k a b, leafsEq p r q with
  | some x, some y => some (match r with | [] => x | _ => x && y)
  | _, _ => none
 | _, _, _ => none

def ptrs : List (Nat × Nat) → List TV
 | [] => []
 | (n, o) :: r => .one (.ptr n o) :: ptrs r

def asPtrs : List TV → Option (List (Nat × Nat))
 | [] => some []
 | .one (.ptr n o) :: r => match asPtrs r with
  | some l => some ((n, o) :: l)
  | none => none
 | _ => none

def wrapD : List DV → List LV
 | [] => []
 | x :: r => .d x :: wrapD r

def dcells (c : Nat → DV) : Nat → Nat → List LV
 | _, 0 => []
 | i, n + 1 => .d (c i) :: dcells c (i + 1) n

def tvOf (τ : Ty) (v : τ.T) : TV := if τ.ag then .agg (dcells (τ.enc v) 0 τ.size) else .one (.d (τ.enc v 0))

def fill (fs : List (Nat × Nat)) (cells : List LV) : List (Nat × TV) → Option (List LV)
 | [] => some cells
 | (i, v) :: r => match fs[i]? with
  | some (off, size) => if v.cells.length = size then
    match setAt cells off v.cells with
    | some cs => fill fs cs r
    | none => none
   else none
  | none => none

def strB (q : ByteArray) : List Int := q.data.toList.map fun b => (b.toNat : Int)
def bStr (l : List Int) : ByteArray := ⟨(l.map fun n => UInt8.ofNat n.toNat).toArray⟩
def strR (q : ByteArray) : List Int := (Conv.runesFrom q q.size 0 #[]).toList.map fun v => match v with
 | .int _ n => n
 | _ => 0
def builtinA (L : Nat → Option Lay) (b : Builtin) (ts : List TypeId) (args : List TV) : Option Res :=
 match b, ts, args with
 | .len, [t], [.one (.d (.sl _ l))] => match L t with
  | some y => match y.el with
   | some _ => some { v := .t (.one (li .i64 l.length)), f := [(l.length : Int) ≤ 9223372036854775807] }
   | none => none
  | none => none
 | .len, [t], [.one (.d (.lit (.string q)))] => match L t with
  | some y => if y.sk = 1 then some { v := .t (.one (li .i64 q.size)) } else none
  | none => none
 | .max, _, [.one (.d (.lit (.int k x))), .one (.d (.lit (.int _ y)))] => some { v := .t (.one (li k (if y > x then y else x))) }
 | .min, _, [.one (.d (.lit (.int k x))), .one (.d (.lit (.int _ y)))] => some { v := .t (.one (li k (if y < x then y else x))) }
 | _, _, _ => none

def asL (τ : Ty) : DV → Option (List τ.T)
 | .sl σ l => match σ.same τ with
  | some ⟨h⟩ => some (h ▸ l)
  | none => match σ with
   | .tu => some []
   | _ => none
 | _ => none
def isNil : DV → Bool
 | .sl .tu _ => true
 | _ => false
def rm (d : Nat) : Nat := 70000 + d

def appendA (L : Nat → Option Lay) (hp : Nat → Option HO) (ts : List TypeId) (dst : Option Nat) (s x : TV) : Option Res :=
 match ts with
 | [t, t'] => if t = t' then match L t with
  | some y => match y.ety, x.st with
   | some (τ, e, by'), .one (.d x) => match asL τ x, s with
    | some l', .one (.own n (.sl σ l)) => match σ.same τ, hp n with
     | some ⟨h⟩, some (.gr e' sz len) => if e' = e ∧ sz = τ.size then
       some { v := .t (.one (.own n (.sl τ ((h ▸ l) ++ l')))), c := [l.length = len, (len + l'.length) * by' ≤ 140737488355328], h := [(n, .gr e sz (len + l'.length))] }
      else none
     | _, _ => none
    | some l', .one (.d s) => match isNil s, dst with
     | true, some d => match hp (rm d) with
      | none => some { v := .t (.one (.own (rm d) (.sl τ l'))), c := [l'.length * by' ≤ 140737488355328], h := [(rm d, .gr e τ.size l'.length)] }
      | some _ => none
     | _, _ => none
    | _, _ => none
   | _, _ => none
  | none => none
  else none
 | _ => none

def appendS (L : Nat → Option Lay) (hp : Nat → Option HO) (ts : List TypeId) (dst : Option Nat) (s x : TV) : Option Res :=
 match ts with
 | [t, t'] => match L t, L t' with
  | some y, some y' => match y.ety, x with
   | some (.ti .u8, e, by'), .one (.d (.lit (.string q))) => if y.sk = 2 ∧ y'.sk = 1 then match s with
    | .one (.own n (.sl (.ti .u8) l)) => match hp n with
     | some (.gr e' sz len) => if e' = e ∧ sz = 1 then
       some { v := .t (.one (.own n (.sl (.ti .u8) ((show List Int from l) ++ strB q)))), c := [l.length = len, (len + (strB q).length) * by' ≤ 140737488355328], h := [(n, .gr e 1 (len + (strB q).length))] }
      else none
     | _ => none
    | .one (.d s) => match isNil s, dst with
     | true, some d => match hp (rm d) with
      | none => some { v := .t (.one (.own (rm d) (.sl (.ti .u8) (strB q)))), c := [(strB q).length * by' ≤ 140737488355328], h := [(rm d, .gr e 1 (strB q).length)] }
      | some _ => none
     | _, _ => none
    | _ => none
    else none
   | _, _ => none
  | _, _ => none
 | _ => none

variable (L : Nat → Option Lay) (Γ : Nat → Option Con)

def pickB (a b : Operand) (x y z : Bool) : Bool :=
 match a, b with
 | .const (.bool true), _ => x || z
 | _, .const (.bool false) => x && y
 | _, _ => bif x then y else z

def aPick (G : List (Nat × Bool)) (σ : St) (tc : Tmp) (a b : Operand) : Option Res :=
 match opT G σ (.tmp tc) with
 | some (.one (.d (.lit (.bool x)))) =>
  match opT ((tc, true) :: G) σ a, opT ((tc, false) :: G) σ b with
  | some (.one (.d (.lit (.bool y)))), some (.one (.d (.lit (.bool z)))) =>
   some { v := .t (.one (lb (pickB a b x y z))) }
  | _, _ => none
 | _ => none

def rmFree (σ : St) : Option Tmp → Option Nat
 | some d => match look σ.h (rm d) with
  | none => some (rm d)
  | some _ => none
 | none => none

def aAlloc (σ : St) (t : TypeId) (dst : Option Tmp) : Option Res :=
 match L t, dst with
 | some y, some d => match look σ.h d with
  | none => match y.ety, rmFree σ (some d) with
   | some (τ, e, _), some n => some { v := .t (.one (.ptr d 0)), h := [(n, .gr e τ.size 0), (d, .cells [.own n (.sl τ [])])] }
   | _, _ => some { v := .t (.one (.ptr d 0)), h := [(d, .cells (wrapD y.zero))] }
  | some _ => none
 | _, _ => none

def aNil (σ : St) (t : TypeId) (x : Operand) (dst : Option Tmp) : Option Res :=
 match x with
 | .const (.slice none 0 0) => match L t with
  | some y => match y.ety with
   | some (τ, e, _) => match rmFree σ dst with
    | some n => some { v := .t (.one (.own n (.sl τ []))), h := [(n, .gr e τ.size 0)] }
    | none => some { v := .t (.one (.d (.sl τ []))) }
   | none => none
  | none => none
 | _ => none

def aBox (G : List (Nat × Bool)) (σ : St) (x : Operand) (dst : Option Tmp) : Option Res :=
 match opT G σ x, dst with
 | some v, some d => match look σ.h d with
  | none => some { v := .t (.one (.ptr d 0)), h := [(d, .cells v.cells)] }
  | some _ => none
 | _, _ => none

def arFs (n s : Nat) : List (Nat × Nat) := (List.range n).map fun i => (i * s, s)
def aBuild (G : List (Nat × Bool)) (σ : St) (t : TypeId) (parts : List (Nat × Operand)) : Option Res :=
 match L t with
 | some y => match mapP (opT G σ) parts with
  | some ps => match y.ars with
   | some (n, _, s) => match fill (arFs n s) (wrapD y.zero) ps with
    | some cs => some { v := .t (.agg cs) }
    | none => none
   | none => match fill y.fs (wrapD y.zero) ps with
    | some cs => if y.fs.isEmpty then none else some { v := .t (.agg cs) }
    | none => none
  | none => none
 | none => none

def intAt (k : IntKind) : LV → Option Int
 | .d (.lit (.int k' n)) => if k = k' then some n else none
 | _ => none
def boolAt : LV → Option Bool
 | .d (.lit (.bool q)) => some q
 | _ => none
def strAt : LV → Option ByteArray
 | .d (.lit (.string q)) => some q
 | _ => none
def slAt (τ : Ty) : LV → Option (List τ.T)
 | .d x => asL τ x
 | _ => none
def leafAt : (τ : Ty) → LV → Option τ.T
 | .ti k, x => intAt k x
 | .tb, x => boolAt x
 | .ts, x => strAt x
 | .tl τ, x => slAt τ x
 | _, _ => none
def takeC : (τ : Ty) → List LV → Option (τ.T × List LV)
 | .tp a c, xs => match takeC a xs with
  | some (u, r) => match takeC c r with
   | some (v, r') => some ((u, v), r')
   | none => none
  | none => none
 | τ, x :: r => match leafAt τ x.st with
  | some v => some (v, r)
  | none => none
 | _, [] => none
def plainC (τ : Ty) (xs : List LV) : Option τ.T := match takeC τ xs with
 | some (v, []) => some v
 | _ => none
def rowsOf (τ : Ty) : List (Nat × TV) → Option (List τ.T)
 | [] => some []
 | (_, x) :: r => match plainC τ x.cells, rowsOf τ r with
  | some v, some vs => some (v :: vs)
  | _, _ => none
def consec : Nat → List (Nat × TV) → Bool
 | _, [] => true
 | n, (i, _) :: r => i == n && consec (n + 1) r

def aRows (G : List (Nat × Bool)) (σ : St) (t : TypeId) (len : Nat) (parts : List (Nat × Operand)) (dst : Option Tmp) : Option Res :=
 match L t, mapP (opT G σ) parts with
 | some y, some ps => match y.ety with
  | some (τ, e, _) => match rowsOf τ ps with
   | some l => if consec 0 ps && (ps.length == len && (Nat.ble 1 τ.size && Nat.ble (len * τ.size) 65536)) then
     match rmFree σ dst with
     | some n => some { v := .t (.one (.own n (.sl τ l))), h := [(n, .gr e τ.size l.length)] }
     | none => none
    else none
   | none => none
  | none => none
 | _, _ => none

def aMakeS (G : List (Nat × Bool)) (σ : St) (t : TypeId) (x y : Operand) (dst : Option Tmp) : Option Res :=
 match opT G σ x, opT G σ y with
 | some (.one (.d (.lit (.int .i64 n)))), some (.one (.d (.lit (.int .i64 m)))) => match L t with
  | some y => match y.ety with
   | some (τ, e, by') => match L e with
    | some ye => match plainC τ (wrapD ye.zero), rmFree σ dst with
     | some v, some nm => if Nat.ble 1 τ.size && Nat.ble by' 65536 then
       some { v := .t (.one (.own nm (.sl τ (List.replicate n.toNat v)))), h := [(nm, .gr e τ.size (List.replicate n.toNat v).length)], c := [m = n, 0 ≤ n, n ≤ 1048576] }
      else none
     | _, _ => none
    | none => none
   | none => none
  | none => none
 | _, _ => none

def asTV (agg : Bool) (xs : List LV) : Option TV :=
 if agg then some (.agg xs) else match xs with
  | [x] => some (.one x)
  | _ => none

def loadFrom (σ : St) (y : Lay) : TV → Option TV
 | .one (.ptr n off) => match look σ.h n with
  | some (.cells b) => match getAt b off y.size with
   | some xs => asTV y.agg xs
   | none => none
  | _ => none
 | .one (.dptr k c) => if y.size ≤ k then asTV y.agg (dcells c 0 y.size) else none
 | _ => none

def aLoad (G : List (Nat × Bool)) (σ : St) (t : TypeId) (p : Operand) : Option Res :=
 match L t, opT G σ p with
 | some y, some q => match loadFrom σ y q with
  | some x => some { v := .t x }
  | none => none
 | _, _ => none

def nilCs : List (Nat × Ty) → List LV → List LV
 | [], xs => xs
 | (j, τ) :: r, xs => match xs[j]? with
  | some (.d (.sl .tu _)) => nilCs r (xs.set j (.d (.sl τ [])))
  | _ => nilCs r xs
def nilT (t : TypeId) (x : TV) : TV :=
 match x with
 | .one (.d (.sl .tu _)) => match L t with
  | some y => match y.ety with
   | some (τ, _, _) => .one (.d (.sl τ []))
   | none => x
  | none => x
 | .agg xs => match L t with
  | some y => .agg (nilCs y.cz xs)
  | none => .agg xs
 | x => x
def nilTs : List TypeId → List TV → List TV
 | t :: ts, x :: xs => nilT L t x :: nilTs ts xs
 | _, xs => xs

def aStore (G : List (Nat × Bool)) (σ : St) (t : TypeId) (p x : Operand) : Option Res :=
 match L t, opT G σ p, opT G σ x with
 | some y, some (.one (.ptr n off)), some v => if (nilT L t v).cells.length = y.size then
   match look σ.h n with
   | some (.cells b) => match setAt b off (nilT L t v).cells with
    | some b' => some { v := .tup [], h := [(n, .cells b')] }
    | none => none
   | _ => none
  else none
 | _, _, _ => none

def aBin (G : List (Nat × Bool)) (σ : St) (op : BinOp) (x y : Operand) : Option Res :=
 match opT G σ x, opT G σ y with
 | some (.one (.d (.lit (.int k a)))), some (.one (.d (.lit (.int k' b)))) => if k = k' then arith op k a b else none
 | _, _ => none

def xorW (k : IntKind) (a b : Int) : Int := k.wrap (BitVec.ofInt k.bits a ^^^ BitVec.ofInt k.bits b).toNat
def andW (k : IntKind) (a b : Int) : Int := k.wrap (BitVec.ofInt k.bits a &&& BitVec.ofInt k.bits b).toNat
def orW (k : IntKind) (a b : Int) : Int := k.wrap (BitVec.ofInt k.bits a ||| BitVec.ofInt k.bits b).toNat
def shlW (k : IntKind) (a b : Int) : Int := k.wrap (a * 2 ^ (min b.toNat k.bits))
def shrW (k : IntKind) (a b : Int) : Int := a.fdiv (2 ^ (min b.toNat k.bits))
def isI64 : IntKind → Bool
 | .i64 => true
 | _ => false
def arithW (wr : Bool) (op : BinOp) (k k' : IntKind) (a b : Int) : Option Res :=
 match op with
 | .shl => some { v := .t (.one (li k (shlW k a b))), c := [0 ≤ b] }
 | .shr => some { v := .t (.one (li k (shrW k a b))), c := [0 ≤ b] }
 | op => if k = k' then match op with
  | .and => some { v := .t (.one (li k (andW k a b))) }
  | .or => some { v := .t (.one (li k (orW k a b))) }
  | .xor => some { v := .t (.one (li k (xorW k a b))) }
  | .add => if isI64 k && !wr then none else some { v := .t (.one (li k (k.wrap (a + b)))) }
  | .sub => if isI64 k && !wr then none else some { v := .t (.one (li k (k.wrap (a - b)))) }
  | .mul => if isI64 k && !wr then none else some { v := .t (.one (li k (k.wrap (a * b)))) }
  | .quo => if isI64 k && !wr then none else some { v := .t (.one (li k (k.wrap (a.tdiv b)))), c := [b ≠ 0] }
  | .rem => if isI64 k then none else some { v := .t (.one (li k (a.tmod b))), c := [b ≠ 0] }
  | _ => none
  else none
def aBinW (G : List (Nat × Bool)) (σ : St) (op : BinOp) (t : TypeId) (x y : Operand) : Option Res :=
 match L t, opT G σ x, opT G σ y with
 | some la, some (.one (.d (.lit (.int k a)))), some (.one (.d (.lit (.int k' b)))) => arithW la.wr op k k' a b
 | _, _, _ => none

def aBinAgg (G : List (Nat × Bool)) (σ : St) (op : BinOp) (t : TypeId) (x y : Operand) : Option Res :=
 match L t, opT G σ x, opT G σ y with
 | some la, some (.agg xs), some (.agg ys) => match la.agg, la.eqs with
  | true, some ks => match leafsEq ks xs ys, op with
   | some r, .eql => some { v := .t (.one (lb r)) }
   | some r, .neq => some { v := .t (.one (lb (!r))) }
   | _, _ => none
  | _, _ => none
 | _, _, _ => none

def aBinB (G : List (Nat × Bool)) (σ : St) (op : BinOp) (t : TypeId) (x y : Operand) : Option Res :=
 match L t, opT G σ x, opT G σ y with
 | some la, some (.one (.d (.lit (.bool a)))), some (.one (.d (.lit (.bool c)))) => match la.agg, la.eqs with
  | false, some [.b] => match op with
   | .eql => some { v := .t (.one (lb (a == c))) }
   | .neq => some { v := .t (.one (lb (a != c))) }
   | _ => none
  | _, _ => none
 | _, _, _ => none

def aBinN (G : List (Nat × Bool)) (σ : St) (op : BinOp) (t : TypeId) (x y : Operand) : Option Res :=
 match L t, opT G σ x, y with
 | some la, some (.one (.nn q _)), .const (.slice none 0 0) => match la.el, op with
  | some _, .eql => some { v := .t (.one (lb q)) }
  | some _, .neq => some { v := .t (.one (lb (!q))) }
  | _, _ => none
 | _, _, _ => none

def aUn (G : List (Nat × Bool)) (σ : St) (op : UnOp) (x : Operand) : Option Res :=
 match op, opT G σ x with
 | .neg, some (.one (.d (.lit (.int .i64 a)))) => some { v := .t (.one (li .i64 (negW a))) }
 | .not, some (.one (.d (.lit (.bool a)))) => some { v := .t (.one (lb (!a))) }
 | _, _ => none

def aNilCk (G : List (Nat × Bool)) (σ : St) (x : Operand) : Option Res :=
 match opT G σ x with
 | some (.one (.ptr n off)) => some { v := .t (.one (.ptr n off)) }
 | _ => none

def aConv (G : List (Nat × Bool)) (σ : St) (s t : TypeId) (x : Operand) : Option Res :=
 match L s, L t, opT G σ x with
 | some _, some y, some (.one (.d (.lit (.int _ a)))) => match y.kind with
  | some .i64 => if y.wr then some { v := .t (.one (li .i64 (IntKind.i64.wrap a))) } else some { v := .t (.one (li .i64 a)), c := [InI64 a] }
  | some k => some { v := .t (.one (li k (k.wrap a))) }
  | none => none
 | _, _, _ => none

def aConvS (G : List (Nat × Bool)) (σ : St) (s t : TypeId) (x : Operand) : Option Res :=
 match L s, L t, opS G σ x with
 | some y, some z, some (.one (.d (.lit (.string q)))) => match y.sk, z.sk with
  | 1, 1 => some { v := .t (.one (.d (.lit (.string q)))) }
  | 1, 2 => some { v := .t (.one (.d (.sl (.ti .u8) (strB q)))), c := [q.size ≤ 9223372036854775807] }
  | 1, 3 => some { v := .t (.one (.d (.sl (.ti .i32) (strR q)))), c := [q.size ≤ 70368744177664] }
  | _, _ => none
 | some y, some z, some (.one (.d (.sl τ l))) => match y.sk, z.sk with
  | 2, 1 => match asL (.ti .u8) (.sl τ l) with
   | some l => some { v := .t (.one (.d (.lit (.string (bStr l))))) }
   | none => none
  | _, _ => none
 | _, _, _ => none
def aConvB (G : List (Nat × Bool)) (σ : St) (s t : TypeId) (x : Operand) : Option Res :=
 match L s, opT G σ x with
 | some y, some (.one (.own n (.sl (.ti .u8) l))) => match look σ.h n with
  | some (.gr _ sz len) => if s = t ∧ y.sk = 2 ∧ sz = 1 then some { v := .t (.one (.d (.sl (.ti .u8) l))), c := [l.length = len, 1 ≤ l.length], h := [(n, .dead (len * sz))] } else none
  | _ => none
 | _, _ => none
def aIdx (G : List (Nat × Bool)) (σ : St) (t : TypeId) (x i : Operand) : Option Res :=
 match L t, opT G σ x, opT G σ i with
 | some y, some (.one (.d (.lit (.string q)))), some (.one (.d (.lit (.int _ n)))) =>
  if y.sk = 1 then some { v := .t (.one (li .u8 ((strB q).getD n.toNat 0))), c := [0 ≤ n, n < q.size] } else none
 | some y, some (.agg xs), some (.one (.d (.lit (.int _ n)))) => match y.ars with
  | some (m, e, 1) => match L e, xs[n.toNat]? with
   | some ye, some x => if ye.agg then none else some { v := .t (.one x), c := [0 ≤ n, n < m] }
   | _, _ => none
  | _ => none
 | _, _, _ => none
def aRange (G : List (Nat × Bool)) (σ : St) (t : TypeId) (x : Operand) (dst : Option Tmp) : Option Res :=
 match L t, opT G σ x, dst with
 | some y, some (.one (.d (.lit (.string q)))), some d => match look σ.h d with
  | none => if y.sk = 1 then some { v := .t (.one (.ptr d 0)), h := [(d, .it q 0)] } else none
  | some _ => none
 | _, _, _ => none
def nxP (q : ByteArray) (p : Nat) : Nat := if p < q.size then p + (Utf8.decode q p).2 else p
def aNext (G : List (Nat × Bool)) (σ : St) (it : Operand) (isS : Bool) : Option Res :=
 match isS, opT G σ it with
 | true, some (.one (.ptr n 0)) => match look σ.h n with
  | some (.it q p) => some { v := .nx (decide (p < q.size)) p (Utf8.decode q p).1, h := [(n, .it q (nxP q p))] }
  | _ => none
 | _, _ => none

def aFunc (G : List (Nat × Bool)) (σ : St) (f : FuncId) (first caps : List Operand) : Option Res :=
 match mapT (opT G σ) first, mapT (opT G σ) caps with
 | some fi, some ca => match asPtrs fi, asPtrs ca with
  | some fi, some ca => some { v := .t (.one (.clo f fi ca)) }
  | _, _ => none
 | _, _ => none

def aField (G : List (Nat × Bool)) (σ : St) (t : TypeId) (p : Operand) (i : Nat) : Option Res :=
 match L t, opT G σ p with
 | some y, some (.one (.ptr n off)) => match y.fs[i]? with
  | some (fo, _) => some { v := .t (.one (.ptr n (off + fo))) }
  | none => none
 | some y, some (.one (.dptr k c)) => match y.fs[i]? with
  | some (fo, sz) => if fo + sz ≤ k then some { v := .t (.one (.dptr sz (fun j => c (fo + j)))) } else none
  | none => none
 | _, _ => none

def aIndex (G : List (Nat × Bool)) (σ : St) (t : TypeId) (x i : Operand) : Option Res :=
 match L t, opS G σ x, opT G σ i with
 | some y, some (.one (.d (.sl τ l))), some (.one (.d (.lit (.int _ n)))) =>
  match y.el with
  | some sz' => if τ.size = sz' then some { v := .t (.one (.dptr τ.size (τ.enc (l.getD n.toNat τ.d0)))), c := [0 ≤ n, n < l.length] } else none
  | _ => none
 | some y, some (.one (.ptr k off)), some (.one (.d (.lit (.int _ n)))) => match y.ars with
  | some (m, _, s) => some { v := .t (.one (.ptr k (off + n.toNat * s))), c := [0 ≤ n, n < m] }
  | none => none
 | _, _, _ => none

def bnd (G : List (Nat × Bool)) (σ : St) (d : Int) : Option Operand → Option Int
 | none => some d
 | some o => match opT G σ o with
  | some (.one (.d (.lit (.int _ n)))) => some n
  | _ => none
def aSlice (G : List (Nat × Bool)) (σ : St) (t : TypeId) (x : Operand) (lo hi mx : Option Operand) : Option Res :=
 match L t, opS G σ x, mx with
 | some y, some (.one (.d (.sl τ l))), none => match y.el, bnd G σ 0 lo, bnd G σ l.length hi with
  | some sz, some a, some b => if τ.size = sz then some { v := .t (.one (.d (.sl τ ((l.take b.toNat).drop a.toNat)))), c := [0 ≤ a, a ≤ b, b ≤ l.length] } else none
  | _, _, _ => none
 | _, _, _ => none

def aExtract (G : List (Nat × Bool)) (σ : St) (t : Operand) (i : Nat) : Option Res :=
 match opd G σ t with
 | some (.tup xs) => match xs[i]? with
  | some v => some { v := .t v }
  | none => none
 | some (.nx b p c) => match i with
  | 0 => some { v := .t (.one (lb b)) }
  | 1 => some { v := .t (.one (li .i64 p)), c := [b = true] }
  | 2 => some { v := .t (.one (li .i32 c)), c := [b = true] }
  | _ => none
 | _ => none

def arg1 (τ : Ty) : TV → Option τ.T
 | .one x => if τ.ag then none else plainC τ [x]
 | .agg xs => if τ.ag then plainC τ xs else none
def unargs : (sg : List Ty) → List TV → Option (tpl sg).T
 | [], [] => some ()
 | a :: r, x :: xs => match arg1 a x, unargs r xs with
  | some u, some v => some (u, v)
  | _, _ => none
 | _, _ => none

def aCall (G : List (Nat × Bool)) (σ : St) (f : Operand) (args : List Operand) (ts : List TypeId) (fr : Nat) : Option Res :=
 match mapT (opT G σ) args, opT G σ f with
 | some args, some (.one (.clo fid fi ca)) => match Γ fid with
  | some con => match con (ptrs fi ++ (nilTs L ts (stT args) ++ ptrs ca)) (look σ.h) fr with
   | some (cs, r, up) => some { v := r, c := cs, h := up }
   | none => none
  | none => none
 | _, _ => none

def zeroT (y : Lay) : TV := match y.agg, y.zero with
 | false, [x] => .one (.d x)
 | _, xs => .agg (wrapD xs)
def aNilF (G : List (Nat × Bool)) (σ : St) (t : TypeId) (f : Operand) : Option Res :=
 match opT G σ f with
 | some (.one (.d (.lit .nilFunc))) => some { v := (match L t with | some y => .t (zeroT y) | none => .tup []), c := [False] }
 | _ => none
theorem aNilF_false {G : List (Nat × Bool)} {σ : St} {t : TypeId} {f : Operand} {r : Res} (h : aNilF L G σ t f = some r) : False ∈ r.c := by
 unfold aNilF at h
 split at h
 ·injection h with h; subst h; exact List.mem_singleton.2 rfl
 ·cases h
def aYield (G : List (Nat × Bool)) (σ : St) (f : Operand) (args : List Operand) : Option Res :=
 match opT G σ f with
 | some (.one (.yl n)) => match look σ.h n, mapT (opT G σ) args with
  | some (.ob sg hist go), some xs => match unargs sg (stT xs) with
   | some x => some { v := .t (.one (lb (go (hist ++ [x])))), c := [liveX go hist x], h := [(n, .ob sg (hist ++ [x]) go)] }
   | none => none
  | _, _ => none
 | _ => none

def md (d : Nat) : Nat := 80000 + d
def aMake (σ : St) (t : TypeId) (dst : Option Tmp) : Option Res :=
 match L t, dst with
 | some y, some d => match y.mpt, y.fmt, look σ.h (md d) with
  | some (κ, ν), _, none => some { v := .t (.one (.mp (md d))), h := [(md d, .mp κ ν [])] }
  | none, some _, none => some { v := .t (.one (.mp (md d))), h := [(md d, .fm [])] }
  | _, _, _ => none
 | _, _ => none
def zeroF (z : Bool × List DV) : TV := match z with
 | (false, [x]) => .one (.d x)
 | (_, xs) => .agg (wrapD xs)
def keysNe (x : Int) : List (Int × TV) → List Prop
 | [] => []
 | p :: r => (x ≠ p.1) :: keysNe x r
def resF (ok : Bool) (x : TV) (b : Bool) : AV := match ok with
 | true => .tup [x, .one (lb b)]
 | false => .t x
def mapAt (hp : Nat → Option HO) (κ ν : Ty) (n : Nat) : Option (List (κ.T × ν.T)) :=
 match hp n with
 | some (.mp κ' ν' l) => match κ'.same κ, ν'.same ν with
  | some ⟨h1⟩, some ⟨h2⟩ => some (h2 ▸ h1 ▸ l)
  | _, _ => none
 | _ => none
def aLookF (G : List (Nat × Bool)) (σ : St) (t : TypeId) (m k : Operand) (ok : Bool) : Option Res :=
 match L t, opT G σ m, opT G σ k with
 | some y, some (.one (.mp n)), some k => match y.fmt, look σ.h n with
  | some z, some (.fm l) => match k with
   | .one (.kn v) => match mget (Ty.beq (.ti .i64)) v l with
    | some x => some { v := resF ok x true }
    | none => some { v := resF ok (zeroF z) false }
   | .one (.d (.lit (.int .i64 x))) => some { v := resF ok (zeroF z) false, c := keysNe x l }
   | _ => none
  | _, _ => none
 | _, _, _ => none
def aUpdF (G : List (Nat × Bool)) (σ : St) (t : TypeId) (m k v : Operand) : Option Res :=
 match L t, opT G σ m, opS G σ k, opT G σ v with
 | some y, some (.one (.mp n)), some k, some v => match y.fmt, look σ.h n with
  | some _, some (.fm l) => match k with
   | .one (.d (.lit (.int .i64 x))) => some { v := .tup [], h := [(n, .fm (l ++ [(x, v)]))], c := keysNe x l }
   | _ => none
  | _, _ => none
 | _, _, _, _ => none
def aLook (G : List (Nat × Bool)) (σ : St) (t : TypeId) (m k : Operand) (ok : Bool) : Option Res :=
 match L t, opT G σ m, opS G σ k with
 | some y, some (.one (.mp n)), some k => match y.mpt with
  | some (κ, ν) => match mapAt (look σ.h) κ ν n, arg1 κ k with
   | some l, some k => if ok then some { v := .tup [tvOf ν ((mget κ.beq k l).getD ν.d0), .one (lb (mget κ.beq k l).isSome)] } else some { v := .t (tvOf ν ((mget κ.beq k l).getD ν.d0)) }
   | _, _ => none
  | none => none
 | _, _, _ => none
def aUpd (G : List (Nat × Bool)) (σ : St) (t : TypeId) (m k v : Operand) : Option Res :=
 match L t, opT G σ m, opS G σ k, opS G σ v with
 | some y, some (.one (.mp n)), some k, some v => match y.mpt with
  | some (κ, ν) => match mapAt (look σ.h) κ ν n, arg1 κ k, arg1 ν v with
   | some l, some k, some v => some { v := .tup [], h := [(n, .mp κ ν (mput κ.beq k v l))] }
   | _, _, _ => none
  | none => none
 | _, _, _, _ => none
def mapLen (hp : Nat → Option HO) (ts : List TypeId) (n : Nat) : Option Res :=
 match ts with
 | [t] => match L t with
  | some y => match y.mpt, hp n with
   | some _, some (.mp _ _ l) => some { v := .t (.one (li .i64 l.length)) }
   | _, _ => none
  | none => none
 | _ => none

def aBuiltin (G : List (Nat × Bool)) (σ : St) (b : Builtin) (ts : List TypeId) (args : List Operand) (dst : Option Nat) : Option Res :=
 match mapT (opT G σ) args with
 | some args => match b with
  | .append => match args with
   | [s, x] => match appendA L (look σ.h) ts dst s x with
    | some r => some r
    | none => appendS L (look σ.h) ts dst s x
   | _ => none
  | .len => match args with
   | [.one (.mp n)] => mapLen L (look σ.h) ts n
   | args => builtinA L .len ts (stT args)
  | b => builtinA L b ts (stT args)
 | none => none

def aop0 (G : List (Nat × Bool)) (σ : St) (o : Oper) : Option Res :=
 match o.op with
 | .move x | .assign x => match aNil L σ o.type x o.dst with
  | some r => some r
  | none => match opd G σ x with
   | some v => some { v := v }
   | none => none
 | .pick (.tmp tc) a b => aPick G σ tc a b
 | .alloc t => aAlloc L σ t o.dst
 | .box _ x => aBox G σ x o.dst
 | .build t parts => aBuild L G σ t parts.toList
 | .buildSlice t len parts => aRows L G σ t len parts.toList o.dst
 | .load t p => aLoad L G σ t p
 | .store t p x => aStore L G σ t p x
 | .binOp op t x y _ => match aBinW L G σ op t x y with
  | some r => some r
  | none => match aBin G σ op x y with
   | some r => some r
   | none => match aBinB L G σ op t x y with
    | some r => some r
    | none => match aBinAgg L G σ op t x y with
     | some r => some r
     | none => aBinN L G σ op t x y
 | .unOp op _ x => aUn G σ op x
 | .nilCheck x => aNilCk G σ x
 | .convert s t x => match aConv L G σ s t x with
  | some r => some r
  | none => match aConvS L G σ s t x with
   | some r => some r
   | none => aConvB L G σ s t x
 | .index t x i => aIdx L G σ t x i
 | .range t x => aRange L G σ t x o.dst
 | .next it s => aNext G σ it s
 | .makeFunc (.func f) first caps => aFunc G σ f first.toList caps.toList
 | .fieldAddr t p i => aField L G σ t p i
 | .indexAddr t x i => aIndex L G σ t x i
 | .slice t x lo hi mx => aSlice L G σ t x lo hi mx
 | .extract t i => aExtract G σ t i
 | .makeMap t none => aMake L σ t o.dst
 | .makeSlice t x y => aMakeS L G σ t x y o.dst
 | .lookup t m k ok => match aLook L G σ t m k ok with
  | some r => some r
  | none => aLookF L G σ t m k ok
 | .mapUpdate t m k v => match aUpd L G σ t m k v with
  | some r => some r
  | none => aUpdF L G σ t m k v
 | .insert t m k v => match aUpd L G σ t m k v with
  | some r => some r
  | none => aUpdF L G σ t m k v
 | .call { callee := .value f, args, argTypes } => match aNilF L G σ o.type f with
  | some r => some r
  | none => match aYield G σ f args.toList with
   | some r => some r
   | none => aCall L Γ G σ f args.toList argTypes.toList (100000 + 100 * o.dst.getD 0)
 | .call { callee := .builtin b, args, argTypes } => aBuiltin L G σ b argTypes.toList args.toList o.dst
 | _ => none

def sgSame : (a b : List Ty) → Option (PLift (a = b))
 | [], [] => some ⟨rfl⟩
 | x :: a, y :: b => match x.same y, sgSame a b with
  | some ⟨h⟩, some ⟨h'⟩ => some ⟨by rw [h, h']⟩
  | _, _ => none
 | _, _ => none
def gbool (σ : St) : List (Nat × Bool) → Option Bool
 | [] => some true
 | (t, w) :: r => match r with
  | [] => match look σ.g t with
   | some _ => none
   | none => match look σ.s t with
    | some (.t x) => match boolOf x with
     | some b => some (b == w)
     | none => none
    | _ => none
  | _ :: _ => match look σ.g t with
   | some (_, _, x) => match boolOf x, gbool σ r with
    | some b, some c => some ((b == w) && c)
    | _, _ => none
   | none => none
def gupd1 (c : Bool) (old : Option HO) (new : HO) : Option (List Prop × HO) :=
 match old, new with
 | none, .gr e sz l => some ([], .gr e sz (bif c then l else 0))
 | some (.gr e sz l), .gr e' sz' l' => if e = e' ∧ sz = sz' then some ([], .gr e sz (bif c then l' else l)) else none
 | some (.gr _ sz l), .dead m => some ([m = l * sz], .dead (l * sz))
 | some (.vec τ e l), .gr e' sz' l' => if e' = e ∧ (sz' = τ.size ∧ Nat.ble 1 τ.size = true) then some ([l' = l.length], .gr e τ.size l.length) else none
 | some (.vec τ e l), .frz τ' e' l' => match τ'.same τ with
  | some ⟨h⟩ => if e' = e ∧ Nat.ble 1 τ.size = true then some ([(h ▸ l' : List τ.T) = l], .frz τ e l) else none
  | none => none
 | some (.ob sg h g), .ob sg' h' g' => match sgSame sg' sg with
  | some ⟨e⟩ => some ([(e ▸ g' : Lp (tpl sg).T) = g], .ob sg (bif c then (e ▸ h' : List (tpl sg).T) else h) g)
  | none => none
 | _, _ => none
def gres (σ : St) (G : List (Nat × Bool)) (r : Res) : Option Res :=
 match G, r.h with
 | [], _ => some r
 | _, [] => some r
 | _, [(n, o)] => match gbool σ G with
  | some c => match gupd1 c (look σ.h n) o with
   | some (ps, o') => some { r with h := [(n, o')], c := r.c ++ ps }
   | none => none
  | none => none
 | _, _ => none
def upds : List (Nat × HO) → List (Nat × HO) → List (Nat × HO)
 | [], h => h
 | x :: r, h => upds r (x :: h)

/-! slices whose elements may be written -/
def roomE (vec : Bool) (τ : Ty) (e : Nat) : HO := match vec with
 | true => .vec τ e []
 | false => .gr e τ.size 0
def roomV (vec : Bool) (n : Nat) (τ : Ty) : LV := match vec with
 | true => .vr n 0
 | false => .own n (.sl τ [])
def rm2 (d j : Nat) : Nat := 400000 + (64 * d + j)
def isNilL : LV → Bool
 | .d (.sl .tu _) => true
 | _ => false
def rooms (hp : Nat → Option HO) (d : Nat) : List (Nat × (Ty × (Nat × Bool))) → List LV → List LV × List (Nat × HO)
 | [], cs => (cs, [])
 | (j, (τ, (e, vec))) :: r, cs => match cs[j]?, hp (rm2 d j) with
  | some x, none => match isNilL x with
   | true => match rooms hp d r (cs.set j (roomV vec (rm2 d j) τ)) with
    | (cs', es) => (cs', (rm2 d j, roomE vec τ e) :: es)
   | false => rooms hp d r cs
  | _, _ => rooms hp d r cs
def isVp (x : Option TV) : Option Nat := match x with
 | some (.one (.vp n _ _ _ _ _)) => some n
 | _ => none
def isVr (x : Option TV) : Option Nat := match x with
 | some (.one (.vr n _)) => some n
 | _ => none
def vecT (t : TypeId) (dst : Option Nat) : Bool := match L t with
 | some y => y.vec && y.nov.all fun v => !Nat.beq v (1000000 + dst.getD 0)
 | none => false
def isNilC : Operand → Bool
 | .const (.slice none 0 0) => true
 | _ => false
def vrL : LV → List Nat
 | .vr n _ => [n]
 | _ => []
def vrLs : List LV → List Nat
 | [] => []
 | x :: r => vrL x ++ vrLs r
def vrT : TV → List Nat
 | .one x => vrL x
 | .agg xs => vrLs xs
def vrTs : List TV → List Nat
 | [] => []
 | x :: r => vrT x ++ vrTs r
def vrA : AV → List Nat
 | .t x => vrT x
 | .tup xs => vrTs xs
 | .nx _ _ _ => []
def someV : Option (List TV) → List Nat
 | some xs => vrTs xs
 | none => []
def isV (G : List (Nat × Bool)) (σ : St) (o : Oper) : Bool :=
 match o.op with
 | .move x | .assign x => isNilC x && vecT L o.type o.dst
 | .alloc t => match L t with
  | some y => !y.cv.isEmpty
  | none => false
 | .build t _ => match L t with
  | some y => !y.cv.isEmpty
  | none => false
 | .buildSlice t _ _ => vecT L t o.dst
 | .makeSlice t _ _ => vecT L t o.dst
 | .load _ p => (isVp (opT G σ p)).isSome
 | .store _ p _ => (isVp (opT G σ p)).isSome
 | .fieldAddr _ p _ => (isVp (opT G σ p)).isSome
 | .indexAddr _ x _ => (isVr (opT G σ x)).isSome
 | .slice _ x _ _ _ => (isVr (opT G σ x)).isSome
 | .call { callee := .builtin .append, args, argTypes } => match args.toList, argTypes.toList with
  | s :: _, t :: _ => (isVr (opT G σ s)).isSome || vecT L t o.dst
  | _, _ => false
 | .call { callee := .builtin .len, args, .. } => match args.toList with
  | [s] => (isVr (opT G σ s)).isSome
  | _ => false
 | .call { callee := .value f, args, .. } => match opT G σ f with
  | some (.one (.clo _ _ _)) => !(someV (mapT (opT G σ) args.toList)).isEmpty
  | _ => false
 | _ => false

def rmB (d : Nat) : Nat := 5000000 + d
def rmFreeV (σ : St) : Option Tmp → Option Nat
 | some d => match look σ.h (rm d) with
  | none => some (rm d)
  | some _ => match look σ.h (rmB d) with
   | none => some (rmB d)
   | some _ => none
 | none => none
def vNil (σ : St) (t : TypeId) (dst : Option Tmp) : Option Res :=
 match L t with
 | some y => match y.ety, rmFreeV σ dst with
  | some (τ, e, _), some n => some { v := .t (.one (.vr n 0)), h := [(n, .vec τ e [])] }
  | _, _ => none
 | none => none
def vAlloc (σ : St) (t : TypeId) (dst : Option Tmp) : Option Res :=
 match L t, dst with
 | some y, some d => match look σ.h d with
  | none => match rooms (look σ.h) d y.cv (wrapD y.zero) with
   | (cs, es) => if d < 400000 then some { v := .t (.one (.ptr d 0)), h := es ++ [(d, .cells cs)] } else none
  | some _ => none
 | _, _ => none
def vBuild (G : List (Nat × Bool)) (σ : St) (t : TypeId) (parts : List (Nat × Operand)) (dst : Option Nat) : Option Res :=
 match L t, dst, aBuild L G σ t parts with
 | some y, some d, some r => match r.v, r.h with
  | .t (.agg cs), [] => match rooms (look σ.h) d y.cv cs with
   | (cs', es) => some { v := .t (.agg cs'), h := es }
  | _, _ => none
 | _, _, _ => none
def vRows (G : List (Nat × Bool)) (σ : St) (t : TypeId) (len : Nat) (parts : List (Nat × Operand)) (dst : Option Tmp) : Option Res :=
 match L t, mapP (opT G σ) parts with
 | some y, some ps => match y.ety with
  | some (τ, e, _) => match rowsOf τ ps with
   | some l => if consec 0 ps && (ps.length == len && (Nat.ble 1 τ.size && Nat.ble (len * τ.size) 65536)) then
     match rmFree σ dst with
     | some n => some { v := .t (.one (.vr n l.length)), h := [(n, .vec τ e l)] }
     | none => none
    else none
   | none => none
  | none => none
 | _, _ => none
def vMakeS (G : List (Nat × Bool)) (σ : St) (t : TypeId) (x y : Operand) (dst : Option Tmp) : Option Res :=
 match opT G σ x, opT G σ y with
 | some (.one (.d (.lit (.int .i64 n)))), some (.one (.d (.lit (.int .i64 m)))) => match L t with
  | some y => match y.ety with
   | some (τ, e, by') => match L e with
    | some ye => match plainC τ (wrapD ye.zero), rmFree σ dst with
     | some v, some nm => if Nat.ble 1 τ.size && Nat.ble by' 65536 then
       some { v := .t (.one (.vr nm (List.replicate n.toNat v).length)), h := [(nm, .vec τ e (List.replicate n.toNat v))], c := [m = n, 0 ≤ n, n ≤ 1048576] }
      else none
     | _, _ => none
    | none => none
   | none => none
  | none => none
 | _, _ => none
def vIndex (G : List (Nat × Bool)) (σ : St) (t : TypeId) (x i : Operand) : Option Res :=
 match L t, opT G σ x, opT G σ i with
 | some y, some (.one (.vr n k)), some (.one (.d (.lit (.int _ j)))) => match look σ.h n, y.el with
  | some (.vec τ _ l), some sz => if τ.size = sz then some { v := .t (.one (.vp n l.length sz j.toNat 0 sz)), c := [0 ≤ j, j < l.length, k = l.length] } else none
  | some (.vh τ _ l _ _ _ _), some sz => if τ.size = sz then some { v := .t (.one (.vp n l.length sz j.toNat 0 sz)), c := [0 ≤ j, j < l.length, k = l.length] } else none
  | _, _ => none
 | _, _, _ => none
def vField (G : List (Nat × Bool)) (σ : St) (t : TypeId) (p : Operand) (i : Nat) : Option Res :=
 match L t, opT G σ p with
 | some y, some (.one (.vp n k sz j off wd)) => match y.fs[i]?, look σ.h n with
  | some (fo, fsz), some (.vec _ _ l) => if fo + fsz ≤ wd then some { v := .t (.one (.vp n k sz j (off + fo) fsz)), c := [k = l.length, j < l.length] } else none
  | some (fo, fsz), some (.vh _ _ l _ _ _ _) => if fo + fsz ≤ wd then some { v := .t (.one (.vp n k sz j (off + fo) fsz)), c := [k = l.length, j < l.length] } else none
  | _, _ => none
 | _, _ => none
def vLoad (G : List (Nat × Bool)) (σ : St) (t : TypeId) (p : Operand) : Option Res :=
 match L t, opT G σ p with
 | some y, some (.one (.vp n k sz j off _)) => match look σ.h n with
  | some (.vec τ _ l) => if τ.size = sz ∧ off + y.size ≤ sz then
    match asTV y.agg (dcells (fun i => τ.enc (l.getD j τ.d0) (off + i)) 0 y.size) with
    | some x => some { v := .t x, c := [k = l.length, j < l.length] }
    | none => none
   else none
  | some (.vh τ _ l j0 off0 b m) => if τ.size = sz ∧ off = off0 ∧ y.size = 1 ∧ y.agg = false then some { v := .t (.one (.vr b m)), c := [k = l.length, j < l.length, j = j0] } else none
  | _ => none
 | _, _ => none
def vStore (G : List (Nat × Bool)) (σ : St) (t : TypeId) (p x : Operand) : Option Res :=
 match L t, opT G σ p, opT G σ x with
 | some y, some (.one (.vp n k sz j off _)), some v => if (nilT L t v).cells.length = y.size then
   match look σ.h n with
   | some (.vec τ e l) => match setAt (dcells (τ.enc (l.getD j τ.d0)) 0 τ.size) off (nilT L t v).cells with
    | some cs => match plainC τ cs with
     | some u => if τ.size = sz then some { v := .tup [], c := [k = l.length, j < l.length], h := [(n, .vec τ e (l.set j u))] } else none
     | none => match nilT L t v with
      | .one (.vr b m) => if τ.size = sz ∧ off < sz then some { v := .tup [], c := [k = l.length, j < l.length], h := [(n, .vh τ e l j off b m)] } else none
      | _ => none
    | none => none
   | _ => none
  else none
 | _, _, _ => none
def vSlice (G : List (Nat × Bool)) (σ : St) (t : TypeId) (x : Operand) (lo hi mx : Option Operand) : Option Res :=
 match L t, opT G σ x, mx with
 | some y, some (.one (.vr n k)), none => match look σ.h n with
  | some (.vec τ e l) => match y.el, bnd G σ 0 lo, bnd G σ l.length hi with
   | some sz, some a, some b => if τ.size = sz then some { v := .t (.one (.d (.sl τ ((l.take b.toNat).drop a.toNat)))), c := [k = l.length, 0 ≤ a, a ≤ b, b ≤ l.length], h := [(n, .gr e τ.size l.length)] } else none
   | _, _, _ => none
  | _ => none
 | _, _, _ => none
def vAppend (hp : Nat → Option HO) (ts : List TypeId) (dst : Option Nat) (s x : TV) : Option Res :=
 match ts with
 | [t, t'] => if t = t' then match L t with
  | some y => match y.ety, x.st with
   | some (τ, e, by'), .one (.d x) => match asL τ x, s with
    | some l', .one (.vr n k) => match hp n with
     | some (.vec σ e' l) => match σ.same τ with
      | some ⟨h⟩ => if e' = e then some { v := .t (.one (.vr n (l.length + l'.length))), c := [k = l.length, (l.length + l'.length) * by' ≤ 140737488355328], h := [(n, .vec τ e ((h ▸ l) ++ l'))] } else none
      | none => none
     | _ => none
    | some l', .one (.d s) => match isNil s, dst with
     | true, some d => match hp (rm d) with
      | none => some { v := .t (.one (.vr (rm d) l'.length)), c := [l'.length * by' ≤ 140737488355328], h := [(rm d, .vec τ e l')] }
      | some _ => none
     | _, _ => none
    | _, _ => none
   | _, _ => none
  | none => none
  else none
 | _ => none
def frzL (h : List (Nat × HO)) : LV → List Prop × (LV × List (Nat × HO))
 | .vr n k => match look h n with
  | some (.vec τ e l) => match Nat.ble 1 τ.size with
   | true => ([k = l.length], (.d (.sl τ l), [(n, .frz τ e l)]))
   | false => ([], (.vr n k, []))
  | some (.frz τ _ l) => match Nat.ble 1 τ.size with
   | true => ([k = l.length], (.d (.sl τ l), []))
   | false => ([], (.vr n k, []))
  | some (.vh τ e l j off b m) => match look h b with
   | some (.vec τ' e' l') => match Nat.ble 1 τ.size, Nat.ble 1 τ'.size, setAt (dcells (τ.enc (l.getD j τ.d0)) 0 τ.size) off [.d (.sl τ' l')] with
    | true, true, some cs => match plainC τ cs with
     | some u => ([k = (l.set j u).length, m = l'.length], (.d (.sl τ (l.set j u)), [(b, .frz τ' e' l'), (n, .vec τ e (l.set j u)), (n, .frz τ e (l.set j u))]))
     | none => ([], (.vr n k, []))
    | _, _, _ => ([], (.vr n k, []))
   | _ => ([], (.vr n k, []))
  | _ => ([], (.vr n k, []))
 | x => ([], (x, []))
def frzLs (h : List (Nat × HO)) : List LV → List Prop × (List LV × List (Nat × HO))
 | [] => ([], ([], []))
 | x :: r => match frzL h x with
  | (p, (y, e)) => match frzLs (upds e h) r with
   | (q, (ys, f)) => (p ++ q, (y :: ys, e ++ f))
def frzT (h : List (Nat × HO)) : TV → List Prop × (TV × List (Nat × HO))
 | .one x => match frzL h x with
  | (p, (y, e)) => (p, (.one y, e))
 | .agg xs => match frzLs h xs with
  | (p, (ys, e)) => (p, (.agg ys, e))
def frzTs (h : List (Nat × HO)) : List TV → List Prop × (List TV × List (Nat × HO))
 | [] => ([], ([], []))
 | x :: r => match frzT h x with
  | (p, (y, e)) => match frzTs (upds e h) r with
   | (q, (ys, f)) => (p ++ q, (y :: ys, e ++ f))
def frzA (h : List (Nat × HO)) : AV → List Prop × (AV × List (Nat × HO))
 | .t x => match frzT h x with
  | (p, (y, e)) => (p, (.t y, e))
 | .tup xs => match frzTs h xs with
  | (p, (ys, e)) => (p, (.tup ys, e))
 | .nx b p c => ([], (.nx b p c, []))
def vCall (G : List (Nat × Bool)) (σ : St) (f : Operand) (args : List Operand) (ts : List TypeId) (fr : Nat) : Option Res :=
 match aCall L Γ G σ f args ts fr with
 | some r => some r
 | none => match mapT (opT G σ) args, opT G σ f with
  | some args, some (.one (.clo fid fi ca)) => match Γ fid, frzTs σ.h (nilTs L ts (stT args)) with
   | some con, (ps, (xs, es)) => match con (ptrs fi ++ (xs ++ ptrs ca)) (look (upds es σ.h)) fr with
    | some (cs, r, up) => some { v := r, c := ps ++ cs, h := es ++ up }
    | none => none
   | none, _ => none
  | _, _ => none
def aopV (G : List (Nat × Bool)) (σ : St) (o : Oper) : Option Res :=
 match o.op with
 | .move _ | .assign _ => vNil L σ o.type o.dst
 | .alloc t => vAlloc L σ t o.dst
 | .build t parts => vBuild L G σ t parts.toList o.dst
 | .buildSlice t len parts => vRows L G σ t len parts.toList o.dst
 | .makeSlice t x y => vMakeS L G σ t x y o.dst
 | .load t p => vLoad L G σ t p
 | .store t p x => vStore L G σ t p x
 | .fieldAddr t p i => vField L G σ t p i
 | .indexAddr t x i => vIndex L G σ t x i
 | .slice t x lo hi mx => vSlice L G σ t x lo hi mx
 | .call { callee := .builtin .append, args, argTypes } => match mapT (opT G σ) args.toList with
  | some [s, x] => vAppend L (look σ.h) argTypes.toList o.dst s x
  | _ => none
 | .call { callee := .builtin .len, args, argTypes } => match mapT (opT G σ) args.toList, argTypes.toList with
  | some [.one (.vr _ k)], [t] => match L t with
   | some y => match y.el with
    | some _ => some { v := .t (.one (li .i64 k)), f := [(k : Int) ≤ 9223372036854775807] }
    | none => none
   | none => none
  | _, _ => none
 | .call { callee := .value f, args, argTypes } => vCall L Γ G σ f args.toList argTypes.toList (100000 + 100 * o.dst.getD 0)
 | _ => none

def aop (G : List (Nat × Bool)) (σ : St) (o : Oper) : Option Res :=
 match isV L G σ o with
 | true => aopV L Γ G σ o
 | false => aop0 L Γ G σ o

def aopG (G : List (Nat × Bool)) (σ : St) (o : Oper) : Option Res :=
 match aop L Γ G σ o with
 | some r => gres σ G r
 | none => none

def cds (gs : List Prop) (r : Res) : List Cd :=
 match gs with
 | [] => r.c.map .ob ++ r.f.map .fact
 | gs => (match r.c with | [] => [] | cs => [.ob (All gs → All cs)]) ++ (match r.f with | [] => [] | fs => [.fact (All gs → All fs)])

def gfree (d : Nat) : List (Nat × (Nat × Bool × TV)) → Bool
 | [] => true
 | (a, (t, _, _)) :: r => a != d && (t != d && gfree d r)

def astep (N : Nat) (ops : List Oper) (o : Oper) (σ : St) : Option (List Cd × St) :=
 if o.guard.isSome && (chain ops 10 o.guard).isEmpty then none else
 match guards σ (chain ops 10 o.guard) with
 | none => none
 | some gs => match aopG L Γ (chain ops 10 o.guard) σ o with
  | none => none
  | some r => match o.dst, chain ops 10 o.guard with
   | none, [] => some (cds gs r, { σ with h := upds r.h σ.h })
   | none, _ :: _ => none
   | some d, [] => if gfree d σ.g && decide (d < N) then some (cds gs r, { σ with s := (d, r.v) :: σ.s, h := upds r.h σ.h }) else none
   | some d, (t, w) :: _ => if gfree d σ.g && (d != t && decide (d < N)) then match r.v, look σ.s d with
     | .t x, none => some (cds gs r, { σ with g := (d, (t, w, x)) :: σ.g, h := upds r.h σ.h })
     | _, _ => none
    else none

def asteps (N : Nat) (ops : List Oper) : List Oper → St → Option (List Cd × St)
 | [], σ => some ([], σ)
 | o :: r, σ => match astep L Γ N ops o σ with
  | some (c, σ') => match asteps N ops r σ' with
   | some (c', σ'') => some (c ++ c', σ'')
   | none => none
  | none => none
end Go.Sy
namespace Go.Sy

/-! the meaning of abstract values in a world; how it is kept -/
inductive All2 {α : Type _} {β : Type _} (R : α → β → Prop) : List α → List β → Prop
 | nil : All2 R [] []
 | cons {a b l m} : R a b → All2 R l m → All2 R (a :: l) (b :: m)

theorem All2.length {α : Type _} {β : Type _} {R : α → β → Prop} {l : List α} {m : List β} (h : All2 R l m) : l.length = m.length := by
 induction h <;> simp_all
theorem All2.mono {α : Type _} {β : Type _} {R R' : α → β → Prop} {l : List α} {m : List β} (h : All2 R l m) (hr : ∀ a b, a ∈ l → R a b → R' a b) : All2 R' l m := by
 induction h with
 | nil => exact .nil
 | cons h _ ih => exact .cons (hr _ _ (by simp) h) (ih fun a b ha => hr a b (by simp [ha]))
theorem All2.get {α : Type _} {β : Type _} {R : α → β → Prop} {l : List α} {m : List β} (h : All2 R l m) {i : Nat} {a : α} (ha : l[i]? = some a) : ∃ b, m[i]? = some b ∧ R a b := by
 induction h generalizing i with
 | nil => simp at ha
 | cons h _ ih =>
  cases i with
  | zero => simp at ha; subst ha; exact ⟨_, by simp, h⟩
  | succ i => simp at ha; obtain ⟨b, hb, hr⟩ := ih ha; exact ⟨b, by simpa using hb, hr⟩
theorem All2.append {α : Type _} {β : Type _} {R : α → β → Prop} {l l' : List α} {m m' : List β} (h : All2 R l m) (h' : All2 R l' m') : All2 R (l ++ l') (m ++ m') := by
 induction h with
 | nil => exact h'
 | cons h _ ih => exact .cons h ih
theorem All2.take {α : Type _} {β : Type _} {R : α → β → Prop} {l : List α} {m : List β} (h : All2 R l m) (n : Nat) : All2 R (l.take n) (m.take n) := by
 induction h generalizing n with
 | nil => simpa using .nil
 | cons h _ ih => cases n with
  | zero => simpa using .nil
  | succ n => simpa using .cons h (ih n)
theorem All2.drop {α : Type _} {β : Type _} {R : α → β → Prop} {l : List α} {m : List β} (h : All2 R l m) (n : Nat) : All2 R (l.drop n) (m.drop n) := by
 induction h generalizing n with
 | nil => simpa using .nil
 | cons h hh ih => cases n with
  | zero => simpa using .cons h hh
  | succ n => simpa using ih n
theorem All2.of_get {α : Type _} {β : Type _} {R : α → β → Prop} : ∀ {l : List α} {m : List β}, l.length = m.length → (∀ (i : Nat) a b, l[i]? = some a → m[i]? = some b → R a b) → All2 R l m
 | [], [], _, _ => .nil
 | a :: l, b :: m, hl, h => .cons (h 0 a b rfl rfl) (All2.of_get (by simpa using hl) fun i x y hx hy => h (i + 1) x y (by simpa using hx) (by simpa using hy))
 | [], _ :: _, hl, _ => by simp at hl
 | _ :: _, [], hl, _ => by simp at hl

abbrev CM := Nat → Nat → Prop

inductive VD (w : World) (M : CM) : DV → Value → Prop
 | lit {v : Value} (h : v.oneCell' = true) : VD w M (.lit v) v
 | nil {τ : Ty} : VD w M (.sl τ []) (.slice none 0 0)
 | sl {τ : Ty} {l : List τ.T} {a : Addr} {cap : Nat} (vs : Nat → Nat → Value) (h0 : 0 < τ.size)
   (hb : ∀ i, i < l.length → a.block < w.heap.size) (hcap : l.length ≤ cap) (hmax : cap ≤ maxLen)
   (hM : ∀ i j, i < l.length → j < τ.size → ¬ M a.block (a.off + (i * τ.size + j)))
   (hc : ∀ i j, i < l.length → j < τ.size → w.cell? (a.add (i * τ.size + j)) = some (vs i j))
   (hv : ∀ i j, i < l.length → j < τ.size → VD w M (τ.enc (l.getD i τ.d0) j) (vs i j)) :
   VD w M (.sl τ l) (.slice (some a) l.length cap)

structure Bt where
 b : Nat → Option Nat
 o : Nat → Option Value
 m : CM
 ym : Nat → CM
 yj : Nat → HO → CM → CM → World → Prop
 pr : Program
instance : CoeFun Bt (fun _ => Nat → Option Nat) := ⟨Bt.b⟩
def hlen : Value → Nat
 | .slice _ l _ => l
 | _ => 0

structure Evo (M M' : CM) (w w' : World) : Prop where
 size : w.heap.size ≤ w'.heap.size
 cell : ∀ p : Addr, p.block < w.heap.size → ¬ M p.block p.off → w'.cell? p = w.cell? p
 mt : ∀ k off, k < w.heap.size → ¬ M k off → ¬ M' k off
 blk : ∀ k, k < w.heap.size → (∀ off, ¬ M k off) → w'.heap[k]? = w.heap[k]?
 sys : w'.os = w.os ∧ w'.tape = w.tape ∧ w'.output = w.output

theorem Evo.refl {M : CM} {w : World} : Evo M M w w := ⟨Nat.le_refl _, fun _ _ _ => rfl, fun _ _ _ h => h, fun _ _ _ => rfl, rfl, rfl, rfl⟩
theorem Evo.trans {M M' M'' : CM} {w w' w'' : World} (h : Evo M M' w w') (h' : Evo M' M'' w' w'') : Evo M M'' w w'' :=
 ⟨Nat.le_trans h.size h'.size, fun p hp hm => (h'.cell p (Nat.lt_of_lt_of_le hp h.size) (h.mt _ _ hp hm)).trans (h.cell p hp hm),
  fun k o hk hm => h'.mt k o (Nat.lt_of_lt_of_le hk h.size) (h.mt k o hk hm),
  fun k hk hm => (h'.blk k (Nat.lt_of_lt_of_le hk h.size) fun off => h.mt k off hk (hm off)).trans (h.blk k hk hm),
  h'.sys.1.trans h.sys.1, h'.sys.2.1.trans h.sys.2.1, h'.sys.2.2.trans h.sys.2.2⟩
theorem Evo.less {M M' : CM} {w : World} (h : ∀ k off, M' k off → M k off) : Evo M M' w w := ⟨Nat.le_refl _, fun _ _ _ => rfl, fun k off _ hm hm' => hm (h k off hm'), fun _ _ _ => rfl, rfl, rfl, rfl⟩

theorem add_block (a : Addr) (n : Nat) : (a.add n).block = a.block := by unfold Addr.add; split <;> rfl
theorem add_off (a : Addr) (n : Nat) : (a.add n).off = a.off + n := by unfold Addr.add; split <;> simp_all
theorem add_add (a : Addr) (m n : Nat) : (a.add m).add n = a.add (m + n) := by
 unfold Addr.add
 by_cases hm : m = 0 <;> by_cases hn : n = 0 <;> simp_all [Nat.add_assoc]

theorem VD.evo {M M' : CM} {w w' : World} (e : Evo M M' w w') {x : DV} {v : Value} (h : VD w M x v) : VD w' M' x v := by
 induction h with
 | lit h => exact .lit h
 | nil => exact .nil
 | sl vs h0 hb hcap hmax hM hc hv ih =>
  refine .sl vs h0 (fun i hi => Nat.lt_of_lt_of_le (hb i hi) e.size) hcap hmax (fun i j hi hj => e.mt _ _ (hb i hi) (hM i j hi hj)) (fun i j hi hj => ?_) (fun i j hi hj => ih i j hi hj)
  rw [e.cell _ (by rw [add_block]; exact hb i hi) (by rw [add_block, add_off]; exact hM i j hi hj)]
  exact hc i j hi hj

theorem VD.one {M : CM} {w : World} {x : DV} {v : Value} (h : VD w M x v) : v.oneCell' = true := by
 cases h with
 | lit h => exact h
 | nil => rfl
 | sl => rfl

def PV (β : Bt) (D : Nat → Prop) (q : Nat × Nat) (v : Value) : Prop := ∃ k, D q.1 ∧ β.o q.1 = none ∧ β q.1 = some k ∧ v = .pointer (some ⟨k, q.2, none⟩)
def OV (β : Bt) (D : Nat → Prop) (n : Nat) (v : Value) : Prop := D n ∧ ∃ u, β.o n = some u ∧ hlen v ≤ hlen u ∧ (hlen v = hlen u → v = u)

def VPt (β : Bt) (D : Nat → Prop) (n k sz i off : Nat) (v : Value) : Prop :=
 D n ∧ (∃ a, v = .pointer a) ∧ ∃ u, β.o n = some u ∧ k ≤ hlen u ∧ (k = hlen u → ∃ b cap, u = .slice (some ⟨b, 0, none⟩) k cap ∧ v = .pointer (some ⟨b, i * sz + off, none⟩))
theorem OV.to {β β' : Bt} {D D' : Nat → Prop} {n n' : Nat} {v : Value} (h : OV β D n v) (hd : D' n') (ho : β'.o n' = β.o n) : OV β' D' n' v := by
 obtain ⟨_, u, h1, h2⟩ := h
 exact ⟨hd, u, ho.trans h1, h2⟩
theorem VPt.to {β β' : Bt} {D D' : Nat → Prop} {n n' k sz i off : Nat} {v : Value} (h : VPt β D n k sz i off v) (hd : D' n') (ho : β'.o n' = β.o n) : VPt β' D' n' k sz i off v := by
 obtain ⟨_, hp, u, h1, h2⟩ := h
 exact ⟨hd, hp, u, ho.trans h1, h2⟩

inductive VL (w : World) (M : CM) (β : Bt) (D : Nat → Prop) : LV → Value → Prop
 | d {x v} (h : VD w M x v) : VL w M β D (.d x) v
 | ptr {n off v} (h : PV β D (n, off) v) : VL w M β D (.ptr n off) v
 | dptr {k : Nat} {c : Nat → DV} {p : Addr} (vs : Nat → Value) (hb : p.block < w.heap.size) (hM : ∀ j, j < k → ¬ M p.block (p.off + j))
   (hc : ∀ j, j < k → w.cell? (p.add j) = some (vs j)) (hv : ∀ j, j < k → VD w M (c j) (vs j)) : VL w M β D (.dptr k c) (.pointer (some p))
 | clo {f fi ca vf vc} (h1 : All2 (PV β D) fi vf) (h2 : All2 (PV β D) ca vc) : VL w M β D (.clo f fi ca) (.func (.func f) vf.toArray vc.toArray)
 | own {n x v} (h : VD w M x v) (ho : OV β D n v) : VL w M β D (.own n x) v
 | mp {n : Nat} {k : Nat} (h1 : D n) (h2 : β.o n = none) (h3 : β n = some k) : VL w M β D (.mp n) (.map (some k))
 | yl {n : Nat} {k : Nat} (h1 : D n) (h2 : β.o n = none) (h3 : β n = some k) : VL w M β D (.yl n) (.func (.yield k) #[] #[])
 | vr {n k : Nat} {v : Value} (hs : ∃ a len cap, v = .slice a len cap) (hk : hlen v = k) (ho : OV β D n v) : VL w M β D (.vr n k) v
 | vp {n k sz i off wd : Nat} {v : Value} (h : VPt β D n k sz i off v) : VL w M β D (.vp n k sz i off wd) v
 | nn {q : Bool} {x : DV} {v : Value} (h : VD w M x v) (hs : ∃ a len cap, v = .slice a len cap ∧ a.isNone = q) : VL w M β D (.nn q x) v
 | kn {n : Int} : VL w M β D (.kn n) (.int .i64 n)

theorem VL.one {w : World} {M : CM} {β : Bt} {D : Nat → Prop} {x : LV} {v : Value} (h : VL w M β D x v) : v.oneCell' = true := by
 cases h with
 | d h => exact h.one
 | ptr h => obtain ⟨k, _, _, _, rfl⟩ := h; rfl
 | dptr => rfl
 | clo => rfl
 | own h => exact h.one
 | mp => rfl
 | yl => rfl
 | vr hs => obtain ⟨_, _, _, rfl⟩ := hs; rfl
 | vp h => obtain ⟨_, ⟨_, rfl⟩, _⟩ := h; rfl
 | nn h => exact h.one
 | kn => rfl
theorem one_cells {v : Value} (h : v.oneCell' = true) : v.cells = #[v] := by cases v <;> first | rfl | simp [Value.oneCell'] at h

structure BEvo (β β' : Bt) (D D' : Nat → Prop) : Prop where
 d : ∀ n, D n → D' n
 b : ∀ n, D n → β.o n = none → β'.o n = none ∧ β' n = β n ∧ β'.yj n = β.yj n
 o : ∀ n u, D n → β.o n = some u → ∃ u', β'.o n = some u' ∧ (u' = u ∨ hlen u < hlen u')
 pr : β'.pr = β.pr

theorem BEvo.refl {β : Bt} {D : Nat → Prop} : BEvo β β D D := ⟨fun _ h => h, fun _ _ h => ⟨h, rfl, rfl⟩, fun _ u _ h => ⟨u, h, .inl rfl⟩, rfl⟩
theorem BEvo.trans {β β' β'' : Bt} {D D' D'' : Nat → Prop} (h : BEvo β β' D D') (k : BEvo β' β'' D' D'') : BEvo β β'' D D'' :=
 ⟨fun n hn => k.d n (h.d n hn), fun n hn ho => by
  obtain ⟨h1, h2, h3⟩ := h.b n hn ho
  obtain ⟨k1, k2, k3⟩ := k.b n (h.d n hn) h1
  exact ⟨k1, k2.trans h2, k3.trans h3⟩, fun n u hn ho => by
  obtain ⟨u', h1, h2⟩ := h.o n u hn ho
  obtain ⟨u'', k1, k2⟩ := k.o n u' (h.d n hn) h1
  refine ⟨u'', k1, ?_⟩
  rcases h2 with rfl | h2 <;> rcases k2 with rfl | k2
  ·exact .inl rfl
  ·exact .inr k2
  ·exact .inr h2
  ·exact .inr (Nat.lt_trans h2 k2), k.pr.trans h.pr⟩

theorem PV.evo {β β' : Bt} {D D' : Nat → Prop} (b : BEvo β β' D D') {q : Nat × Nat} {v : Value} (h : PV β D q v) : PV β' D' q v := by
 obtain ⟨k, h1, h0, h2, h3⟩ := h
 obtain ⟨b1, b2, _⟩ := b.b _ h1 h0
 exact ⟨k, b.d _ h1, b1, b2.trans h2, h3⟩
theorem OV.evo {β β' : Bt} {D D' : Nat → Prop} (b : BEvo β β' D D') {n : Nat} {v : Value} (h : OV β D n v) : OV β' D' n v := by
 obtain ⟨h1, u, h2, h3, h4⟩ := h
 obtain ⟨u', k1, k2⟩ := b.o n u h1 h2
 refine ⟨b.d n h1, u', k1, ?_, ?_⟩
 ·rcases k2 with rfl | k2
  ·exact h3
  ·omega
 ·rcases k2 with rfl | k2
  ·exact h4
  ·intro h; omega

theorem VPt.evo {β β' : Bt} {D D' : Nat → Prop} (b : BEvo β β' D D') {n k sz i off : Nat} {v : Value} (h : VPt β D n k sz i off v) : VPt β' D' n k sz i off v := by
 obtain ⟨h1, hp, u, h2, h3, h4⟩ := h
 obtain ⟨u', k1, k2⟩ := b.o n u h1 h2
 refine ⟨b.d n h1, hp, u', k1, ?_, ?_⟩
 ·rcases k2 with rfl | k2
  ·exact h3
  ·omega
 ·rcases k2 with rfl | k2
  ·exact h4
  ·intro h; omega

theorem VL.evo {M M' : CM} {w w' : World} {β β' : Bt} {D D' : Nat → Prop} (e : Evo M M' w w') (b : BEvo β β' D D') {x : LV} {v : Value} (h : VL w M β D x v) : VL w' M' β' D' x v := by
 cases h with
 | d h => exact .d (h.evo e)
 | ptr h => exact .ptr (h.evo b)
 | dptr vs hb hM hc hv =>
  refine .dptr vs (Nat.lt_of_lt_of_le hb e.size) (fun j hj => e.mt _ _ hb (hM j hj)) (fun j hj => ?_) (fun j hj => (hv j hj).evo e)
  rw [e.cell _ (by rw [add_block]; exact hb) (by rw [add_block, add_off]; exact hM j hj)]
  exact hc j hj
 | clo h1 h2 => exact .clo (h1.mono fun _ _ _ h => h.evo b) (h2.mono fun _ _ _ h => h.evo b)
 | own h ho => exact .own (h.evo e) (ho.evo b)
 | mp h1 h2 h3 => obtain ⟨b1, b2, _⟩ := b.b _ h1 h2; exact .mp (b.d _ h1) b1 (b2.trans h3)
 | yl h1 h2 h3 => obtain ⟨b1, b2, _⟩ := b.b _ h1 h2; exact .yl (b.d _ h1) b1 (b2.trans h3)
 | vr hs hk ho => exact .vr hs hk (ho.evo b)
 | vp h => exact .vp (h.evo b)
 | nn h hs => exact .nn (h.evo e) hs
 | kn => exact .kn

def PVal (w : World) (M : CM) (τ : Ty) (v : τ.T) (u : Value) : Prop :=
 (τ.ag = true → ∃ arr, u = .agg arr) ∧ (τ.ag = false → u.oneCell' = true) ∧ u.cells.toList.length = τ.size ∧ ∀ (j : Nat) x, u.cells.toList[j]? = some x → VD w M (τ.enc v j) x
theorem PVal.evo {M M' : CM} {w w' : World} (e : Evo M M' w w') {τ : Ty} {v : τ.T} {u : Value} (h : PVal w M τ v u) : PVal w' M' τ v u :=
 ⟨h.1, h.2.1, h.2.2.1, fun j x hx => (h.2.2.2 j x hx).evo e⟩

structure Chg (I : CM) (w w' : World) : Prop where
 size : w.heap.size ≤ w'.heap.size
 cell : ∀ p : Addr, p.block < w.heap.size → ¬ I p.block p.off → w'.cell? p = w.cell? p
 blk : ∀ k, k < w.heap.size → (∀ off, ¬ I k off) → w'.heap[k]? = w.heap[k]?
 sys : w'.os = w.os ∧ w'.tape = w.tape ∧ w'.output = w.output
def ArgsOk (w : World) (M : CM) : (sg : List Ty) → (tpl sg).T → List Value → Prop
 | [], _, vs => vs = []
 | a :: r, x, vs => ∃ v vs', vs = v :: vs' ∧ PVal w M a x.1 v ∧ ArgsOk w M r x.2 vs'
structure YOk (P : Program) (sg : List Ty) (go : Lp (tpl sg).T) (k : Nat) (J : HO → CM → CM → World → Prop) : Prop where
 rc : ∀ hist Y I w, J (.ob sg hist go) Y I w → ∃ off, Y k off
 stay : ∀ hist Y I I' w w', J (.ob sg hist go) Y I w → Chg I w w' → (∀ q off, I' q off → I q off ∨ (w.heap.size ≤ q ∧ q < w'.heap.size)) → (∀ q off off', I' q off → ¬ Y q off') → J (.ob sg hist go) Y I' w'
 call : ∀ hist Y I w x vals, J (.ob sg hist go) Y I w → (∀ q off, I q off → q < w.heap.size) → (∀ q off off', I q off → ¬ Y q off') → liveX go hist x → ArgsOk w (fun q off => Y q off ∨ I q off) sg x vals →
  YieldAt Fence.wide 0 P k vals.toArray w fun e w' => e = .returned (.bool (go (hist ++ [x]))) ∧ ∃ Y', J (.ob sg (hist ++ [x]) go) Y' I w' ∧ Chg Y w w' ∧ (∀ q off, Y' q off → (∃ off', Y q off') ∨ w.heap.size ≤ q) ∧
   (∀ q off, q < w.heap.size → Y' q off → Y q off) ∧ ∀ q off, Y' q off → q < w'.heap.size

section
variable (w : World) (M : CM) (β : Bt) (D : Nat → Prop)
def VT : TV → Value → Prop
 | .one x, v => VL w M β D x v
 | .agg xs, v => ∃ arr : Array Value, v = .agg arr ∧ All2 (VL w M β D) xs arr.toList
def VA : AV → Value → Prop
 | .t x, v => VT w M β D x v
 | .tup xs, v => ∃ arr : Array Value, v = .tuple arr ∧ All2 (VT w M β D) xs arr.toList
 | .nx b p c, v => v = (if b then .tuple #[.bool true, .int .i64 p, .int .i32 c] else .tuple #[.bool false])
def HOR (n : Nat) : HO → Prop
 | .cells b => ∃ k arr e, β.o n = none ∧ β n = some k ∧ w.heap[k]? = some (.cells arr e (0, 0)) ∧ All2 (VL w M β D) b arr.toList
 | .gr e sz len => (β.o n = some (.slice none 0 0) ∧ β n = none ∧ len = 0) ∨
   ∃ k cap arr, β.o n = some (.slice (some ⟨k, 0, none⟩) len cap) ∧ β n = some k ∧ w.heap[k]? = some (.cells arr e (0, 0)) ∧ len ≤ cap ∧ cap ≤ maxLen ∧ arr.size = cap * sz
 | .vec τ e l => (β.o n = some (.slice none 0 0) ∧ β n = none ∧ l = []) ∨
   ∃ k cap arr, β.o n = some (.slice (some ⟨k, 0, none⟩) l.length cap) ∧ β n = some k ∧ w.heap[k]? = some (.cells arr e (0, 0)) ∧ l.length ≤ cap ∧ cap ≤ maxLen ∧ arr.size = cap * τ.size ∧
    ∀ i j u, i < l.length → j < τ.size → arr[i * τ.size + j]? = some u → VD w M (τ.enc (l.getD i τ.d0) j) u
 | .frz τ e l => (β.o n = some (.slice none 0 0) ∧ β n = none ∧ l = []) ∨
   ∃ k cap arr, β.o n = some (.slice (some ⟨k, 0, none⟩) l.length cap) ∧ β n = some k ∧ w.heap[k]? = some (.cells arr e (0, 0)) ∧ l.length ≤ cap ∧ cap ≤ maxLen ∧ arr.size = cap * τ.size ∧
    ∀ i j u, i < l.length → j < τ.size → arr[i * τ.size + j]? = some u → VD w M (τ.enc (l.getD i τ.d0) j) u
 | .vh τ e l j off b m => ∃ k cap arr, β.o n = some (.slice (some ⟨k, 0, none⟩) l.length cap) ∧ β n = some k ∧ w.heap[k]? = some (.cells arr e (0, 0)) ∧ l.length ≤ cap ∧ cap ≤ maxLen ∧ arr.size = cap * τ.size ∧
   (∀ i q u, i < l.length → q < τ.size → ¬ (i = j ∧ q = off) → arr[i * τ.size + q]? = some u → VD w M (τ.enc (l.getD i τ.d0) q) u) ∧ (j < l.length ∧ off < τ.size) ∧ ∀ u, arr[j * τ.size + off]? = some u → VL w M β D (.vr b m) u
 | .ob sg hist go => β.o n = none ∧ ∃ k, β n = some k ∧ YOk β.pr sg go k (β.yj n) ∧ β.yj n (.ob sg hist go) (β.ym n) (fun q off => M q off ∧ ¬ β.ym n q off) w
 | .dead _ => ∃ u, β.o n = some u ∧ hlen u ≤ maxLen
 | .it q p => ∃ k, β.o n = none ∧ β n = some k ∧ w.heap[k]? = some (.stringIter q p)
 | .mp κ ν l => ∃ k es clock, β.o n = none ∧ β n = some k ∧ w.heap[k]? = some (.map es clock) ∧ All2 (fun (p : κ.T × ν.T) (en : MapEntry) => PVal w M κ p.1 en.key ∧ PVal w M ν p.2 en.val) l es.toList
 | .fm l => ∃ k es clock, β.o n = none ∧ β n = some k ∧ w.heap[k]? = some (.map es clock) ∧ All2 (fun (p : Int × TV) (en : MapEntry) => PVal w M (.ti .i64) p.1 en.key ∧ VT w M β D p.2 en.val) l es.toList
end

theorem VT.evo {M M' : CM} {w w' : World} {β β' : Bt} {D D' : Nat → Prop} (e : Evo M M' w w') (b : BEvo β β' D D') {x : TV} {v : Value} (h : VT w M β D x v) : VT w' M' β' D' x v := by
 cases x with
 | one x => exact VL.evo e b h
 | agg xs => obtain ⟨arr, rfl, h⟩ := h; exact ⟨arr, rfl, h.mono fun _ _ _ h => h.evo e b⟩
theorem VA.evo {M M' : CM} {w w' : World} {β β' : Bt} {D D' : Nat → Prop} (e : Evo M M' w w') (b : BEvo β β' D D') {x : AV} {v : Value} (h : VA w M β D x v) : VA w' M' β' D' x v := by
 cases x with
 | t x => exact VT.evo e b h
 | tup xs => obtain ⟨arr, rfl, h⟩ := h; exact ⟨arr, rfl, h.mono fun _ _ _ h => VT.evo e b h⟩
 | nx => exact h

theorem VT.cells {w : World} {M : CM} {β : Bt} {D : Nat → Prop} {x : TV} {v : Value} (h : VT w M β D x v) : All2 (VL w M β D) x.cells v.cells.toList := by
 cases x with
 | one x => rw [one_cells (VL.one h)]; exact .cons h .nil
 | agg xs => obtain ⟨arr, rfl, h⟩ := h; exact h

def dm (hp : Nat → Option HO) (n : Nat) : Prop := hp n ≠ none
def HO.mut : HO → Nat → Prop
 | .cells _, _ => True
 | .gr _ sz len, off => len * sz ≤ off
 | .mp _ _ _, _ => True
 | .ob _ _ _, _ => False
 | .vec _ _ _, _ => True
 | .frz τ _ l, off => l.length * τ.size ≤ off
 | .it _ _, _ => True
 | .dead n, off => n ≤ off
 | .fm _, _ => True
 | .vh _ _ _ _ _ _ _, _ => True
def bk (β : Bt) (n k : Nat) : Prop := β n = some k ∨ ∃ off, β.ym n k off
def Mt (β : Bt) (hp : Nat → Option HO) : CM := fun k off => β.m k off ∨ ∃ n o, hp n = some o ∧ ((β n = some k ∧ o.mut off) ∨ β.ym n k off)
def tabName : String := String.append (String.append "internal" (String.singleton (Char.ofNat 47))) "strconv.uint64pow10"
def tabCells : Array Value := ((List.range 20).map fun i => Value.int .u64 ((10 ^ i : Nat) : Int)).toArray
def GInv (P : Program) (w : World) (M : CM) : Prop := ∀ g, P.globalNamed tabName = some g → (∃ e fz, w.heap[g]? = some (.cells tabCells e fz)) ∧ ∀ off, ¬ M g off
theorem GInv.evo {P : Program} {w w' : World} {M M' : CM} (h : GInv P w M) (e : Evo M M' w w') : GInv P w' M' := fun g hg => by
 obtain ⟨⟨t, fz, h1⟩, h2⟩ := h g hg
 have hlt : g < w.heap.size := (Array.getElem?_eq_some_iff.1 h1).1
 exact ⟨⟨t, fz, (e.blk g hlt h2).trans h1⟩, fun off => e.mt g off hlt (h2 off)⟩
structure HR (β : Bt) (hp : Nat → Option HO) (w : World) : Prop where
 m0 : ∀ k off, β.m k off → k < w.heap.size
 lt : ∀ n k, hp n ≠ none → bk β n k → k < w.heap.size
 fresh : ∀ n k off, hp n ≠ none → bk β n k → ¬ β.m k off
 inj : ∀ n m k, hp n ≠ none → hp m ≠ none → bk β n k → bk β m k → n = m
 ye : ∀ n o, hp n = some o → o.isOb = false → ∀ k off, ¬ β.ym n k off
 blk : ∀ n o, hp n = some o → HOR w (Mt β hp) β (dm hp) n o
 gl : GInv β.pr w (Mt β hp)

structure Fr (B : Nat → Prop) (w w' : World) : Prop where
 os : w'.os = w.os
 tape : w'.tape = w.tape
 output : w'.output = w.output
 size : w.heap.size ≤ w'.heap.size
 block : ∀ k, k < w.heap.size → ¬ B k → w'.heap[k]? = w.heap[k]?

theorem Fr.refl {B : Nat → Prop} {w : World} : Fr B w w := ⟨rfl, rfl, rfl, Nat.le_refl _, fun _ _ _ => rfl⟩
theorem Fr.trans {B B' B'' : Nat → Prop} {a b c : World} (h : Fr B a b) (k : Fr B' b c) (hB : ∀ x, x < a.heap.size → ¬ B'' x → ¬ B x ∧ ¬ B' x) : Fr B'' a c :=
 ⟨k.os.trans h.os, k.tape.trans h.tape, k.output.trans h.output, Nat.le_trans h.size k.size,
  fun i hi hb => (k.block i (Nat.lt_of_lt_of_le hi h.size) (hB i hi hb).2).trans (h.block i hi (hB i hi hb).1)⟩

def Marks (b : Nat) (m : CM) (w : World) : List Deferred → Prop
 | [] => True
 | d :: r => (∃ k, d = { target := .collected k, args := #[] } ∧ w.heap[k]? = some (Obj.deferred (some [])) ∧ b ≤ k ∧ m k 0 ∧ d ∉ r) ∧ Marks b m w r
theorem Marks.keep {b : Nat} {m m' : CM} {w w' : World} (hm : ∀ k off, m k off → m' k off) : ∀ {ds : List Deferred}, Marks b m w ds → (∀ k : Nat, m k 0 → w.heap[k]? = some (Obj.deferred (some [])) → ({ target := .collected k, args := #[] } : Deferred) ∈ ds → w'.heap[k]? = some (Obj.deferred (some []))) → Marks b m' w' ds
 | [], _, _ => trivial
 | _ :: _, ⟨⟨k, h1, h2, h3, h4, h5⟩, hr⟩, h => ⟨⟨k, h1, h k h4 h2 (by rw [h1]; exact List.mem_cons_self ..), h3, hm k 0 h4, h5⟩, Marks.keep hm hr fun k' hk h' hm => h k' hk h' (List.mem_cons_of_mem _ hm)⟩

structure Cx where
 w0 : World
 B0 : Nat → Prop
 N : Nat
 b0 : Bt
 D0 : Nat → Prop
 M : CM
 mb : Nat

structure Rel (X : Cx) (β : Bt) (σ : St) (a : Act) (w : World) : Prop where
 tn : a.tmps.size = X.N
 df : Marks X.mb β.m w a.defers
 fr : Fr X.B0 X.w0 w
 own : ∀ n k, look σ.h n ≠ none → bk β n k → X.B0 k ∨ X.w0.heap.size ≤ k
 be : BEvo X.b0 β X.D0 (dm (look σ.h))
 bm : ∀ k off, X.b0.m k off → β.m k off
 hr : HR β (look σ.h) w
 ev : Evo X.M (Mt β (look σ.h)) X.w0 w
 sl : ∀ t v, look σ.s t = some v → t < X.N ∧ VA w (Mt β (look σ.h)) β (dm (look σ.h)) v (a.tmps.getD t undef)
 gd : ∀ t g b x, look σ.g t = some (g, b, x) → t < X.N ∧ ((a.tmps.getD g undef = .bool b ∧ VT w (Mt β (look σ.h)) β (dm (look σ.h)) x (a.tmps.getD t undef)) ∨ (a.tmps.getD g undef ≠ .bool b ∧ a.tmps.getD t undef = undef))

theorem look_cons {β : Type _} (a : Nat) (x : β) (r : List (Nat × β)) (k : Nat) : look ((a, x) :: r) k = if a = k then some x else look r k := by
 simp [look]
theorem look_upds (up h : List (Nat × HO)) (k : Nat) : look (upds up h) k = match look up.reverse k with | some x => some x | none => look h k := by
 induction up generalizing h with
 | nil => simp [upds, look]
 | cons x r ih =>
  obtain ⟨a, x⟩ := x
  rw [upds, ih]
  have key : ∀ (l m : List (Nat × HO)), look (l ++ m) k = match look l k with | some y => some y | none => look m k := by
   intro l m
   induction l with
   | nil => simp [look]
   | cons y l ih => obtain ⟨b, y⟩ := y; simp only [List.cons_append, look]; split <;> simp_all
  rw [List.reverse_cons, key, look_cons]
  cases look r.reverse k with
  | some y => simp
  | none => simp only [look]; by_cases h : a = k <;> simp [h]

theorem LV.st_sound {w : World} {M : CM} {β : Bt} {D : Nat → Prop} {x : LV} {v : Value} (h : VL w M β D x v) : VL w M β D x.st v := by
 cases h with
 | own h _ => exact .d h
 | d h => exact .d h
 | ptr h => exact .ptr h
 | dptr vs hb hM hc hv => exact .dptr vs hb hM hc hv
 | clo h1 h2 => exact .clo h1 h2
 | mp h1 h2 h3 => exact .mp h1 h2 h3
 | yl h1 h2 h3 => exact .yl h1 h2 h3
 | vr hs hk ho => exact .vr hs hk ho
 | vp h => exact .vp h
 | nn h => exact .d h
 | kn => exact .d (.lit rfl)
theorem stL_sound {w : World} {M : CM} {β : Bt} {D : Nat → Prop} {xs : List LV} {vs : List Value} (h : All2 (VL w M β D) xs vs) : All2 (VL w M β D) (stL xs) vs := by
 induction h with
 | nil => exact .nil
 | cons h _ ih => exact .cons (LV.st_sound h) ih
theorem TV.st_sound {w : World} {M : CM} {β : Bt} {D : Nat → Prop} {x : TV} {v : Value} (h : VT w M β D x v) : VT w M β D x.st v := by
 cases x with
 | one x => exact LV.st_sound h
 | agg xs => obtain ⟨arr, h1, h2⟩ := h; exact ⟨arr, h1, stL_sound h2⟩
theorem stT_sound {w : World} {M : CM} {β : Bt} {D : Nat → Prop} {xs : List TV} {vs : List Value} (h : All2 (VT w M β D) xs vs) : All2 (VT w M β D) (stT xs) vs := by
 induction h with
 | nil => exact .nil
 | cons h _ ih => exact .cons (TV.st_sound h) ih
theorem All2.set {α : Type _} {β : Type _} {R : α → β → Prop} {l : List α} {m : List β} (h : All2 R l m) {j : Nat} {x : α} {y : β} (hy : m[j]? = some y) (hr : R x y) : All2 R (l.set j x) m := by
 induction h generalizing j with
 | nil => simp at hy
 | cons h1 h2 ih =>
  cases j with
  | zero => simp at hy; subst hy; exact .cons hr h2
  | succ j => exact .cons h1 (ih (by simpa using hy))
theorem nilCs_sound {w : World} {M : CM} {β : Bt} {D : Nat → Prop} {vs : List Value} : ∀ {cz : List (Nat × Ty)} {xs : List LV}, All2 (VL w M β D) xs vs → All2 (VL w M β D) (nilCs cz xs) vs
 | [], _, h => h
 | (j, τ) :: r, xs, h => by
  unfold nilCs
  split
  ·rename_i l hx
   obtain ⟨v, hv, hr⟩ := h.get hx
   refine nilCs_sound (h.set hv ?_)
   cases hr with
   | d hr => cases hr with
    | nil => exact .d .nil
    | sl _ h0 => exact absurd h0 (by decide)
  ·exact nilCs_sound h
theorem nilT_sound {L : Nat → Option Lay} {w : World} {M : CM} {β : Bt} {D : Nat → Prop} {t : TypeId} {x : TV} {v : Value} (h : VT w M β D x v) : VT w M β D (nilT L t x) v := by
 unfold nilT
 split
 ·split
  ·split
   ·have h : VL w M β D (.d (.sl .tu _)) v := h
    cases h with
    | d h => cases h with
     | nil => exact VL.d .nil
     | sl _ h0 => exact absurd h0 (by decide)
   ·exact h
  ·exact h
 ·split
  ·obtain ⟨arr, e, h⟩ := h
   exact ⟨arr, e, nilCs_sound h⟩
  ·exact h
 ·exact h
theorem nilTs_sound {L : Nat → Option Lay} {w : World} {M : CM} {β : Bt} {D : Nat → Prop} : ∀ {ts : List TypeId} {xs : List TV} {vs : List Value}, All2 (VT w M β D) xs vs → All2 (VT w M β D) (nilTs L ts xs) vs
 | _ :: _, _ :: _, _, .cons h r => .cons (nilT_sound h) (nilTs_sound r)
 | [], _, _, h => h
 | _ :: _, [], _, h => h

/-! operands -/
section
variable {X : Cx} {β : Bt} {σ : St} {a : Act} {w : World} {G : List (Nat × Bool)}
def GOk (a : Act) (G : List (Nat × Bool)) : Prop := ∀ t b, has G t b = true → a.tmps.getD t undef = .bool b

theorem constV_sound {v : Value} {x : AV} (h : constV v = some x) : VA w (Mt β (look σ.h)) β (dm (look σ.h)) x v := by
 unfold constV at h
 split at h
 ·cases h
 ·cases h
 ·obtain rfl := Option.some.inj h; exact .d .nil
 ·rename_i h1 h2 h3
  obtain rfl := Option.some.inj h
  refine .d (.lit ?_)
  cases v <;> first | rfl | (exact absurd rfl (h1 _)) | (exact absurd rfl (h2 _))

theorem opd_sound (R : Rel X β σ a w) (hG : GOk a G) {o : Operand} {x : AV} (h : opd G σ o = some x) : VA w (Mt β (look σ.h)) β (dm (look σ.h)) x (a.eval o) := by
 cases o with
 | tmp t =>
  simp only [opd] at h
  cases hg : look σ.g t with
  | none => rw [hg] at h; exact (R.sl _ _ h).2
  | some e =>
   obtain ⟨g, b, y⟩ := e
   rw [hg] at h
   simp only at h
   split at h
   ·rename_i hh
    obtain rfl := Option.some.inj h
    rcases (R.gd _ _ _ _ hg).2 with h1 | h1
    ·exact h1.2
    ·exact absurd (hG _ _ hh) h1.1
   ·cases h
 | const v => exact constV_sound h
 | func f => obtain rfl := Option.some.inj h; exact VL.clo (vf := []) (vc := []) .nil .nil
 | _ => cases h

theorem opT_sound (R : Rel X β σ a w) (hG : GOk a G) {o : Operand} {x : TV} (h : opT G σ o = some x) : VT w (Mt β (look σ.h)) β (dm (look σ.h)) x (a.eval o) := by
 unfold opT at h
 split at h
 ·rename_i y hy
  obtain rfl := Option.some.inj h
  exact opd_sound R hG hy
 ·cases h

theorem opS_sound (R : Rel X β σ a w) (hG : GOk a G) {o : Operand} {x : TV} (h : opS G σ o = some x) : VT w (Mt β (look σ.h)) β (dm (look σ.h)) x (a.eval o) := by
 unfold opS at h
 split at h
 ·rename_i y hy
  obtain rfl := Option.some.inj h
  exact TV.st_sound (opT_sound R hG hy)
 ·cases h

theorem mapT_sound (R : Rel X β σ a w) (hG : GOk a G) : ∀ {os : List Operand} {xs : List TV}, mapT (opT G σ) os = some xs → All2 (VT w (Mt β (look σ.h)) β (dm (look σ.h))) xs (os.map a.eval)
 | [], xs, h => by obtain rfl := Option.some.inj h; exact .nil
 | o :: r, xs, h => by
  simp only [mapT] at h
  split at h
  ·rename_i x hx
   split at h
   ·rename_i ys hys
    obtain rfl := Option.some.inj h
    exact .cons (opT_sound R hG hx) (mapT_sound R hG hys)
   ·cases h
  ·cases h
end
end Go.Sy
namespace Go.Sy
variable {P : Program}

/-! what a layout says of a type -/
def sizeIs (P : Program) (t : TypeId) (n : Nat) : Prop := (P.info? t).map (·.size) = some n
theorem run_sizeOf {t : TypeId} {n : Nat} (h : sizeIs P t n) (w : World) : (sizeOf t).run P w = .ok n w := by
 unfold sizeIs at h
 cases hi : P.info? t with
 | none => rw [hi] at h; cases h
 | some i => rw [hi] at h; simp at h; subst h; simp [sizeOf, typeInfo, hi]

def eqks (P : Program) (rec : TypeId → Option (List LK)) : List Field → Nat → Option (List LK)
 | [], _ => some []
 | f :: r, off => if f.name ≠ "_" ∧ f.offset = off then
   match rec f.type with
   | some ks => if (P.info? f.type).map (·.size) = some ks.length then
     match eqks P rec r (off + ks.length) with
     | some l => some (ks ++ l)
     | none => none
    else none
   | none => none
  else none
def eqk (P : Program) : Nat → TypeId → Option (List LK)
 | 0, _ => none
 | n + 1, t => match P.underlying t with
  | some (.int _) => some [.i]
  | some .bool => some [.b]
  | some .string => some [.s]
  | some (.struct fs) => if P.stoodInHeld t = false then eqks P (eqk P n) fs.toList 0 else none
  | _ => none

def aggD : TypeDesc → Bool
 | .struct _ => true
 | .array _ _ => true
 | _ => false
structure KeyOk (P : Program) (κ : Ty) (t : TypeId) : Prop where
 cmp : κ.cmp = true
 ag : ∀ e, P.underlying t = some e → aggD e = κ.ag
 ks : eqk P 20 t = some κ.lks
def SkOk (P : Program) (t : TypeId) (n : Nat) : Prop :=
 (n = 1 → P.underlying t = some .string) ∧ (n = 2 → ∃ e, P.underlying t = some (.slice e) ∧ P.underlying e = some (.int .u8)) ∧ (n = 3 → ∃ e, P.underlying t = some (.slice e) ∧ P.underlying e = some (.int .i32))
structure LayOk (P : Program) (t : TypeId) (y : Lay) : Prop where
 agg : ∀ w, (isAgg t).run P w = .ok y.agg w
 one : y.agg = false → y.size = 1
 size : sizeIs P t y.size
 zero : ∃ z : Value, (∀ w, (zeroValue t).run P w = .ok z w) ∧ (y.agg = true → ∃ arr, z = .agg arr) ∧ ∀ w M, All2 (VD w M) y.zero z.cells.toList
 fs : y.fs ≠ [] → ∃ fields, P.underlying t = some (.struct fields) ∧ All2 (fun q (f : Field) => f.offset = q.1 ∧ sizeIs P f.type q.2 ∧ q.2 ≠ 0) y.fs fields.toList
 el : ∀ s, y.el = some s → ∃ e, P.underlying t = some (.slice e) ∧ sizeIs P e s ∧ s ≠ 0 ∧ ∃ z, ∀ w, (zeroValue e).run P w = .ok z w
 ety : ∀ τ e by', y.ety = some (τ, e, by') → P.underlying t = some (.slice e) ∧ 0 < τ.size ∧ (∀ w, (zeroValue t).run P w = .ok (.slice none 0 0) w) ∧ 0 < by' ∧
  ∃ i z, P.info? e = some i ∧ i.size = τ.size ∧ i.bytes = by' ∧ i.zero = some z ∧ z.cells.size = τ.size
 kind : ∀ k, y.kind = some k → P.underlying t = some (.int k)
 eqs : ∀ ks, y.eqs = some ks → eqk P 20 t = some ks ∧ P.eqGuardType P.depth t = false
 sk : SkOk P t y.sk
 mpt : ∀ κ ν, y.mpt = some (κ, ν) → ∃ kt et z, P.underlying t = some (.map kt et) ∧ KeyOk P κ kt ∧ (∀ w, (zeroValue et).run P w = .ok z w) ∧ ∀ w M, PVal w M ν ν.d0 z
 fmt : ∀ z, y.fmt = some z → ∃ kt et v, P.underlying t = some (.map kt et) ∧ KeyOk P (.ti .i64) kt ∧ (∀ w, (zeroValue et).run P w = .ok v w) ∧ ∀ w M β D, VT w M β D (zeroF z) v
 ars : ∀ n e s, y.ars = some (n, e, s) → P.underlying t = some (.array n e) ∧ sizeIs P e s

def LOk (P : Program) (L : Nat → Option Lay) : Prop := ∀ t y, L t = some y → LayOk P t y

theorem leafsEq_cons {k : LK} {ks : List LK} {x y : LV} {xs ys : List LV} : leafsEq (k :: ks) (x :: xs) (y :: ys) = match leafEq k x y, leafsEq ks xs ys with
  | some a, some b => some (a && b)
  | _, _ => none := by
 simp only [leafsEq]
 cases h1 : leafEq k x y with
 | none => rfl
 | some a =>
  cases h2 : leafsEq ks xs ys with
  | none => rfl
  | some b =>
   cases xs with
   | nil => cases ys <;> cases ks <;> simp_all [leafsEq]
   | cons => rfl
theorem leafsEq_append : ∀ {ks ls : List LK} {xs ys : List LV} {r : Bool}, leafsEq (ks ++ ls) xs ys = some r →
  ∃ a b, leafsEq ks (xs.take ks.length) (ys.take ks.length) = some a ∧ leafsEq ls (xs.drop ks.length) (ys.drop ks.length) = some b ∧ r = (a && b)
 | [], ls, xs, ys, r, h => ⟨true, r, by simp [leafsEq], by simpa using h, by simp⟩
 | k :: ks, ls, x :: xs, y :: ys, r, h => by
  rw [List.cons_append, leafsEq_cons] at h
  split at h
  ·rename_i a b ha hb
   obtain ⟨a', b', h1, h2, h3⟩ := leafsEq_append hb
   obtain rfl := Option.some.inj h
   refine ⟨a && a', b', ?_, by simpa using h2, by rw [h3, Bool.and_assoc]⟩
   rw [List.length_cons, List.take_succ_cons, List.take_succ_cons, leafsEq_cons, ha, h1]
  ·cases h
 | k :: ks, ls, [], ys, r, h => by cases ys <;> simp [leafsEq] at h
 | k :: ks, ls, x :: xs, [], r, h => by simp [leafsEq] at h
theorem leafsEq_len : ∀ {ks : List LK} {xs ys : List LV} {r : Bool}, leafsEq ks xs ys = some r → xs.length = ks.length ∧ ys.length = ks.length
 | [], [], [], _, _ => ⟨rfl, rfl⟩
 | k :: ks, x :: xs, y :: ys, r, h => by
  rw [leafsEq_cons] at h
  split at h
  ·rename_i hb; have := leafsEq_len hb; simp [this]
  ·cases h
 | [], _ :: _, _, _, h => by simp [leafsEq] at h
 | [], [], _ :: _, _, h => by simp [leafsEq] at h
 | _ :: _, [], _, _, h => by simp [leafsEq] at h
 | _ :: _, _ :: _, [], _, h => by simp [leafsEq] at h

section
variable {w : World} {M : CM} {β : Bt} {D : Nat → Prop}

theorem isAgg_run {t : TypeId} {d : TypeDesc} (h : P.underlying t = some d) (w : World) : (isAgg t).run P w = .ok (aggD d) w := by
 simp only [isAgg, Sem.run_bind, run_underlying h, Result.andThen_ok]
 cases d <;> rfl

theorem All2.one_left {α : Type _} {β : Type _} {R : α → β → Prop} {x : α} {m : List β} (h : All2 R [x] m) : ∃ y, m = [y] ∧ R x y := by
 cases h with
 | cons h1 h2 => cases h2; exact ⟨_, rfl, h1⟩

theorem part_agg {t : TypeId} {d : TypeDesc} {s : Nat} {cs : Array Value} {off : Nat} (hd : P.underlying t = some d) (ha : aggD d = true) (hs : sizeIs P t s) :
  (part t cs off).run P w = .ok (.agg (cs.extract off (off + s))) w := by
 simp only [part, Sem.run_bind, isAgg_run hd, Result.andThen_ok, ha, if_true, run_sizeOf hs, Sem.run_pure]
theorem part_one {t : TypeId} {d : TypeDesc} {cs : Array Value} {off : Nat} {v : Value} (hd : P.underlying t = some d) (ha : aggD d = false) (hv : cs[off]? = some v) :
  (part t cs off).run P w = .ok v w := by
 simp only [part, Sem.run_bind, isAgg_run hd, Result.andThen_ok, ha, Bool.false_eq_true, if_false, hv, Sem.run_pure]

theorem leafEq_run {d : Nat} {t : TypeId} {k : LK} {x y : LV} {u v : Value} {r : Bool} (hd : (∃ q, P.underlying t = some (.int q) ∧ k = .i) ∨ (P.underlying t = some .bool ∧ k = .b) ∨ (P.underlying t = some .string ∧ k = .s))
  (hr : leafEq k x y = some r) (hx : VL w M β D x u) (hy : VL w M β D y v) : (Op.equalIn (d + 1) t u v).run P w = .ok r w := by
 unfold leafEq at hr
 split at hr
 ·split at hr
  ·rename_i k a k' b hkk
   subst hkk
   obtain rfl := Option.some.inj hr
   rcases hd with ⟨q, hd, _⟩ | ⟨_, h⟩ | ⟨_, h⟩
   ·cases hx with | d hx => cases hy with | d hy => cases hx; cases hy; exact run_equalIn_int w d t _ _ _ _ hd
   ·cases h
   ·cases h
  ·cases hr
 ·obtain rfl := Option.some.inj hr
  rcases hd with ⟨q, _, h⟩ | ⟨hd, _⟩ | ⟨_, h⟩
  ·cases h
  ·cases hx with | d hx => cases hy with | d hy => cases hx; cases hy; exact run_equalIn_bool w d t _ _ hd
  ·cases h
 ·obtain rfl := Option.some.inj hr
  rcases hd with ⟨q, _, h⟩ | ⟨_, h⟩ | ⟨hd, _⟩
  ·cases h
  ·cases h
  ·cases hx with | d hx => cases hy with | d hy => cases hx; cases hy; rw [run_equalIn_string w d t _ _ hd, beq_toListBytes]
 ·cases hr

theorem eq_run : ∀ (n d : Nat) (t : TypeId) (ks : List LK) (xs ys : List LV) (u v : Value) (r : Bool), n ≤ d → eqk P n t = some ks → leafsEq ks xs ys = some r →
  All2 (VL w M β D) xs u.cells.toList → All2 (VL w M β D) ys v.cells.toList →
  (∀ e, P.underlying t = some e → (aggD e = true → (∃ a, u = .agg a) ∧ ∃ a, v = .agg a) ∧ (aggD e = false → u.oneCell' = true ∧ v.oneCell' = true)) →
  (Op.equalIn d t u v).run P w = .ok r w := by
 intro n
 induction n with
 | zero => intro d t ks xs ys u v r _ hk; simp [eqk] at hk
 | succ n ih =>
  intro d t ks xs ys u v r hd hk hr hx hy hag
  obtain ⟨d, rfl⟩ : ∃ d', d = d' + 1 := ⟨d - 1, by omega⟩
  have leaf : ∀ k, ks = [k] → ∀ e, P.underlying t = some e → aggD e = false →
    ((∃ q, P.underlying t = some (.int q) ∧ k = .i) ∨ (P.underlying t = some .bool ∧ k = .b) ∨ (P.underlying t = some .string ∧ k = .s)) → (Op.equalIn (d + 1) t u v).run P w = .ok r w := by
   intro k hks e he hae hcase
   subst hks
   have hl := leafsEq_len hr
   obtain ⟨x, rfl⟩ : ∃ x, xs = [x] := by
    match xs, hl.1 with
    | [x], _ => exact ⟨x, rfl⟩
   obtain ⟨y, rfl⟩ : ∃ y, ys = [y] := by
    match ys, hl.2 with
    | [y], _ => exact ⟨y, rfl⟩
   have h1 := (hag e he).2 hae
   rw [one_cells h1.1] at hx
   rw [one_cells h1.2] at hy
   obtain ⟨_, h2, hx'⟩ := hx.one_left
   obtain ⟨_, h3, hy'⟩ := hy.one_left
   simp at h2 h3
   subst h2 h3
   rw [leafsEq_cons] at hr
   cases hq : leafEq k x y with
   | none => rw [hq] at hr; simp at hr
   | some b =>
    rw [hq] at hr
    simp [leafsEq] at hr
    subst hr
    exact leafEq_run hcase hq hx' hy'
  rw [eqk] at hk
  split at hk
  ·rename_i q he
   exact leaf .i (Option.some.inj hk).symm _ he rfl (.inl ⟨q, he, rfl⟩)
  ·rename_i he
   exact leaf .b (Option.some.inj hk).symm _ he rfl (.inr (.inl ⟨he, rfl⟩))
  ·rename_i he
   exact leaf .s (Option.some.inj hk).symm _ he rfl (.inr (.inr ⟨he, rfl⟩))
  ·rename_i fs he
   split at hk
   ·rename_i hst
    obtain ⟨⟨a, rfl⟩, b, rfl⟩ := (hag _ he).1 rfl
    have hfo : P.fieldsOf t = fs := by simp [Program.fieldsOf, he]
    rw [run_equalIn_struct w d t a b (by rw [hfo]; exact he) hst, hfo]
    have key : ∀ (l : List Field) (off : Nat) (ks : List LK) (r : Bool), eqks P (eqk P n) l off = some ks → leafsEq ks (xs.drop off) (ys.drop off) = some r →
      (Op.eqFields d a b l).run P w = .ok r w := by
     intro l
     induction l with
     | nil =>
      intro off ks r hk hr
      simp [eqks] at hk
      subst hk
      have hl := leafsEq_len hr
      have h1 : xs.drop off = [] := List.eq_nil_of_length_eq_zero (by simpa using hl.1)
      have h2 : ys.drop off = [] := List.eq_nil_of_length_eq_zero (by simpa using hl.2)
      rw [h1, h2] at hr
      simp [leafsEq] at hr
      subst hr
      rfl
     | cons f l ihl =>
      intro off ks r hk hr
      simp only [eqks] at hk
      split at hk
      ·rename_i hnm
       split at hk
       ·rename_i kf hkf
        split at hk
        ·rename_i hsz
         split at hk
         ·rename_i kr hkr
          obtain rfl := Option.some.inj hk
          obtain ⟨r1, r2, h1, h2, rfl⟩ := leafsEq_append hr
          have hlen := leafsEq_len h1
          rw [List.drop_drop] at h2
          rw [List.drop_drop] at h2
          have ih2 := ihl (off + kf.length) kr r2 hkr h2
          have hx1 := (hx.drop off).take kf.length
          have hy1 := (hy.drop off).take kf.length
          have hla := hx1.length
          have hlb := hy1.length
          simp only [Value.cells] at hx1 hy1 hla hlb
          rw [hlen.1] at hla
          rw [hlen.2] at hlb
          simp only [Op.eqFields]
          rw [if_pos hnm.1]
          have hne : eqk P n f.type ≠ none := by rw [hkf]; simp
          obtain ⟨e, hfe⟩ : ∃ e, P.underlying f.type = some e := by
           cases n with
           | zero => simp [eqk] at hkf
           | succ n =>
            cases hu : P.underlying f.type with
            | some e => exact ⟨e, rfl⟩
            | none => rw [eqk, hu] at hkf; simp at hkf
          have hpart : ∀ (c : Array Value) (zs : List LV), All2 (VL w M β D) zs ((c.toList.drop off).take kf.length) → kf.length = ((c.toList.drop off).take kf.length).length →
            ∃ u, (part f.type c f.offset).run P w = .ok u w ∧ u.cells.toList = ((c.toList.drop off).take kf.length) ∧ (aggD e = true → ∃ a, u = .agg a) ∧ (aggD e = false → u.oneCell' = true) := by
           intro c zs hz hzl
           by_cases hae : aggD e = true
           ·refine ⟨_, part_agg hfe hae hsz, ?_, fun _ => ⟨_, rfl⟩, fun h => by rw [h] at hae; cases hae⟩
            simp [Value.cells, hnm.2, List.extract_eq_take_drop]
           ·have hae' : aggD e = false := by simpa using hae
            have hk1 : kf.length = 1 := by
             cases n with
             | zero => simp [eqk] at hkf
             | succ n =>
              rw [eqk, hfe] at hkf
              cases e <;> simp [aggD] at hae' hkf <;> (try (subst hkf; rfl))
            rw [hk1] at hzl hz
            have hlt : off < c.toList.length := by
             have hzl' := hzl
             rw [List.length_take, List.length_drop] at hzl'; omega
            have hg : c[off]? = some c[off] := by simp [Array.getElem?_eq_getElem (by simpa using hlt)]
            have hlist : (c.toList.drop off).take 1 = [c[off]] := by
             rw [List.drop_eq_getElem_cons hlt]; simp
            refine ⟨c[off], part_one hfe hae' (by rw [hnm.2]; exact hg), ?_, (fun h => by rw [h] at hae'; cases hae'), fun _ => ?_⟩
            ·rw [hlist] at hz
             rw [hk1, hlist]
             cases hz with | cons h1 _ => rw [one_cells h1.one]
            ·rw [hlist] at hz
             cases hz with | cons h1 _ => exact h1.one
          obtain ⟨u, hu1, hu2, hu3, hu4⟩ := hpart a _ hx1 hla
          obtain ⟨v, hv1, hv2, hv3, hv4⟩ := hpart b _ hy1 hlb
          have hrun := ih d f.type kf _ _ u v r1 (by omega) hkf h1 (by rw [hu2]; exact hx1) (by rw [hv2]; exact hy1)
           (fun e' he' => by
            obtain rfl : e = e' := Option.some.inj (hfe.symm.trans he')
            exact ⟨fun h => ⟨hu3 h, hv3 h⟩, fun h => ⟨hu4 h, hv4 h⟩⟩)
          simp only [Sem.run_bind, hu1, hv1, Result.andThen_ok, hrun, Sem.run_ite, Sem.run_pure, ih2]
          cases r1 <;> simp
         ·cases hk
        ·cases hk
       ·cases hk
      ·cases hk
    exact key fs.toList 0 ks r hk (by simpa using hr)
   ·cases hk
  ·cases hk
end
end Go.Sy
namespace Go.Sy
variable {P : Program}

/-! operations, one by one -/
section
variable {X : Cx} {β : Bt} {σ : St} {a : Act} {w : World}

theorem cell_of_heap {w w' : World} {p : Addr} (h : w'.heap[p.block]? = w.heap[p.block]?) : w'.cell? p = w.cell? p := by
 unfold World.cell?
 rw [h]

theorem Rel.evo {β' : Bt} {h' : List (Nat × HO)} {w' : World} (R : Rel X β σ a w)
  (e : Evo (Mt β (look σ.h)) (Mt β' (look h')) w w') (b : BEvo β β' (dm (look σ.h)) (dm (look h'))) (bm : ∀ k off, β.m k off → β'.m k off)
  (mk : ∀ k : Nat, β.m k 0 → w.heap[k]? = some (Obj.deferred (some [])) → w'.heap[k]? = some (Obj.deferred (some [])))
  (fr : Fr X.B0 X.w0 w') (own : ∀ n k, look h' n ≠ none → bk β' n k → X.B0 k ∨ X.w0.heap.size ≤ k) (hr : HR β' (look h') w') :
  Rel X β' { σ with h := h' } a w' where
 tn := R.tn
 df := R.df.keep bm fun k hk h _ => mk k hk h
 fr := fr
 own := own
 be := R.be.trans b
 bm := fun k off h => bm k off (R.bm k off h)
 hr := hr
 ev := R.ev.trans e
 sl := fun t v h => ⟨(R.sl t v h).1, VA.evo e b (R.sl t v h).2⟩
 gd := fun t g q x h => ⟨(R.gd t g q x h).1, (R.gd t g q x h).2.imp (fun h => ⟨h.1, VT.evo e b h.2⟩) id⟩

theorem dis_of {β : Bt} {hp : Nat → Option HO} {N : Nat} (m0 : ∀ k off, β.m k off → k < N) (lt : ∀ n k, hp n ≠ none → bk β n k → k < N) (fresh : ∀ n k off, hp n ≠ none → bk β n k → ¬ β.m k off) (inj : ∀ n m k, hp n ≠ none → hp m ≠ none → bk β n k → bk β m k → n = m) {n : Nat} {o : HO} (hn : hp n = some o) (hob : o.isOb = true) :
  ∀ q off, Mt β hp q off → q < N ∧ ∀ off', ¬ β.ym n q off → ¬ β.ym n q off' := by
 intro q off hM
 refine ⟨?_, fun off' h h' => ?_⟩
 ·rcases hM with hM | ⟨n', o', h1, h2⟩
  ·exact m0 q off hM
  ·exact lt n' q (by rw [h1]; simp) (h2.elim (fun h => .inl h.1) fun h => .inr ⟨off, h⟩)
 have hnn : hp n ≠ none := by rw [hn]; simp
 rcases hM with hM | ⟨n', o', h1, h2⟩
 ·exact fresh n q off hnn (.inr ⟨off', h'⟩) hM
 ·have hb : bk β n' q := h2.elim (fun h => .inl h.1) fun h => .inr ⟨off, h⟩
  obtain rfl := inj n n' q hnn (by rw [h1]; simp) (.inr ⟨off', h'⟩) hb
  rw [hn] at h1; injection h1 with h1; subst h1
  rcases h2 with ⟨_, h2⟩ | h2
  ·cases o <;> first | (cases hob; done) | exact h2
  ·exact h h2

theorem HOR.evo {M M' : CM} {w w' : World} {β β' : Bt} {D D' : Nat → Prop} {n : Nat} {o : HO} (h : HOR w M β D n o) (e : Evo M M' w w') (b : BEvo β β' D D') (hb : β' n = β n) (ho : β'.o n = β.o n)
  (hym : β'.ym n = β.ym n) (hyj : β'.yj n = β.yj n) (hk : ∀ k, bk β n k → w'.heap[k]? = w.heap[k]?) (hdis : o.isOb = true → ∀ q off, M' q off → q < w'.heap.size ∧ ∀ off', ¬ β'.ym n q off → ¬ β'.ym n q off') : HOR w' M' β' D' n o := by
 cases o with
 | cells c =>
  obtain ⟨k, arr, t, h0, h1, h2, h3⟩ := h
  exact ⟨k, arr, t, ho.trans h0, hb.trans h1, (hk k (.inl h1)).trans h2, h3.mono fun _ _ _ h => VL.evo e b h⟩
 | gr t sz len =>
  rcases h with ⟨h0, h1, h2⟩ | ⟨k, cap, arr, h0, h1, h2, h3⟩
  ·exact .inl ⟨ho.trans h0, hb.trans h1, h2⟩
  ·exact .inr ⟨k, cap, arr, ho.trans h0, hb.trans h1, (hk k (.inl h1)).trans h2, h3⟩
 | mp κ ν l =>
  obtain ⟨k, es, clock, h0, h1, h2, h3⟩ := h
  exact ⟨k, es, clock, ho.trans h0, hb.trans h1, (hk k (.inl h1)).trans h2, h3.mono fun _ _ _ h => ⟨h.1.evo e, h.2.evo e⟩⟩
 | fm l =>
  obtain ⟨k, es, clock, h0, h1, h2, h3⟩ := h
  exact ⟨k, es, clock, ho.trans h0, hb.trans h1, (hk k (.inl h1)).trans h2, h3.mono fun _ _ _ h => ⟨h.1.evo e, VT.evo e b h.2⟩⟩
 | dead n => obtain ⟨u, hu, hm⟩ := h; exact ⟨u, ho.trans hu, hm⟩
 | vh τ t l =>
  obtain ⟨k, cap, arr, h0, h1, h2, h3, h4, h5, h6, h7, h8⟩ := h
  exact ⟨k, cap, arr, ho.trans h0, hb.trans h1, (hk k (.inl h1)).trans h2, h3, h4, h5, fun i j u hi hj hne hu => (h6 i j u hi hj hne hu).evo e, h7, fun u hu => (h8 u hu).evo e b⟩
 | it q p =>
  obtain ⟨k, h0, h1, h2⟩ := h
  exact ⟨k, ho.trans h0, hb.trans h1, (hk k (.inl h1)).trans h2⟩
 | vec τ t l =>
  rcases h with ⟨h0, h1, h2⟩ | ⟨k, cap, arr, h0, h1, h2, h3, h4, h5, h6⟩
  ·exact .inl ⟨ho.trans h0, hb.trans h1, h2⟩
  ·exact .inr ⟨k, cap, arr, ho.trans h0, hb.trans h1, (hk k (.inl h1)).trans h2, h3, h4, h5, fun i j u hi hj hu => (h6 i j u hi hj hu).evo e⟩
 | frz τ t l =>
  rcases h with ⟨h0, h1, h2⟩ | ⟨k, cap, arr, h0, h1, h2, h3, h4, h5, h6⟩
  ·exact .inl ⟨ho.trans h0, hb.trans h1, h2⟩
  ·exact .inr ⟨k, cap, arr, ho.trans h0, hb.trans h1, (hk k (.inl h1)).trans h2, h3, h4, h5, fun i j u hi hj hu => (h6 i j u hi hj hu).evo e⟩
 | ob sg hist go =>
  obtain ⟨h0, k, h1, h2, h3⟩ := h
  refine ⟨ho.trans h0, k, hb.trans h1, by rw [b.pr, hyj]; exact h2, ?_⟩
  rw [hym] at hdis ⊢
  rw [hyj]
  refine h2.stay hist _ _ _ w w' h3 ⟨e.size, fun p hp hn => ?_, fun k hk' hn => ?_, e.sys⟩ (fun q off hq => ?_) (fun q off off' hq => (hdis rfl q off hq.1).2 off' hq.2)
  ·by_cases hY : β.ym n p.block p.off
   ·exact cell_of_heap (hk _ (.inr ⟨_, hY⟩))
   ·exact e.cell p hp fun hM => hn ⟨hM, hY⟩
  ·by_cases hY : ∃ off, β.ym n k off
   ·exact hk k (.inr hY)
   ·exact e.blk k hk' fun off hM => hn off ⟨hM, fun h => hY ⟨off, h⟩⟩
  ·by_cases hlt : q < w.heap.size
   ·refine .inl ⟨?_, hq.2⟩
    by_cases hM : M q off
    ·exact hM
    ·exact absurd hq.1 (e.mt q off hlt hM)
   ·exact .inr ⟨Nat.le_of_not_lt hlt, (hdis rfl q off hq.1).1⟩

theorem HR.only {β : Bt} {hp : Nat → Option HO} {w : World} (H : HR β hp w) {n k off : Nat} {o : HO} (hn : hp n = some o) (hob : o.isOb = false) (hk : β n = some k) (hM : Mt β hp k off) : o.mut off := by
 rcases hM with hM | ⟨m, om, h1, h2⟩
 ·exact absurd hM (H.fresh n k off (by rw [hn]; simp) (.inl hk))
 ·obtain rfl := H.inj n m k (by rw [hn]; simp) (by rw [h1]; simp) (.inl hk) (h2.elim (fun h => .inl h.1) fun h => .inr ⟨off, h⟩)
  rw [hn] at h1; injection h1 with h1; subst h1
  rcases h2 with ⟨_, h2⟩ | h2
  ·exact h2
  ·exact absurd h2 (H.ye n o hn hob k off)

theorem mut_ex {o : HO} (h : o.isOb = false) : ∃ off, o.mut off := by
 cases o with
 | cells => exact ⟨0, trivial⟩
 | gr e sz len => exact ⟨len * sz, Nat.le_refl _⟩
 | mp => exact ⟨0, trivial⟩
 | fm => exact ⟨0, trivial⟩
 | vh => exact ⟨0, trivial⟩
 | it => exact ⟨0, trivial⟩
 | dead n => exact ⟨n, Nat.le_refl _⟩
 | vec => exact ⟨0, trivial⟩
 | frz τ _ l => exact ⟨l.length * τ.size, Nat.le_refl _⟩
 | ob => cases h

theorem Rel.set (R : Rel X β σ a w) (n : Nat) (o : HO) (hob0 : ∀ o0, look σ.h n = some o0 → o0.isOb = false) (kb : Option Nat) (ov : Option Value) {w' : World}
  (hos : w'.os = w.os) (htape : w'.tape = w.tape) (hout : w'.output = w.output) (hsize : w.heap.size ≤ w'.heap.size)
  (hother : ∀ k, k < w.heap.size → (∀ o0, look σ.h n = some o0 → β n ≠ some k) → w'.heap[k]? = w.heap[k]?)
  (hcell : ∀ o0 (p : Addr), look σ.h n = some o0 → β n = some p.block → ¬ o0.mut p.off → w'.cell? p = w.cell? p)
  (hkb : ∀ k, kb = some k → k < w'.heap.size ∧ ((∃ o0, look σ.h n = some o0 ∧ β n = some k ∧ ∀ off, o.mut off → o0.mut off) ∨ w.heap.size ≤ k))
  (hbe : ∀ o0, look σ.h n = some o0 → (β.o n = none → ov = none ∧ kb = β n) ∧ ∀ u, β.o n = some u → ∃ u', ov = some u' ∧ (u' = u ∨ hlen u < hlen u'))
  (hHOR : ∀ β' : Bt, β' n = kb → β'.o n = ov → Evo (Mt β (look σ.h)) (Mt β' (look ((n, o) :: σ.h))) w w' → BEvo β β' (dm (look σ.h)) (dm (look ((n, o) :: σ.h))) →
   HOR w' (Mt β' (look ((n, o) :: σ.h))) β' (dm (look ((n, o) :: σ.h))) n o) :
  ∃ β' : Bt, Rel X β' { σ with h := (n, o) :: σ.h } a w' ∧ β' n = kb ∧ β'.o n = ov ∧ Evo (Mt β (look σ.h)) (Mt β' (look ((n, o) :: σ.h))) w w' ∧ BEvo β β' (dm (look σ.h)) (dm (look ((n, o) :: σ.h))) := by
 let β' : Bt := ⟨fun m => if m = n then kb else β m, fun m => if m = n then ov else β.o m, β.m, fun m => if m = n then fun _ _ => False else β.ym m, β.yj, β.pr⟩
 have hβn : β' n = kb := by simp [β']
 have hon : β'.o n = ov := by simp [β']
 have hyn : ∀ k off, ¬ β'.ym n k off := by simp [β']
 have hβ : ∀ m, m ≠ n → β' m = β m := fun m hm => by simp [β', hm]
 have hoo : ∀ m, m ≠ n → β'.o m = β.o m := fun m hm => by simp [β', hm]
 have hyy : ∀ m, m ≠ n → β'.ym m = β.ym m := fun m hm => by simp [β', hm]
 have hbkn : ∀ k, bk β' n k → kb = some k := fun k h => h.elim (fun h => hβn.symm.trans h) fun ⟨off, h⟩ => absurd h (hyn k off)
 have hbk : ∀ m k, m ≠ n → bk β' m k → bk β m k := fun m k hm h => by unfold bk at h ⊢; rw [hβ m hm, hyy m hm] at h; exact h
 have hl : ∀ m, m ≠ n → look ((n, o) :: σ.h) m = look σ.h m := fun m hm => by rw [look_cons, if_neg (Ne.symm hm)]
 have hln : look ((n, o) :: σ.h) n = some o := by rw [look_cons, if_pos rfl]
 have hbe' : BEvo β β' (dm (look σ.h)) (dm (look ((n, o) :: σ.h))) := by
  refine ⟨fun m hm => ?_, fun m hm h0 => ?_, fun m u hm hu => ?_, rfl⟩
  ·by_cases h : m = n
   ·subst h; unfold dm; rw [hln]; simp
   ·unfold dm at hm ⊢; rw [hl m h]; exact hm
  ·by_cases h : m = n
   ·subst h
    cases ho : look σ.h m with
    | none => exact absurd ho hm
    | some o0 => rw [hβn, hon]; exact ⟨((hbe o0 ho).1 h0).1, ((hbe o0 ho).1 h0).2, rfl⟩
   ·exact ⟨(hoo m h).trans h0, hβ m h, rfl⟩
  ·by_cases h : m = n
   ·subst h
    cases ho : look σ.h m with
    | none => exact absurd ho hm
    | some o0 => rw [hon]; exact (hbe o0 ho).2 u hu
   ·exact ⟨u, (hoo m h).trans hu, .inl rfl⟩
 have hcase : ∀ m k, look ((n, o) :: σ.h) m ≠ none → bk β' m k → (m = n ∧ kb = some k) ∨ (m ≠ n ∧ look σ.h m ≠ none ∧ bk β m k ∧ k < w.heap.size) := by
  intro m k hm hk
  by_cases h : m = n
  ·subst h; exact .inl ⟨rfl, hbkn k hk⟩
  ·rw [hl m h] at hm
   have hk := hbk m k h hk
   exact .inr ⟨h, hm, hk, R.hr.lt m k hm hk⟩
 have hmo : ∀ k off, (∃ o0, look σ.h n = some o0 ∧ β n = some k ∧ o0.mut off) → Mt β (look σ.h) k off := fun k off ⟨o0, h1, h2, h3⟩ => .inr ⟨n, o0, h1, .inl ⟨h2, h3⟩⟩
 have hev : Evo (Mt β (look σ.h)) (Mt β' (look ((n, o) :: σ.h))) w w' := by
  refine ⟨hsize, fun p hp hm => ?_, fun k off hk hm hm' => hm ?_, fun k hk hm => ?_, hos, htape, hout⟩
  ·cases ho : look σ.h n with
   | none => exact cell_of_heap (hother _ hp fun o0 h => by rw [ho] at h; cases h)
   | some o0 =>
    by_cases hb : β n = some p.block
    ·exact hcell o0 p ho hb fun hmut => hm (hmo _ _ ⟨o0, ho, hb, hmut⟩)
    ·exact cell_of_heap (hother _ hp fun _ _ => hb)
  ·rcases hm' with h | ⟨m, om, h1, h2⟩
   ·exact .inl h
   ·by_cases h : m = n
    ·subst h
     rw [hln] at h1; injection h1 with h1; subst h1
     rcases h2 with ⟨h2, h3⟩ | h2
     ·rcases (hkb k (hβn.symm.trans h2)).2 with ⟨o0, g1, g2, g3⟩ | g
      ·exact hmo _ _ ⟨o0, g1, g2, g3 off h3⟩
      ·omega
     ·exact absurd h2 (hyn k off)
    ·rw [hl m h] at h1
     rw [hβ m h, hyy m h] at h2
     exact .inr ⟨m, om, h1, h2⟩
  ·refine hother k hk fun o0 h0 hb => ?_
   obtain ⟨off, hoff⟩ := mut_ex (hob0 o0 h0)
   exact hm off (hmo _ _ ⟨o0, h0, hb, hoff⟩)
 have hfresh : ∀ m k off, look ((n, o) :: σ.h) m ≠ none → bk β' m k → ¬ β'.m k off := fun m k off hm hk hM => by
  rcases hcase m k hm hk with ⟨rfl, h⟩ | ⟨_, h1, h2, _⟩
  ·rcases (hkb k h).2 with ⟨o0, g1, g2, _⟩ | g
   ·exact R.hr.fresh m k off (by rw [g1]; simp) (.inl g2) hM
   ·have := R.hr.m0 k off hM; omega
  ·exact R.hr.fresh m k off h1 h2 hM
 have hinj : ∀ m q k, look ((n, o) :: σ.h) m ≠ none → look ((n, o) :: σ.h) q ≠ none → bk β' m k → bk β' q k → m = q := fun m q k hm hq h1 h2 => by
  rcases hcase m k hm h1 with ⟨rfl, g⟩ | ⟨g0, g1, g2, g3⟩ <;> rcases hcase q k hq h2 with ⟨rfl, h⟩ | ⟨h0, p1, p2, p3⟩
  ·rfl
  ·rcases (hkb k g).2 with ⟨o0, q1, q2, _⟩ | q
   ·exact R.hr.inj m q k (by rw [q1]; simp) p1 (.inl q2) p2
   ·omega
  ·rcases (hkb k h).2 with ⟨o0, q1, q2, _⟩ | q'
   ·exact R.hr.inj m q k g1 (by rw [q1]; simp) g2 (.inl q2)
   ·omega
  ·exact R.hr.inj m q k g1 p1 g2 p2
 have hm0 : ∀ k off, β'.m k off → k < w'.heap.size := fun k off h => Nat.lt_of_lt_of_le (R.hr.m0 k off h) hsize
 have hlt' : ∀ m k, look ((n, o) :: σ.h) m ≠ none → bk β' m k → k < w'.heap.size := fun m k hm hk => by
  rcases hcase m k hm hk with ⟨_, h⟩ | ⟨_, _, _, h⟩
  ·exact (hkb k h).1
  ·omega
 refine ⟨β', R.evo hev hbe' (fun _ _ h => h) (fun k hm hk => ?_) ?_ ?_ ?_, hβn, hon, hev, hbe'⟩
 ·have hlt : k < w.heap.size := (Array.getElem?_eq_some_iff.1 hk).1
  rw [hother k hlt fun o0 h0 hb => R.hr.fresh n k 0 (by rw [h0]; simp) (.inl hb) hm]
  exact hk
 ·refine ⟨hos.trans R.fr.os, htape.trans R.fr.tape, hout.trans R.fr.output, Nat.le_trans R.fr.size hsize, fun k hk hB => ?_⟩
  have hlt : k < w.heap.size := Nat.lt_of_lt_of_le hk R.fr.size
  rw [hother k hlt fun o0 h0 hb => ?_, R.fr.block k hk hB]
  rcases R.own n k (by rw [h0]; simp) (.inl hb) with h | h
  ·exact hB h
  ·omega
 ·intro m k hm hk
  rcases hcase m k hm hk with ⟨rfl, h⟩ | ⟨_, h1, h2, _⟩
  ·rcases (hkb k h).2 with ⟨o0, g1, g2, _⟩ | g
   ·exact R.own m k (by rw [g1]; simp) (.inl g2)
   ·exact .inr (Nat.le_trans R.fr.size g)
  ·exact R.own m k h1 h2
 ·refine ⟨hm0, hlt', hfresh, hinj, fun m om hm ho => ?_, fun m om hm => ?_, R.hr.gl.evo hev⟩
  ·by_cases h : m = n
   ·subst h; exact hyn
   ·rw [hl m h] at hm
    rw [hyy m h]
    exact R.hr.ye m om hm ho
  ·by_cases h : m = n
   ·subst h
    rw [hln] at hm; injection hm with hm; subst hm
    exact hHOR β' hβn hon hev hbe'
   ·have hm' := hm
    rw [hl m h] at hm
    refine (R.hr.blk m om hm).evo hev hbe' (hβ m h) (hoo m h) (hyy m h) rfl (fun k hk => ?_) (fun hob' => dis_of hm0 hlt' hfresh hinj hm' hob')
    have hlt := R.hr.lt m k (by rw [hm]; simp) hk
    exact hother k hlt fun o0 h0 hb => h (R.hr.inj m n k (by rw [hm]; simp) (by rw [h0]; simp) hk (.inl hb))

theorem Rel.alloc (R : Rel X β σ a w) {d : Nat} (hd : look σ.h d = none) {b : List LV} {arr : Array Value} (e : TypeId)
  (hb : All2 (VL w (Mt β (look σ.h)) β (dm (look σ.h))) b arr.toList) :
  ∃ β' : Bt, Rel X β' { σ with h := (d, .cells b) :: σ.h } a (w.alloc (.cells arr e (0, 0))) ∧ β' d = some w.heap.size ∧ β'.o d = none := by
 have hno : ∀ o0, look σ.h d = some o0 → False := fun o0 h => by rw [hd] at h; cases h
 obtain ⟨β', h1, h2, h3, _⟩ := R.set d (.cells b) (fun o0 h => (hno o0 h).elim) (some w.heap.size) none (w' := w.alloc (.cells arr e (0, 0))) rfl rfl rfl (by simp)
  (fun k hk _ => heap_alloc_old w _ k hk) (fun o0 _ h => (hno o0 h).elim) (fun k hk => by injection hk with hk; subst hk; exact ⟨by simp, .inr (Nat.le_refl _)⟩)
  (fun o0 h => (hno o0 h).elim) (fun β' g1 g2 hev hbe => ⟨w.heap.size, arr, e, g2, g1, heap_alloc_new w _, hb.mono fun _ _ _ h => VL.evo hev hbe h⟩)
 exact ⟨β', h1, h2, h3⟩

theorem run_storeCells : ∀ (vs : List Value) (w : World) (k off i : Nat) (arr : Array Value) (e : TypeId), w.heap[k]? = some (.cells arr e (0, 0)) → off + i + vs.length ≤ arr.size → (∀ v ∈ vs, v.oneCell' = true) →
  ∃ w', (storeCells ⟨k, off, none⟩ vs i).run P w = .ok () w' ∧ w'.heap[k]? = some (.cells (arr.toList.take (off + i) ++ (vs ++ arr.toList.drop (off + i + vs.length))).toArray e (0, 0)) ∧
   w'.heap.size = w.heap.size ∧ (∀ j, j ≠ k → w'.heap[j]? = w.heap[j]?) ∧ w'.os = w.os ∧ w'.tape = w.tape ∧ w'.output = w.output
 | [], w, k, off, i, arr, e, hk, _, _ => ⟨w, by simp [storeCells], by simpa using hk, rfl, fun _ _ => rfl, rfl, rfl, rfl⟩
 | v :: vs, w, k, off, i, arr, e, hk, hlen, hone => by
  simp only [List.length_cons] at hlen
  have hadd : (⟨k, off, none⟩ : Addr).add i = ⟨k, off + i, none⟩ := Addr.add_lit k off i
  have hc : w.cell? ⟨k, off + i, none⟩ = some arr[off + i] := by
   simp only [World.cell?, hk]
   simp
  have hf : w.frozen? ⟨k, off + i, none⟩ = false := by simp [World.frozen?, hk]
  have hstep : (store ((⟨k, off, none⟩ : Addr).add i) v).run P w = .ok () (w.setCell ⟨k, off + i, none⟩ v) := by
   rw [run_store P w _ v _ (hone v (by simp)), hadd, hc]
   simp [hf]
  have hk' : (w.setCell ⟨k, off + i, none⟩ v).heap[k]? = some (.cells (arr.setIfInBounds (off + i) v) e (0, 0)) := by
   simp [World.setCell, Array.getElem?_modify, hk]
  obtain ⟨w', h1, h2, h3, h4, h5, h6, h7⟩ := run_storeCells vs (w.setCell ⟨k, off + i, none⟩ v) k off (i + 1) _ e hk' (by simp; omega) (fun v hv => hone v (by simp [hv]))
  refine ⟨w', ?_, ?_, by rw [h3]; simp, fun j hj => ?_, h5, h6, h7⟩
  ·simp only [storeCells, Sem.run_bind, hstep, Result.andThen_ok, h1]
  ·rw [h2]
   congr 2
   apply congrArg List.toArray
   have hset : (arr.setIfInBounds (off + i) v).toList = arr.toList.set (off + i) v := by simp
   rw [hset]
   have e1 : off + (i + 1) = (off + i) + 1 := by omega
   have e2 : off + (i + 1) + vs.length = off + i + (vs.length + 1) := by omega
   rw [List.length_cons, e2]
   have hlt : off + i < arr.toList.length := by simp; omega
   have t1 : (arr.toList.set (off + i) v).take (off + (i + 1)) = arr.toList.take (off + i) ++ [v] := by
    rw [e1, List.take_succ_eq_append_getElem (by simp; omega)]
    rw [List.take_set_of_le (Nat.le_refl _)]
    simp
   have t2 : (arr.toList.set (off + i) v).drop (off + i + (vs.length + 1)) = arr.toList.drop (off + i + (vs.length + 1)) := by
    rw [List.drop_set, if_pos (by omega)]
   rw [t1, t2]
   simp
  ·rw [h4 j hj]
   simp only [World.setCell, Array.getElem?_modify]
   rw [if_neg (fun h => hj h.symm)]

theorem Rel.write (R : Rel X β σ a w) {n k : Nat} {b b' : List LV} {arr' : Array Value} {e : TypeId} {w' : World} (hn : look σ.h n = some (.cells b)) (hk : β n = some k)
  (h2 : w'.heap[k]? = some (.cells arr' e (0, 0))) (h3 : w'.heap.size = w.heap.size) (h4 : ∀ j, j ≠ k → w'.heap[j]? = w.heap[j]?) (h5 : w'.os = w.os) (h6 : w'.tape = w.tape) (h7 : w'.output = w.output)
  (hb : All2 (VL w (Mt β (look σ.h)) β (dm (look σ.h))) b' arr'.toList) :
  ∃ β' : Bt, Rel X β' { σ with h := (n, .cells b') :: σ.h } a w' := by
 have hno : β.o n = none := by obtain ⟨_, _, _, h0, _⟩ := R.hr.blk n _ hn; exact h0
 have hlt := R.hr.lt n k (by rw [hn]; simp) (.inl hk)
 obtain ⟨β', g, _⟩ := R.set n (.cells b') (fun o0 h => by rw [hn] at h; injection h with h; subst h; rfl) (some k) none (w' := w') h5 h6 h7 (by omega) (fun j _ hj => h4 j fun e => hj _ hn (by rw [e]; exact hk))
  (fun o0 p h _ hm => by rw [hn] at h; injection h with h; subst h; exact absurd trivial hm) (fun j hj => by injection hj with hj; subst hj; exact ⟨by omega, .inl ⟨_, hn, hk, fun _ _ => trivial⟩⟩)
  (fun o0 h => ⟨fun _ => ⟨rfl, hk.symm⟩, fun u hu => by rw [hno] at hu; cases hu⟩)
  (fun β' g1 g2 hev hbe => ⟨k, arr', e, g2, g1, h2, hb.mono fun _ _ _ h => VL.evo hev hbe h⟩)
 exact ⟨β', g⟩
end

theorem Evo.of_fr {B : Nat → Prop} {M : CM} {w w' : World} (h : Fr B w w') (hB : ∀ k off, B k → M k off) : Evo M M w w' :=
 ⟨h.size, fun _ hp hm => cell_of_heap (h.block _ hp fun hb => hm (hB _ _ hb)), fun _ _ _ h => h, fun _ hk hm => h.block _ hk fun hb => hm 0 (hB _ _ hb), h.os, h.tape, h.output⟩

theorem HR.fr {β : Bt} {hp : Nat → Option HO} {w w' : World} (H : HR β hp w) (h0 : Fr (fun _ => False) w w') : HR β hp w' :=
 have h := h0
 ⟨fun k off hm => Nat.lt_of_lt_of_le (H.m0 k off hm) h.size, fun m k hn hk => Nat.lt_of_lt_of_le (H.lt m k hn hk) h.size, H.fresh, H.inj, H.ye, fun m o hm =>
  (H.blk m o hm).evo (Evo.of_fr h (fun _ _ hb => hb.elim)) BEvo.refl rfl rfl rfl rfl (fun k hk => h.block k (H.lt m k (by rw [hm]; simp) hk) (fun h => h)) fun hob => dis_of (fun k off h => Nat.lt_of_lt_of_le (H.m0 k off h) h0.size) (fun n k hn hk => Nat.lt_of_lt_of_le (H.lt n k hn hk) h0.size) H.fresh H.inj hm hob, H.gl.evo (Evo.of_fr h fun _ _ hb => hb.elim)⟩

theorem Rel.grew {X : Cx} {β : Bt} {σ : St} {a : Act} {w w' : World} (R : Rel X β σ a w) (h : Fr (fun _ => False) w w') : Rel X β σ a w' ∧ Evo (Mt β (look σ.h)) (Mt β (look σ.h)) w w' := by
 have e : Evo (Mt β (look σ.h)) (Mt β (look σ.h)) w w' := Evo.of_fr h fun _ _ hb => hb.elim
 refine ⟨R.evo e BEvo.refl (fun _ _ h => h) (fun k _ hk => ?_) (R.fr.trans h fun k hk hB => ⟨hB, fun h => h⟩) (fun n k hn hk => R.own n k hn hk) (R.hr.fr h), e⟩
 rw [h.block k (Array.getElem?_eq_some_iff.1 hk).1 fun h => h]; exact hk
end Go.Sy
namespace Go.Sy
variable {P : Program} {L : Nat → Option Lay}

section
variable {X : Cx} {β : Bt} {σ : St} {a : Act} {w : World} {G : List (Nat × Bool)}

def OpGood (P : Program) (X : Cx) (σ : St) (a : Act) (w : World) (o : Oper) (r : Res) : Prop :=
 ∃ nx w' β' v, (execOp a.eval o).run P w = .ok nx w' ∧ (nx = .value v ∨ (nx = .skip ∧ v = undef)) ∧ Rel X β' { σ with h := upds r.h σ.h } a w' ∧
  VA w' (Mt β' (look (upds r.h σ.h))) β' (dm (look (upds r.h σ.h))) r.v v ∧ ∀ p ∈ r.f, p

theorem OpGood.pure {o : Oper} {r : Res} (R : Rel X β σ a w) {v : Value} (h : (execOp a.eval o).run P w = .ok (.value v) w) (hh : r.h = [])
  (hv : VA w (Mt β (look σ.h)) β (dm (look σ.h)) r.v v) (hf : ∀ p ∈ r.f, p) : OpGood P X σ a w o r := by
 refine ⟨.value v, w, β, v, h, .inl rfl, ?_, ?_, hf⟩
 ·rw [hh]; exact R
 ·rw [hh]; exact hv

theorem VT.lit {M : CM} {D : Nat → Prop} {v : Value} (h : v.oneCell' = true) : VT w M β D (.one (.d (.lit v))) v := VL.d (.lit h)
theorem VT.int {M : CM} {D : Nat → Prop} {v : Value} {k : IntKind} {n : Int} (h : VT w M β D (.one (.d (.lit (.int k n)))) v) : v = .int k n := by
 cases h with | d h => cases h; rfl
theorem VT.bool {M : CM} {D : Nat → Prop} {v : Value} {b : Bool} (h : VT w M β D (.one (.d (.lit (.bool b)))) v) : v = .bool b := by
 cases h with | d h => cases h; rfl

theorem Rel.nilOwn (R : Rel X β σ a w) {n : Nat} (hn : look σ.h n = none) (e sz : Nat) :
  ∃ β' : Bt, Rel X β' { σ with h := (n, .gr e sz 0) :: σ.h } a w ∧ ∀ τ : Ty, VL w (Mt β' (look ((n, HO.gr e sz 0) :: σ.h))) β' (dm (look ((n, HO.gr e sz 0) :: σ.h))) (.own n (.sl τ [])) (.slice none 0 0) := by
 have hno : ∀ o0, look σ.h n = some o0 → False := fun o0 h => by rw [hn] at h; cases h
 obtain ⟨β', h1, h2, h3, h4, h5⟩ := R.set n (.gr e sz 0) (fun o0 h => (hno o0 h).elim) none (some (.slice none 0 0)) (w' := w) rfl rfl rfl (Nat.le_refl _) (fun _ _ _ => rfl) (fun o0 _ h => (hno o0 h).elim) (fun k hk => by cases hk)
  (fun o0 h => (hno o0 h).elim) (fun β' g1 g2 hev hbe => .inl ⟨g2, g1, rfl⟩)
 exact ⟨β', h1, fun τ => .own .nil ⟨by simp [dm, look_cons], _, h3, Nat.le_refl _, fun _ => rfl⟩⟩

theorem good_move (R : Rel X β σ a w) (hG : GOk a G) {o : Oper} {x : Operand} (ho : o.op = .move x ∨ o.op = .assign x) {v : AV} (h : opd G σ x = some v) : OpGood P X σ a w o { v := v } := by
 refine OpGood.pure R (v := a.eval x) ?_ rfl (opd_sound R hG h) (by simp)
 rcases ho with ho | ho <;> simp [execOp, ho]

theorem rmFree_spec {dst : Option Tmp} {n : Nat} (h : rmFree σ dst = some n) : look σ.h n = none ∧ ∃ d, dst = some d ∧ n = rm d := by
 unfold rmFree at h
 split at h
 ·rename_i d
  split at h
  ·rename_i hn
   obtain rfl := Option.some.inj h
   exact ⟨hn, d, rfl, rfl⟩
  ·cases h
 ·cases h

theorem good_nil (R : Rel X β σ a w) {o : Oper} {x : Operand} (ho : o.op = .move x ∨ o.op = .assign x) {r : Res} (h : aNil L σ o.type x o.dst = some r) : OpGood P X σ a w o r := by
 unfold aNil at h
 split at h
 ·have hrun : (execOp a.eval o).run P w = .ok (.value (.slice none 0 0)) w := by rcases ho with ho | ho <;> simp [execOp, ho, Act.eval]
  split at h
  ·rename_i y hy
   split at h
   ·rename_i τ e b hety
    split at h
    ·rename_i n hn
     obtain rfl := Option.some.inj h
     obtain ⟨β', R', hv⟩ := R.nilOwn (rmFree_spec hn).1 e τ.size
     exact ⟨.value (.slice none 0 0), w, β', _, hrun, .inl rfl, R', hv τ, by simp⟩
    ·obtain rfl := Option.some.inj h
     exact OpGood.pure R hrun rfl (VL.d .nil) (by simp)
   ·cases h
  ·cases h
 ·cases h

theorem boolOf_pick {x y z : Bool} {a b : Operand} (h1 : ∀ u, a = .const (.bool u) → u = y) (h2 : ∀ u, b = .const (.bool u) → u = z) :
  pickB a b x y z = if x then y else z := by
 unfold pickB
 split
 ·have := h1 true rfl; subst this; cases x <;> simp
 ·have := h2 false rfl; subst this; cases x <;> simp
 ·cases x <;> simp

theorem opT_const_bool {u y : Bool} (h : opT G σ (.const (.bool u)) = some (.one (.d (.lit (.bool y))))) : u = y := by
 simpa [opT, opd, constV] using h

theorem good_pick (R : Rel X β σ a w) (hG : GOk a G) {o : Oper} {tc : Tmp} {p q : Operand} (ho : o.op = .pick (.tmp tc) p q) {r : Res} (h : aPick G σ tc p q = some r) : OpGood P X σ a w o r := by
 unfold aPick at h
 split at h
 ·rename_i x hx
  split at h
  ·rename_i y z hy hz
   obtain rfl := Option.some.inj h
   have hxv := VT.bool (opT_sound R hG hx)
   have hxv' : a.tmps.getD tc undef = .bool x := hxv
   have hval : (if x then a.eval p else a.eval q) = .bool (if x then y else z) := by
    cases x with
    | true =>
     have hG' : GOk a ((tc, true) :: G) := fun t b hh => by
      simp only [has, Bool.or_eq_true, Bool.and_eq_true, beq_iff_eq] at hh
      rcases hh with ⟨rfl, rfl⟩ | hh
      ·exact hxv'
      ·exact hG t b hh
     simpa using VT.bool (opT_sound R hG' hy)
    | false =>
     have hG' : GOk a ((tc, false) :: G) := fun t b hh => by
      simp only [has, Bool.or_eq_true, Bool.and_eq_true, beq_iff_eq] at hh
      rcases hh with ⟨rfl, rfl⟩ | hh
      ·exact hxv'
      ·exact hG t b hh
     simpa using VT.bool (opT_sound R hG' hz)
   refine OpGood.pure R (v := .bool (if x then y else z)) ?_ rfl ?_ (by simp)
   ·simp only [execOp, ho, Sem.run_bind, asBool, hxv, Sem.run_pure, Result.andThen_ok]
    rw [hval]
   ·have e := boolOf_pick (x := x) (y := y) (z := z) (a := p) (b := q) (fun u hu => by subst hu; exact opT_const_bool hy) (fun u hu => by subst hu; exact opT_const_bool hz)
    show VT w _ β _ (.one (lb _)) _
    rw [e]
    exact VT.lit rfl
  ·cases h
 ·cases h

theorem good_alloc (hL : LOk P L) (R : Rel X β σ a w) {o : Oper} {t : TypeId} (ho : o.op = .alloc t) {r : Res} (h : aAlloc L σ t o.dst = some r) : OpGood P X σ a w o r := by
 unfold aAlloc at h
 split at h
 ·rename_i y d hy hd
  split at h
  ·rename_i hn
   split at h
   ·rename_i τ e b n hety hrm
    obtain rfl := Option.some.inj h
    obtain ⟨hrm, d', hd', rfl⟩ := rmFree_spec hrm
    injection hd' with hd'; subst hd'
    obtain ⟨_, _, hz, _⟩ := (hL t y hy).ety τ e b hety
    obtain ⟨β1, R1, hv⟩ := R.nilOwn hrm e τ.size
    have hn1 : look ({ σ with h := (rm d, HO.gr e τ.size 0) :: σ.h } : St).h d = none := by
     show look ((rm d, HO.gr e τ.size 0) :: σ.h) d = none
     rw [look_cons, if_neg (by unfold rm; omega)]
     exact hn
    obtain ⟨β2, R2, h1, h2⟩ := R1.alloc hn1 (b := [.own (rm d) (.sl τ [])]) (arr := #[.slice none 0 0]) t (.cons (hv τ) .nil)
    refine ⟨.value (.pointer (some ⟨w.heap.size, 0, none⟩)), _, β2, _, ?_, .inl rfl, R2, ?_, by simp⟩
    ·simp [execOp, ho, Instr.alloc, hz, newVar, newRow, Value.cells]
    ·exact VL.ptr ⟨w.heap.size, by simp [dm, upds, look_cons], h2, h1, rfl⟩
   ·obtain rfl := Option.some.inj h
    obtain ⟨z, hz, _, hzz⟩ := (hL t y hy).zero
    have hb : All2 (VL w (Mt β (look σ.h)) β (dm (look σ.h))) (wrapD y.zero) z.cells.toList := by
     have := hzz w (Mt β (look σ.h))
     clear hz hzz hy
     generalize z.cells.toList = zs at this
     generalize y.zero = ys at this
     induction this with
     | nil => exact .nil
     | cons h1 _ ih => exact .cons (.d h1) ih
    obtain ⟨β', R', hβ, ho'⟩ := R.alloc hn t hb
    refine ⟨.value (.pointer (some ⟨w.heap.size, 0, none⟩)), _, β', _, ?_, .inl rfl, R', ?_, by simp⟩
    ·simp [execOp, ho, Instr.alloc, hz, newVar, newRow]
    ·exact VL.ptr ⟨w.heap.size, by simp [dm, upds, look_cons], ho', hβ, rfl⟩
  ·cases h
 ·cases h

theorem good_box (R : Rel X β σ a w) (hG : GOk a G) {o : Oper} {t : TypeId} {x : Operand} (ho : o.op = .box t x) {r : Res} (h : aBox G σ x o.dst = some r) : OpGood P X σ a w o r := by
 unfold aBox at h
 split at h
 ·rename_i v d hv hd
  split at h
  ·rename_i hn
   obtain rfl := Option.some.inj h
   obtain ⟨β', R', hβ, ho'⟩ := R.alloc hn t (VT.cells (opT_sound R hG hv))
   refine ⟨.value (.pointer (some ⟨w.heap.size, 0, none⟩)), _, β', _, ?_, .inl rfl, R', ?_, by simp⟩
   ·simp [execOp, ho, Instr.box, newVar, newRow]
   ·exact VL.ptr ⟨w.heap.size, by simp [dm, upds, look_cons], ho', hβ, rfl⟩
  ·cases h
 ·cases h

theorem All2.ones {M : CM} {D : Nat → Prop} {xs : List LV} {vs : List Value} (h : All2 (VL w M β D) xs vs) : ∀ v ∈ vs, v.oneCell' = true := by
 induction h with
 | nil => simp
 | cons h1 _ ih =>
  intro v hv
  rcases List.mem_cons.1 hv with rfl | hv
  ·exact h1.one
  ·exact ih v hv

theorem setAt_all2 {R : LV → Value → Prop} {b b' xs : List LV} {off : Nat} {vs arr : List Value} (hb : All2 R b arr) (hx : All2 R xs vs) (h : setAt b off xs = some b') :
  off + vs.length ≤ arr.length ∧ All2 R b' (arr.take off ++ (vs ++ arr.drop (off + vs.length))) := by
 unfold setAt at h
 split at h
 ·rename_i hle
  obtain rfl := Option.some.inj h
  have h1 := hb.length
  have h2 := hx.length
  refine ⟨by omega, (hb.take off).append (hx.append ?_)⟩
  rw [← h2]
  exact hb.drop _
 ·cases h

theorem good_store (hL : LOk P L) (R : Rel X β σ a w) (hG : GOk a G) {o : Oper} {t : TypeId} {p x : Operand} (ho : o.op = .store t p x) {r : Res} (h : aStore L G σ t p x = some r) : OpGood P X σ a w o r := by
 unfold aStore at h
 split at h
 ·rename_i y n off v hy hp hx
  split at h
  ·rename_i hsz
   split at h
   ·rename_i b hb
    split at h
    ·rename_i b' hb'
     obtain rfl := Option.some.inj h
     have hpv := opT_sound R hG hp
     cases hpv with
     | ptr hq =>
      obtain ⟨k, hD, ho0, hk, hev⟩ := hq
      have hcells := VT.cells (nilT_sound (L := L) (t := t) (opT_sound R hG hx))
      obtain ⟨k', arr, e, _, h1, h2, h3⟩ := R.hr.blk n _ hb
      obtain rfl : k = k' := Option.some.inj (hk.symm.trans h1)
      obtain ⟨hle, hnew⟩ := setAt_all2 h3 hcells hb'
      obtain ⟨w', g1, g2, g3, g4, g5, g6, g7⟩ := run_storeCells (P := P) (a.eval x).cells.toList w k off 0 arr e h2 (by simpa using hle) hcells.ones
      obtain ⟨β', R'⟩ := R.write hb hk g2 g3 g4 g5 g6 g7 (by simpa using hnew)
      refine ⟨.skip, w', β', undef, ?_, .inr ⟨rfl, rfl⟩, R', ⟨#[], rfl, .nil⟩, by simp⟩
      have hsz' : (a.eval x).cells.size = y.size := by
       have := hcells.length; rw [hsz] at this; simpa using this.symm
      simp only [execOp, ho, Sem.run_bind, Instr.storeAt, Instr.sureAddr, hev, Sem.run_pure, Result.andThen_ok, storeVar, run_sizeOf (hL t y hy).size, hsz']
      simp [g1]
    ·cases h
   ·cases h
  ·cases h
 ·cases h

theorem getAt_all2 {R : LV → Value → Prop} {b xs : List LV} {off n : Nat} {arr : List Value} (hb : All2 R b arr) (h : getAt b off n = some xs) :
  off + n ≤ arr.length ∧ xs.length = n ∧ All2 R xs ((arr.drop off).take n) := by
 unfold getAt at h
 split at h
 ·rename_i hle
  obtain rfl := Option.some.inj h
  have h1 := hb.length
  exact ⟨by omega, by simp; omega, (hb.drop off).take n⟩
 ·cases h

theorem asTV_sound {M : CM} {D : Nat → Prop} {y : Lay} {xs : List LV} {vs : List Value} {x : TV} (hx : All2 (VL w M β D) xs vs) (h : asTV y.agg xs = some x) :
  VT w M β D x (if y.agg then .agg vs.toArray else vs.headD undef) := by
 unfold asTV at h
 split at h
 ·rename_i ha
  obtain rfl := Option.some.inj h
  rw [if_pos ha]
  exact ⟨vs.toArray, rfl, by simpa using hx⟩
 ·rename_i ha
  rw [if_neg ha]
  split at h
  ·obtain rfl := Option.some.inj h
   obtain ⟨v, rfl, hv⟩ := hx.one_left
   exact hv
  ·cases h

theorem run_loadVar {t : TypeId} {y : Lay} (hy : LayOk P t y) {p : Addr} {vs : List Value} (hl : vs.length = y.size) (hc : ∀ j v, vs[j]? = some v → w.cell? (p.add j) = some v) :
  (loadVar t p).run P w = .ok (if y.agg then .agg vs.toArray else vs.headD undef) w := by
 simp only [loadVar, Sem.run_bind, hy.agg, Result.andThen_ok]
 by_cases ha : y.agg = true
 ·simp only [ha, if_true, Sem.run_bind, run_sizeOf hy.size, Result.andThen_ok, Sem.run_pure]
  rw [← hl, run_loadCells_list w p vs hc]
  rfl
 ·have ha' : y.agg = false := by simpa using ha
  have h1 := hy.one ha'
  rw [h1] at hl
  match vs, hl with
  | [v], _ =>
   have := hc 0 v rfl
   rw [Addr.add_zero'] at this
   simp [ha', run_load, this]

theorem dcells_len (c : Nat → DV) : ∀ (n i : Nat), (dcells c i n).length = n
 | 0, _ => rfl
 | n + 1, i => by simp [dcells, dcells_len c n]
theorem dcells_get (c : Nat → DV) : ∀ (n i j : Nat), j < n → (dcells c i n)[j]? = some (.d (c (i + j)))
 | 0, _, _, h => absurd h (Nat.not_lt_zero _)
 | n + 1, i, 0, _ => by simp [dcells]
 | n + 1, i, j + 1, h => by simp [dcells, dcells_get c n (i + 1) j (by omega), Nat.add_assoc, Nat.add_comm 1 j]

theorem loadFrom_sound (hL : LOk P L) (R : Rel X β σ a w) {t : TypeId} {y : Lay} (hy : L t = some y) {q x : TV} {pv : Value} (hq : VT w (Mt β (look σ.h)) β (dm (look σ.h)) q pv) (h : loadFrom σ y q = some x) :
  ∃ p v, pv = .pointer (some p) ∧ (loadVar t p).run P w = .ok v w ∧ VT w (Mt β (look σ.h)) β (dm (look σ.h)) x v := by
 unfold loadFrom at h
 split at h
 ·rename_i n off
  split at h
  ·rename_i b hb
   split at h
   ·rename_i xs hxs
    cases hq with
    | ptr hq =>
     obtain ⟨k, hD, _, hk, rfl⟩ := hq
     obtain ⟨k', arr, e, _, h1, h2, h3⟩ := R.hr.blk n _ hb
     obtain rfl : k = k' := Option.some.inj (hk.symm.trans h1)
     obtain ⟨hle, hlen, hall⟩ := getAt_all2 h3 hxs
     refine ⟨_, _, rfl, run_loadVar (hL t y hy) (vs := (arr.toList.drop off).take y.size) (by simp at hle ⊢; omega) (fun j v hj => ?_), asTV_sound hall h⟩
     have hjl : j < y.size := by
      have := (List.getElem?_eq_some_iff.1 hj).1
      rw [List.length_take] at this; omega
     rw [List.getElem?_take, if_pos hjl, List.getElem?_drop] at hj
     rw [Addr.add_lit]
     simpa [World.cell?, h2] using hj
   ·cases h
  ·cases h
 ·rename_i k c
  split at h
  ·rename_i hle
   cases hq with
   | @dptr _ _ p vs hb hM hc hv =>
    have hlist : ∀ j, j < y.size → ((List.range y.size).map vs)[j]? = some (vs j) := fun j hj => by simp [hj]
    refine ⟨p, _, rfl, run_loadVar (hL t y hy) (vs := (List.range y.size).map vs) (by simp) (fun j v hj => ?_), asTV_sound ?_ h⟩
    ·have hjl : j < y.size := by
      have := (List.getElem?_eq_some_iff.1 hj).1
      simpa using this
     rw [hlist j hjl] at hj
     obtain rfl := Option.some.inj hj
     exact hc j (by omega)
    ·refine All2.of_get (by simp [dcells_len]) fun i u v hu hv' => ?_
     have hil : i < y.size := by
      have := (List.getElem?_eq_some_iff.1 hu).1
      rwa [dcells_len] at this
     rw [dcells_get c _ _ _ hil] at hu
     rw [hlist i hil] at hv'
     obtain rfl := Option.some.inj hu
     obtain rfl := Option.some.inj hv'
     rw [Nat.zero_add]
     exact .d (hv i (by omega))
  ·cases h
 ·cases h

theorem good_load (hL : LOk P L) (R : Rel X β σ a w) (hG : GOk a G) {o : Oper} {t : TypeId} {p : Operand} (ho : o.op = .load t p) {r : Res} (h : aLoad L G σ t p = some r) : OpGood P X σ a w o r := by
 unfold aLoad at h
 split at h
 ·rename_i y q hy hq
  split at h
  ·rename_i x hx
   obtain rfl := Option.some.inj h
   obtain ⟨p', v, he, hrun, hv⟩ := loadFrom_sound hL R hy (opT_sound R hG hq) hx
   refine OpGood.pure R (v := v) ?_ rfl hv (by simp)
   simp [execOp, ho, Instr.loadAt, Instr.sureAddr, he, hrun]
  ·cases h
 ·cases h

theorem wrap_i64 {n : Int} (h : InI64 n) : IntKind.i64.wrap n = n := IntWalk.i64_in n h

theorem good_arith (R : Rel X β σ a w) {o : Oper} {op : BinOp} {t t' : TypeId} {p q : Operand} {k : IntKind} {x y : Int} (ho : o.op = .binOp op t p q t') (hp : a.eval p = .int k x) (hq : a.eval q = .int k y)
  {r : Res} (h : arith op k x y = some r) (hc : ∀ c ∈ r.c, c) : OpGood P X σ a w o r := by
 have key : ∀ v : Value, v.oneCell' = true → (binOp op t (.int k x) (.int k y)).run P w = .ok v w → r.v = .t (.one (.d (.lit v))) → r.h = [] → r.f = [] → OpGood P X σ a w o r := by
  intro v hv hrun hrv hh hf
  refine OpGood.pure R (v := v) ?_ hh ?_ (by rw [hf]; simp)
  ·simp only [execOp, ho, Sem.run_bind, hp, hq, eqGuard_at_int, Sem.run_pure, Result.andThen_ok, hrun]
  ·rw [hrv]; exact VT.lit hv
 unfold arith at h
 split at h <;> first
  | (
   obtain rfl := Option.some.inj h
   refine key (.bool _) rfl ?_ rfl rfl rfl
   simp [binOp, Op.intCmp]; done)
  | (
   obtain rfl := Option.some.inj h
   have h1 := wrap_i64 (hc _ (List.mem_singleton.2 rfl))
   refine key (.int .i64 _) rfl ?_ rfl rfl rfl
   simp [binOp, Op.intArith, h1]; done)
  | skip
 ·obtain rfl := Option.some.inj h
  have h0 : y ≠ 0 := hc _ (by simp)
  have h1 := wrap_i64 (hc (InI64 (x.tdiv y)) (by simp))
  refine key (.int .i64 _) rfl ?_ rfl rfl rfl
  simp [binOp, Op.intDiv, h1, h0]
 ·obtain rfl := Option.some.inj h
  have h0 : y ≠ 0 := hc _ (by simp)
  refine key (.int .i64 _) rfl ?_ rfl rfl rfl
  simp [binOp, Op.intDiv, h0]
 ·cases h

theorem good_bin (R : Rel X β σ a w) (hG : GOk a G) {o : Oper} {op : BinOp} {t t' : TypeId} {p q : Operand} (ho : o.op = .binOp op t p q t') {r : Res} (h : aBin G σ op p q = some r) (hc : ∀ c ∈ r.c, c) : OpGood P X σ a w o r := by
 unfold aBin at h
 split at h
 ·rename_i k x k' y hp hq
  split at h
  ·rename_i hk
   subst hk
   exact good_arith R ho (VT.int (opT_sound R hG hp)) (VT.int (opT_sound R hG hq)) h hc
  ·cases h
 ·cases h

theorem good_binW (R : Rel X β σ a w) (hG : GOk a G) {o : Oper} {op : BinOp} {t t' : TypeId} {p q : Operand} (ho : o.op = .binOp op t p q t') {r : Res} (h : aBinW L G σ op t p q = some r) (hc : ∀ c ∈ r.c, c) : OpGood P X σ a w o r := by
 unfold aBinW at h
 split at h
 ·rename_i la k x k' y hla hp hq
  have hp := VT.int (opT_sound R hG hp)
  have hq := VT.int (opT_sound R hG hq)
  have key : ∀ v : Value, v.oneCell' = true → (binOp op t (.int k x) (.int k' y)).run P w = .ok v w → r.v = .t (.one (.d (.lit v))) → r.h = [] → r.f = [] → OpGood P X σ a w o r := by
   intro v hv hrun hrv hh hf
   refine OpGood.pure R (v := v) ?_ hh ?_ (by rw [hf]; simp)
   ·simp only [execOp, ho, Sem.run_bind, hp, hq, eqGuard_at_int, Sem.run_pure, Result.andThen_ok, hrun]
   ·rw [hrv]; exact VT.lit hv
  unfold arithW at h
  split at h
  ·obtain rfl := Option.some.inj h
   have h0 : 0 ≤ y := hc _ (by simp)
   refine key (.int k _) rfl ?_ rfl rfl rfl
   simp [binOp, Op.shift, shlW, Int.not_lt.2 h0]
  ·obtain rfl := Option.some.inj h
   have h0 : 0 ≤ y := hc _ (by simp)
   refine key (.int k _) rfl ?_ rfl rfl rfl
   simp [binOp, Op.shift, shrW, Int.not_lt.2 h0]
  ·split at h
   ·rename_i hk
    subst hk
    split at h
    ·obtain rfl := Option.some.inj h
     exact key (.int k _) rfl (by simp [binOp, Op.intBits, andW]) rfl rfl rfl
    ·obtain rfl := Option.some.inj h
     exact key (.int k _) rfl (by simp [binOp, Op.intBits, orW]) rfl rfl rfl
    ·obtain rfl := Option.some.inj h
     exact key (.int k _) rfl (by simp [binOp, Op.intBits, xorW]) rfl rfl rfl
    ·split at h
     ·cases h
     ·obtain rfl := Option.some.inj h
      exact key (.int k _) rfl (by simp [binOp, Op.intArith]) rfl rfl rfl
    ·split at h
     ·cases h
     ·obtain rfl := Option.some.inj h
      exact key (.int k _) rfl (by simp [binOp, Op.intArith]) rfl rfl rfl
    ·split at h
     ·cases h
     ·obtain rfl := Option.some.inj h
      exact key (.int k _) rfl (by simp [binOp, Op.intArith]) rfl rfl rfl
    ·split at h
     ·cases h
     ·obtain rfl := Option.some.inj h
      have h0 : y ≠ 0 := hc _ (by simp)
      exact key (.int k _) rfl (by simp [binOp, Op.intDiv, h0]) rfl rfl rfl
    ·split at h
     ·cases h
     ·obtain rfl := Option.some.inj h
      have h0 : y ≠ 0 := hc _ (by simp)
      exact key (.int k _) rfl (by simp [binOp, Op.intDiv, h0]) rfl rfl rfl
    ·cases h
   ·cases h
 ·cases h

theorem run_eqGuardAgg {op : BinOp} {t : TypeId} {p q : Operand} {xs ys : Array Value} (h : P.eqGuardType P.depth t = false) : (eqGuard op t p q (.agg xs) (.agg ys)).run P w = .ok () w := by
 unfold eqGuard
 cases op <;> simp [h]

theorem good_binAgg (hL : LOk P L) (R : Rel X β σ a w) (hG : GOk a G) {o : Oper} {op : BinOp} {t t' : TypeId} {p q : Operand} (ho : o.op = .binOp op t p q t') {r : Res} (h : aBinAgg L G σ op t p q = some r) : OpGood P X σ a w o r := by
 unfold aBinAgg at h
 split at h
 ·rename_i la xs ys hla hp hq
  split at h
  ·rename_i ks hag1 hks
   obtain ⟨hek, hgt⟩ := (hL t la hla).eqs ks hks
   obtain ⟨ax, hax, hxs⟩ := opT_sound R hG hp
   obtain ⟨ay, hay, hys⟩ := opT_sound R hG hq
   have hag : ∀ e, P.underlying t = some e → aggD e = true := by
    intro e he
    have h2 := (hL t la hla).agg w
    rw [isAgg_run he w] at h2
    injection h2 with h2
    rw [h2, hag1]
   have hrun : ∀ r, leafsEq ks xs ys = some r → (Op.equal t (.agg ax) (.agg ay)).run P w = .ok r w := by
    intro r hr
    exact eq_run 20 Op.maxDepth t ks xs ys (.agg ax) (.agg ay) r (by decide) hek hr hxs hys (fun e he => ⟨fun _ => ⟨⟨_, rfl⟩, _, rfl⟩, fun h => by rw [hag e he] at h; cases h⟩)
   split at h
   ·rename_i r' hr
    obtain rfl := Option.some.inj h
    refine OpGood.pure R (v := .bool r') ?_ rfl (VT.lit rfl) (by simp)
    simp only [execOp, ho, Sem.run_bind, hax, hay, run_eqGuardAgg hgt, Result.andThen_ok]
    simp [binOp, hrun r' hr]
   ·rename_i r' hr
    obtain rfl := Option.some.inj h
    refine OpGood.pure R (v := .bool (!r')) ?_ rfl (VT.lit rfl) (by simp)
    simp only [execOp, ho, Sem.run_bind, hax, hay, run_eqGuardAgg hgt, Result.andThen_ok]
    simp [binOp, hrun r' hr]
   ·cases h
  ·cases h
 ·cases h

theorem good_binB (hL : LOk P L) (R : Rel X β σ a w) (hG : GOk a G) {o : Oper} {op : BinOp} {t t' : TypeId} {p q : Operand} (ho : o.op = .binOp op t p q t') {r : Res} (h : aBinB L G σ op t p q = some r) : OpGood P X σ a w o r := by
 unfold aBinB at h
 split at h
 ·rename_i la x y hla hp hq
  split at h
  ·rename_i hag1 hks
   obtain ⟨hek, hgt⟩ := (hL t la hla).eqs _ hks
   have hax := VT.bool (opT_sound R hG hp)
   have hay := VT.bool (opT_sound R hG hq)
   have hag : ∀ e, P.underlying t = some e → aggD e = false := by
    intro e he
    have h2 := (hL t la hla).agg w
    rw [isAgg_run he w] at h2
    injection h2 with h2
    rw [h2, hag1]
   have hrun : (Op.equal t (.bool x) (.bool y)).run P w = .ok (x == y) w := by
    exact eq_run (β := β) (M := Mt β (look σ.h)) (D := dm (look σ.h)) 20 Op.maxDepth t [.b] [lb x] [lb y] (.bool x) (.bool y) (x == y) (by decide) hek rfl (.cons (.d (.lit rfl)) .nil) (.cons (.d (.lit rfl)) .nil)
     (fun e he => ⟨fun h => absurd h (by rw [hag e he]; simp), fun _ => ⟨rfl, rfl⟩⟩)
   split at h
   ·obtain rfl := Option.some.inj h
    refine OpGood.pure R (v := .bool (x == y)) ?_ rfl (VT.lit rfl) (by simp)
    simp only [execOp, ho, Sem.run_bind, hax, hay]
    simp [binOp, eqGuard, hrun]
   ·obtain rfl := Option.some.inj h
    refine OpGood.pure R (v := .bool (x != y)) ?_ rfl (VT.lit rfl) (by simp)
    simp only [execOp, ho, Sem.run_bind, hax, hay]
    simp [binOp, eqGuard, hrun]
    cases x <;> cases y <;> rfl
   ·cases h
  ·cases h
 ·cases h

theorem run_equal_nil (w : World) (t e : TypeId) (a : Option Addr) (n c : Nat) (h : P.underlying t = some (.slice e)) : (Op.equal t (.slice a n c) (.slice none 0 0)).run P w = .ok a.isNone w := by
 have h : ∀ d : Nat, (Op.equalIn (d + 1) t (.slice a n c) (.slice none 0 0)).run P w = .ok a.isNone w := fun d => by
  cases a <;> simp [Op.equalIn, run_underlying h]
 exact h 9999
theorem good_binN (hL : LOk P L) (R : Rel X β σ a w) (hG : GOk a G) {o : Oper} {op : BinOp} {t t' : TypeId} {p q : Operand} (ho : o.op = .binOp op t p q t') {r : Res} (h : aBinN L G σ op t p q = some r) : OpGood P X σ a w o r := by
 unfold aBinN at h
 split at h
 ·rename_i la b x hla hp
  have hx := opT_sound R hG hp
  generalize hev : a.eval p = v at hx
  cases hx with
  | nn hv hs =>
   obtain ⟨ad, len, cap, rfl, rfl⟩ := hs
   split at h
   ·rename_i s hel
    obtain ⟨e, hu, _⟩ := (hL t la hla).el s hel
    obtain rfl := Option.some.inj h
    refine OpGood.pure R (v := .bool ad.isNone) ?_ rfl (VT.lit rfl) (by simp)
    simp only [execOp, ho, Sem.run_bind, hev]
    simp only [Act.eval]
    simp [binOp, eqGuard, run_equal_nil w t e ad len cap hu]
   ·rename_i s hel
    obtain ⟨e, hu, _⟩ := (hL t la hla).el s hel
    obtain rfl := Option.some.inj h
    refine OpGood.pure R (v := .bool (!ad.isNone)) ?_ rfl (VT.lit rfl) (by simp)
    simp only [execOp, ho, Sem.run_bind, hev]
    simp only [Act.eval]
    simp [binOp, eqGuard, run_equal_nil w t e ad len cap hu]
   ·cases h
 ·cases h

theorem negW_eq {n : Int} (h : InI64 (-n)) : negW n = -n := wrap_i64 h
theorem good_un (R : Rel X β σ a w) (hG : GOk a G) {o : Oper} {op : UnOp} {t : TypeId} {p : Operand} (ho : o.op = .unOp op t p) {r : Res} (h : aUn G σ op p = some r) : OpGood P X σ a w o r := by
 unfold aUn at h
 split at h
 ·rename_i x hp
  obtain rfl := Option.some.inj h
  have hv := VT.int (opT_sound R hG hp)
  refine OpGood.pure R (v := .int .i64 (negW x)) ?_ rfl (VT.lit rfl) (by simp)
  simp [execOp, ho, Op.unary, hv, Op.intArith, negW]
 ·rename_i x hp
  obtain rfl := Option.some.inj h
  have hv := VT.bool (opT_sound R hG hp)
  refine OpGood.pure R (v := .bool (!x)) ?_ rfl (VT.lit rfl) (by simp)
  simp [execOp, ho, Op.unary, hv]
 ·cases h

theorem good_nilck (R : Rel X β σ a w) (hG : GOk a G) {o : Oper} {p : Operand} (ho : o.op = .nilCheck p) {r : Res} (h : aNilCk G σ p = some r) : OpGood P X σ a w o r := by
 unfold aNilCk at h
 split at h
 ·rename_i n off hp
  obtain rfl := Option.some.inj h
  have hpv := opT_sound R hG hp
  cases hpv with
  | ptr hq =>
   obtain ⟨k, hD, ho0, hk, hev⟩ := hq
   refine OpGood.pure R (v := .pointer (some ⟨k, off, none⟩)) ?_ rfl (VL.ptr ⟨k, hD, ho0, hk, rfl⟩) (by simp)
   simp [execOp, ho, hev]
 ·cases h

theorem LayOk.some {t : TypeId} {y : Lay} (h : LayOk P t y) : ∃ d, P.underlying t = some d := by
 cases hu : P.underlying t with
 | some d => exact ⟨d, rfl⟩
 | none =>
  have := h.agg default
  simp [isAgg, underlying, hu] at this

theorem good_conv (hL : LOk P L) (R : Rel X β σ a w) (hG : GOk a G) {o : Oper} {s t : TypeId} {p : Operand} (ho : o.op = .convert s t p) {r : Res} (h : aConv L G σ s t p = some r) (hc : ∀ c ∈ r.c, c) : OpGood P X σ a w o r := by
 unfold aConv at h
 split at h
 ·rename_i ys y k x hys hy hp
  have hv := VT.int (opT_sound R hG hp)
  obtain ⟨d, hd⟩ := (hL s ys hys).some
  have key : ∀ k', y.kind = some k' → (execOp a.eval o).run P w = .ok (.value (.int k' (k'.wrap x))) w := by
   intro k' hk
   simp [execOp, ho, hv, convert, run_underlying hd, run_underlying ((hL t y hy).kind k' hk), Conv.intToInt]
  split at h
  ·rename_i hk
   split at h
   ·obtain rfl := Option.some.inj h
    exact OpGood.pure R (key _ hk) rfl (VT.lit rfl) (by simp)
   ·obtain rfl := Option.some.inj h
    have h1 := wrap_i64 (hc _ (List.mem_singleton.2 rfl))
    refine OpGood.pure R (v := .int .i64 x) ?_ rfl (VT.lit rfl) (by simp)
    rw [key _ hk, h1]
  ·rename_i k' _ hk
   obtain rfl := Option.some.inj h
   exact OpGood.pure R (key _ hk) rfl (VT.lit rfl) (by simp)
  ·cases h
 ·cases h

theorem asPtrs_sound {M : CM} {D : Nat → Prop} : ∀ {xs : List TV} {ps : List (Nat × Nat)} {vs : List Value}, asPtrs xs = some ps → All2 (VT w M β D) xs vs → All2 (PV β D) ps vs
 | [], ps, vs, h, hv => by cases hv; obtain rfl := Option.some.inj h; exact .nil
 | x :: xs, ps, vs, h, hv => by
  cases hv with
  | cons h1 h2 =>
   unfold asPtrs at h
   split at h
   ·rename_i heq; cases heq
   ·rename_i n o r heq
    injection heq with e1 e2
    subst e1 e2
    split at h
    ·rename_i l hl
     obtain rfl := Option.some.inj h
     cases h1 with
     | ptr hq => exact .cons hq (asPtrs_sound hl h2)
    ·cases h
   ·cases h

theorem good_func (R : Rel X β σ a w) (hG : GOk a G) {o : Oper} {f : FuncId} {fi ca : Array Operand} (ho : o.op = .makeFunc (.func f) fi ca) {r : Res} (h : aFunc G σ f fi.toList ca.toList = some r) : OpGood P X σ a w o r := by
 unfold aFunc at h
 split at h
 ·rename_i xs ys hxs hys
  split at h
  ·rename_i ps qs hps hqs
   obtain rfl := Option.some.inj h
   refine OpGood.pure R (v := .func (.func f) (fi.map a.eval) (ca.map a.eval)) ?_ rfl ?_ (by simp)
   ·simp [execOp, ho, Instr.makeFunc]
   ·have h1 := asPtrs_sound hps (mapT_sound R hG hxs)
    have h2 := asPtrs_sound hqs (mapT_sound R hG hys)
    have := VL.clo (f := f) (w := w) (M := Mt β (look σ.h)) h1 h2
    rw [show (fi.map a.eval) = (fi.toList.map a.eval).toArray from by rw [← Array.toList_map], show (ca.map a.eval) = (ca.toList.map a.eval).toArray from by rw [← Array.toList_map]]
    exact this
  ·cases h
 ·cases h

theorem All2.get_right {α : Type _} {β : Type _} {R : α → β → Prop} {l : List α} {m : List β} (h : All2 R l m) {i : Nat} {b : β} (hb : m[i]? = some b) : ∃ a, l[i]? = some a ∧ R a b := by
 induction h generalizing i with
 | nil => simp at hb
 | cons h _ ih =>
  cases i with
  | zero => simp at hb; subst hb; exact ⟨_, by simp, h⟩
  | succ i => simp at hb; obtain ⟨a, ha, hr⟩ := ih hb; exact ⟨a, by simpa using ha, hr⟩

theorem run_fieldAt {t : TypeId} {y : Lay} (hy : LayOk P t y) {i fo sz : Nat} (hf : y.fs[i]? = some (fo, sz)) (p : Addr) : (Instr.fieldAt t (.pointer (some p)) i).run P w = .ok (.pointer (some (p.add fo))) w := by
 obtain ⟨fields, hu, hall⟩ := hy.fs (by intro h; rw [h] at hf; simp at hf)
 obtain ⟨f, hff, h1, h2, h3⟩ := hall.get hf
 have hff' : fields[i]? = some f := by simpa using hff
 simp only [Instr.fieldAt, Sem.run_bind, run_underlying hu, Result.andThen_ok, hff', Instr.sureAddr, Sem.run_pure, fieldPlace, run_sizeOf h2, Sem.run_ite]
 rw [if_neg h3, h1]
 rfl

theorem good_field (hL : LOk P L) (R : Rel X β σ a w) (hG : GOk a G) {o : Oper} {t : TypeId} {p : Operand} {i : Nat} (ho : o.op = .fieldAddr t p i) {r : Res} (h : aField L G σ t p i = some r) : OpGood P X σ a w o r := by
 unfold aField at h
 split at h
 ·rename_i y n off hy hp
  split at h
  ·rename_i fo sz hf
   obtain rfl := Option.some.inj h
   have hpv := opT_sound R hG hp
   cases hpv with
   | ptr hq =>
    obtain ⟨k, hD, ho0, hk, hev⟩ := hq
    refine OpGood.pure R (v := .pointer (some ⟨k, off + fo, none⟩)) ?_ rfl (VL.ptr ⟨k, hD, ho0, hk, rfl⟩) (by simp)
    simp only [execOp, ho, Sem.run_bind, hev, run_fieldAt (hL t y hy) hf, Result.andThen_ok, Sem.run_pure, Addr.add_lit]
  ·cases h
 ·rename_i y k c hy hp
  split at h
  ·rename_i fo sz hf
   split at h
   ·rename_i hle
    obtain rfl := Option.some.inj h
    have hpv := opT_sound R hG hp
    generalize hev : a.eval p = pv at hpv
    cases hpv with
    | @dptr _ _ q vs hb hM hc hv =>
     refine OpGood.pure R (v := .pointer (some (q.add fo))) ?_ rfl (VL.dptr (fun j => vs (fo + j)) (by rw [add_block]; exact hb) (fun j hj => ?_) (fun j hj => ?_) (fun j hj => hv _ (by omega))) (by simp)
     ·simp only [execOp, ho, Sem.run_bind, hev, run_fieldAt (hL t y hy) hf, Result.andThen_ok, Sem.run_pure]
     ·rw [add_block, add_off, Nat.add_assoc]; exact hM _ (by omega)
     ·rw [add_add]; exact hc _ (by omega)
   ·cases h
  ·cases h
 ·cases h

theorem good_index (hL : LOk P L) (R : Rel X β σ a w) (hG : GOk a G) {o : Oper} {t : TypeId} {p q : Operand} (ho : o.op = .indexAddr t p q) {r : Res} (h : aIndex L G σ t p q = some r) (hc : ∀ c ∈ r.c, c) : OpGood P X σ a w o r := by
 unfold aIndex at h
 split at h
 ·rename_i y τ l k n hy hp hq
  split at h
  ·rename_i sz' hel
   split at h
   ·rename_i hsz
    subst hsz
    obtain rfl := Option.some.inj h
    obtain ⟨e, hu, he, hne⟩ := (hL t y hy).el τ.size hel
    have h0 : 0 ≤ n := hc _ (by simp)
    have h1 : n < (l.length : Int) := hc (n < l.length) (by simp)
    have hqv := VT.int (opT_sound R hG hq)
    have hpv := opS_sound R hG hp
    generalize hev : a.eval p = pv at hpv
    cases hpv with
    | d hpv =>
     cases hpv with
     | nil => simp at h1; omega
     | @sl _ _ b cap vs hs0 hb hcap hmax hM hcc hv =>
      have hi : n.toNat < l.length := by omega
      refine OpGood.pure R (v := .pointer (some (b.add (n.toNat * τ.size)))) ?_ rfl (VL.dptr (fun j => vs n.toNat j) (by rw [add_block]; exact hb _ hi) (fun j hj => ?_) (fun j hj => ?_) (fun j hj => hv _ _ hi hj)) (by simp)
      ·simp only [execOp, ho, Sem.run_bind, hev, hqv, Instr.indexAt, asIntOf, Sem.run_pure, Result.andThen_ok, run_underlying hu]
       rw [if_pos ⟨h0, h1⟩]
       simp [run_sizeOf he]
      ·rw [add_block, add_off, Nat.add_assoc]; exact hM _ _ hi hj
      ·rw [add_add]; exact hcc _ _ hi hj
   ·cases h
  ·cases h
 ·rename_i y k off k' n hy hp hq
  split at h
  ·rename_i m e s har
   obtain rfl := Option.some.inj h
   obtain ⟨hu, he⟩ := (hL t y hy).ars m e s har
   have h0 : 0 ≤ n := hc _ (by simp)
   have h1 : n < (m : Int) := hc (n < m) (by simp)
   have hqv := VT.int (opT_sound R hG hq)
   have hpv := opS_sound R hG hp
   cases hpv with
   | ptr hq' =>
    obtain ⟨b, hD, ho0, hk, hev⟩ := hq'
    refine OpGood.pure R (v := .pointer (some ⟨b, off + n.toNat * s, none⟩)) ?_ rfl (VL.ptr ⟨b, hD, ho0, hk, rfl⟩) (by simp)
    simp only [execOp, ho, Sem.run_bind, hev, hqv, Instr.indexAt, Instr.sureAddr, asIntOf, Sem.run_pure, Result.andThen_ok, run_underlying hu]
    rw [if_pos ⟨h0, h1⟩]
    simp [run_sizeOf he, Addr.add_lit]
  ·cases h
 ·cases h

theorem bnd_sound (R : Rel X β σ a w) (hG : GOk a G) {d : Int} {x : Option Operand} {n : Int} (h : bnd G σ d x = some n) : (x = none ∧ n = d) ∨ ∃ o k, x = some o ∧ a.eval o = .int k n := by
 unfold bnd at h
 split at h
 ·obtain rfl := Option.some.inj h; exact .inl ⟨rfl, rfl⟩
 ·rename_i o
  split at h
  ·rename_i k m hm
   obtain rfl := Option.some.inj h
   exact .inr ⟨o, k, rfl, VT.int (opT_sound R hG hm)⟩
  ·cases h

theorem run_sliceBound {v : Value} {k : IntKind} {i : Int} {y : Nat} {c : BoundsCode} (hv : v = .int k i) (h0 : 0 ≤ i) (h1 : i ≤ y) : (Instr.sliceBound v y c).run P w = .ok i.toNat w := by
 subst hv
 simp [Instr.sliceBound, asIntOf, h0, h1]

theorem run_sliceBounds {len cap : Nat} {lo hi : Option Value} {p q : Int} (hhi : (hi = none ∧ q = len) ∨ ∃ k, hi = some (.int k q)) (hlo : (lo = none ∧ p = 0) ∨ ∃ k, lo = some (.int k p)) (h0 : 0 ≤ p) (h1 : p ≤ q) (h2 : q ≤ cap) :
  (Instr.sliceBounds true len cap lo hi none).run P w = .ok (p.toNat, q.toNat, cap) w := by
 have g1 : ∀ k c, (Instr.sliceBound (.int k q) cap c).run P w = .ok q.toNat w := fun k c => run_sliceBound rfl (by omega) h2
 have g2 : ∀ k c, (Instr.sliceBound (.int k p) q.toNat c).run P w = .ok p.toNat w := fun k c => run_sliceBound rfl h0 (by omega)
 have g3 : ∀ k c, q = len → (Instr.sliceBound (.int k p) len c).run P w = .ok p.toNat w := fun k c hm => run_sliceBound rfl h0 (by omega)
 unfold Instr.sliceBounds
 rcases hhi with ⟨rfl, rfl⟩ | ⟨k, rfl⟩ <;> rcases hlo with ⟨rfl, rfl⟩ | ⟨k', rfl⟩
 ·simp
 ·simp [g3 _ _ rfl]
 ·simp [g1]
 ·simp [Sem.run_bind, g1, g2]

theorem VD.cut {M : CM} {τ : Ty} {l : List τ.T} {v : Value} (h : VD w M (.sl τ l) v) {i j : Nat} (h1 : i ≤ j) (h2 : j ≤ l.length) :
  ∃ ad cap, v = .slice ad l.length cap ∧ l.length ≤ cap ∧ VD w M (.sl τ ((l.take j).drop i)) (.slice (if cap = i then ad else ad.map (·.add (i * τ.size))) (j - i) (cap - i)) := by
 have hlen : ((l.take j).drop i).length = j - i := by simp; omega
 cases h with
 | nil =>
  simp at h2; subst h2
  have : i = 0 := by omega
  subst this
  exact ⟨none, 0, rfl, Nat.le_refl _, by simpa using VD.nil⟩
 | @sl _ _ ad cap vs h0 hb hcap hmax hM hc hv =>
  refine ⟨some ad, cap, rfl, hcap, ?_⟩
  by_cases hci : cap = i
  ·rw [if_pos hci]
   have hz : (l.take j).drop i = [] := List.eq_nil_of_length_eq_zero (by omega)
   have hji : j - i = 0 := by omega
   rw [hz, hji]
   exact VD.sl (l := []) (fun _ _ => undef) h0 (fun i hi => absurd hi (Nat.not_lt_zero _)) (Nat.zero_le _) (by omega) (fun i _ hi => absurd hi (Nat.not_lt_zero _)) (fun i _ hi => absurd hi (Nat.not_lt_zero _)) (fun i _ hi => absurd hi (Nat.not_lt_zero _))
  ·rw [if_neg hci, ← hlen]
   have e1 : ∀ q s : Nat, i * τ.size + (q * τ.size + s) = (i + q) * τ.size + s := fun q s => by rw [Nat.add_mul]; omega
   refine VD.sl (fun q s => vs (i + q) s) h0 (fun q hq => ?_) (by omega) (by omega) (fun q s hq hs => ?_) (fun q s hq hs => ?_) (fun q s hq hs => ?_)
   ·rw [add_block]; exact hb (i + q) (by omega)
   ·rw [add_block, add_off, Nat.add_assoc, e1]; exact hM _ _ (by omega) hs
   ·rw [add_add, e1]; exact hc _ _ (by omega) hs
   ·have := hv (i + q) s (by omega) hs
    have e2 : ((l.take j).drop i).getD q τ.d0 = l.getD (i + q) τ.d0 := by
     rw [List.getD_eq_getElem?_getD, List.getD_eq_getElem?_getD, List.getElem?_drop, List.getElem?_take, if_pos (by omega)]
    rw [e2]
    exact this

theorem good_slice (hL : LOk P L) (R : Rel X β σ a w) (hG : GOk a G) {o : Oper} {t : TypeId} {x : Operand} {lo hi mx : Option Operand} (ho : o.op = .slice t x lo hi mx) {r : Res} (h : aSlice L G σ t x lo hi mx = some r) (hc : ∀ c ∈ r.c, c) : OpGood P X σ a w o r := by
 unfold aSlice at h
 split at h
 ·rename_i _ y τ l hy hx
  split at h
  ·rename_i sz p q hel hp hq
   split at h
   ·rename_i hsz
    subst hsz
    obtain rfl := Option.some.inj h
    obtain ⟨e, hu, he, hne⟩ := (hL t y hy).el τ.size hel
    have h0 : 0 ≤ p := hc _ (by simp)
    have h1 : p ≤ q := hc _ (by simp)
    have h2 : q ≤ (l.length : Int) := hc (q ≤ (l.length : Int)) (by simp)
    obtain ⟨ad, cap, hev, hcap, hv⟩ := VD.cut (by have := opS_sound R hG hx; cases this with | d h => exact h) (i := p.toNat) (j := q.toNat) (by omega) (by omega)
    refine OpGood.pure R (v := .slice (if cap = p.toNat then ad else ad.map (·.add (p.toNat * τ.size))) (q.toNat - p.toNat) (cap - p.toNat)) ?_ rfl (VL.d hv) (by simp)
    have hb : (Instr.sliceBounds true l.length cap (lo.map a.eval) (hi.map a.eval) none).run P w = .ok (p.toNat, q.toNat, cap) w := by
     refine run_sliceBounds ?_ ?_ h0 h1 (by omega)
     ·rcases bnd_sound R hG hq with ⟨rfl, rfl⟩ | ⟨oh, k, rfl, hoh⟩
      ·exact .inl ⟨rfl, rfl⟩
      ·exact .inr ⟨k, by simp [hoh]⟩
     ·rcases bnd_sound R hG hp with ⟨rfl, rfl⟩ | ⟨oh, k, rfl, hoh⟩
      ·exact .inl ⟨rfl, rfl⟩
      ·exact .inr ⟨k, by simp [hoh]⟩
    simp only [execOp, ho, Sem.run_bind, Instr.sliceAt, Instr.slice, run_underlying hu, Result.andThen_ok, hev, Option.map_none, hb, run_sizeOf he, Sem.run_pure]
   ·cases h
  ·cases h
 ·cases h

theorem good_extract (R : Rel X β σ a w) (hG : GOk a G) {o : Oper} {p : Operand} {i : Nat} (ho : o.op = .extract p i) {r : Res} (h : aExtract G σ p i = some r) (hc : ∀ c ∈ r.c, c) : OpGood P X σ a w o r := by
 unfold aExtract at h
 split at h
 ·rename_i xs hp
  split at h
  ·rename_i v hv
   obtain rfl := Option.some.inj h
   obtain ⟨arr, he, hall⟩ := opd_sound R hG hp
   obtain ⟨u, hu, hvt⟩ := hall.get hv
   refine OpGood.pure R (v := u) ?_ rfl hvt (by simp)
   have hu' : arr[i]? = some u := by simpa using hu
   simp [execOp, ho, Instr.extract, he, hu']
  ·cases h
 ·rename_i b q c hp
  have he : a.eval p = (if b then .tuple #[.bool true, .int .i64 q, .int .i32 c] else .tuple #[.bool false]) := opd_sound R hG hp
  split at h
  ·obtain rfl := Option.some.inj h
   refine OpGood.pure R (v := .bool b) ?_ rfl (VT.lit rfl) (by simp)
   cases b <;> simp [execOp, ho, Instr.extract, he]
  ·obtain rfl := Option.some.inj h
   have hb : b = true := hc _ (by simp)
   refine OpGood.pure R (v := .int .i64 q) ?_ rfl (VT.lit rfl) (by simp)
   simp [execOp, ho, Instr.extract, he, hb]
  ·obtain rfl := Option.some.inj h
   have hb : b = true := hc _ (by simp)
   refine OpGood.pure R (v := .int .i32 c) ?_ rfl (VT.lit rfl) (by simp)
   simp [execOp, ho, Instr.extract, he, hb]
  ·cases h
 ·cases h
end
end Go.Sy
namespace Go.Sy
variable {P : Program} {L : Nat → Option Lay} {Γ : Nat → Option Con}

section
variable {X : Cx} {β : Bt} {σ : St} {a : Act} {w : World} {G : List (Nat × Bool)}

theorem mapP_sound (R : Rel X β σ a w) (hG : GOk a G) : ∀ {os : List (Nat × Operand)} {xs : List (Nat × TV)}, mapP (opT G σ) os = some xs →
  All2 (fun (p : Nat × TV) (q : Nat × Value) => p.1 = q.1 ∧ VT w (Mt β (look σ.h)) β (dm (look σ.h)) p.2 q.2) xs (os.map fun (i, x) => (i, a.eval x))
 | [], xs, h => by obtain rfl := Option.some.inj h; exact .nil
 | (i, o) :: r, xs, h => by
  simp only [mapP] at h
  split at h
  ·rename_i x hx
   split at h
   ·rename_i ys hys
    obtain rfl := Option.some.inj h
    exact .cons ⟨rfl, opT_sound R hG hx⟩ (mapP_sound R hG hys)
   ·cases h
  ·cases h

theorem All2.two_left {α : Type _} {β : Type _} {R : α → β → Prop} {x y : α} {m : List β} (h : All2 R [x, y] m) : ∃ u v, m = [u, v] ∧ R x u ∧ R y v := by
 cases h with | cons h1 h2 => cases h2 with | cons h2 h3 => cases h3; exact ⟨_, _, rfl, h1, h2⟩

theorem foldl_set : ∀ (vs : List Value) (cs : Array Value) (off i : Nat), off + i + vs.length ≤ cs.size →
  ((vs.zipIdx i).foldl (fun cs (c, j) => cs.setIfInBounds (off + j) c) cs).toList = cs.toList.take (off + i) ++ (vs ++ cs.toList.drop (off + i + vs.length))
 | [], cs, off, i, _ => by simp
 | v :: vs, cs, off, i, h => by
  simp only [List.length_cons] at h
  simp only [List.zipIdx_cons, List.foldl_cons]
  rw [foldl_set vs _ off (i + 1) (by simp; omega)]
  have hset : (cs.setIfInBounds (off + i) v).toList = cs.toList.set (off + i) v := by simp
  rw [hset]
  have e1 : off + (i + 1) = (off + i) + 1 := by omega
  have e2 : off + (i + 1) + vs.length = off + i + (vs.length + 1) := by omega
  rw [List.length_cons, e2]
  have hlt : off + i < cs.toList.length := by simp; omega
  have t1 : (cs.toList.set (off + i) v).take (off + (i + 1)) = cs.toList.take (off + i) ++ [v] := by
   rw [e1, List.take_succ_eq_append_getElem (by simp; omega), List.take_set_of_le (Nat.le_refl _)]
   simp
  have t2 : (cs.toList.set (off + i) v).drop (off + i + (vs.length + 1)) = cs.toList.drop (off + i + (vs.length + 1)) := by
   rw [List.drop_set, if_pos (by omega)]
  rw [t1, t2]
  simp

theorem fill_sound {M : CM} {D : Nat → Prop} {fs : List (Nat × Nat)} {place : Nat → Option (Nat × Nat)} (hpl : ∀ (i : Nat) q, fs[i]? = some q → place i = some q) :
  ∀ {parts : List (Nat × TV)} {qs : List (Nat × Value)} {cells cs : List LV} {arr : Array Value}, fill fs cells parts = some cs →
   All2 (fun (p : Nat × TV) (q : Nat × Value) => p.1 = q.1 ∧ VT w M β D p.2 q.2) parts qs → All2 (VL w M β D) cells arr.toList →
   ∃ arr', Instr.fill place arr qs = some arr' ∧ All2 (VL w M β D) cs arr'.toList
 | [], qs, cells, cs, arr, h, hq, hc => by cases hq; obtain rfl := Option.some.inj h; exact ⟨arr, rfl, hc⟩
 | (i, v) :: parts, qs, cells, cs, arr, h, hq, hc => by
  cases hq with
  | @cons _ q _ qs h1 h2 =>
   obtain ⟨j, u⟩ := q
   obtain ⟨rfl, hv⟩ := h1
   simp only [fill] at h
   split at h
   ·rename_i off size hf
    split at h
    ·rename_i hsz
     split at h
     ·rename_i cs' hcs
      have hcells := VT.cells hv
      have hl := hcells.length
      obtain ⟨hle, hnew⟩ := setAt_all2 hc hcells hcs
      have e := foldl_set u.cells.toList arr off 0 (by simpa using hle)
      have hu : u.cells.size = size := by rw [← hsz, hl]; simp
      have hgo : ¬ (u.cells.size ≠ size || off + u.cells.size > arr.size) = true := by
       simp only [ne_eq, decide_not, Bool.or_eq_true, Bool.not_eq_true', decide_eq_false_iff_not, decide_eq_true_eq, not_or]
       exact ⟨fun h => h hu, by simp at hle; omega⟩
      have hx := fill_sound hpl (arr := (u.cells.zipIdx.foldl (fun cs (c, j) => cs.setIfInBounds (off + j) c) arr)) h h2 ?_
      ·obtain ⟨arr', g1, g2⟩ := hx
       refine ⟨arr', ?_, g2⟩
       simp only [Instr.fill, hpl i _ hf]
       rw [if_neg hgo]
       exact g1
      ·rw [← Array.foldl_toList, Array.toList_zipIdx, e]
       simpa using hnew
     ·cases h
    ·cases h
   ·cases h

theorem run_places {fields : List Field} {fs : List (Nat × Nat)} (h : All2 (fun q (f : Field) => f.offset = q.1 ∧ sizeIs P f.type q.2 ∧ q.2 ≠ 0) fs fields) :
  (fields.mapM fun f => (do pure (f.offset, ← sizeOf f.type) : Sem (Nat × Nat))).run P w = .ok fs w := by
 induction h with
 | nil => simp
 | @cons q f fs fields h1 _ ih =>
  obtain ⟨e1, e2, _⟩ := h1
  simp only [List.mapM_cons, Sem.run_bind, run_sizeOf e2, Result.andThen_ok, Sem.run_pure, ih, e1]

theorem good_build (hL : LOk P L) (R : Rel X β σ a w) (hG : GOk a G) {o : Oper} {t : TypeId} {parts : Array (Nat × Operand)} (ho : o.op = .build t parts) {r : Res} (h : aBuild L G σ t parts.toList = some r) : OpGood P X σ a w o r := by
 unfold aBuild at h
 split at h
 ·rename_i y hy
  split at h
  ·rename_i ps hps
   split at h
   ·rename_i n e s har
    split at h
    ·rename_i cs hcs
     obtain rfl := Option.some.inj h
     obtain ⟨hu, hs⟩ := (hL t y hy).ars n e s har
     obtain ⟨z, hz, _, hzz⟩ := (hL t y hy).zero
     have hb : All2 (VL w (Mt β (look σ.h)) β (dm (look σ.h))) (wrapD y.zero) z.cells.toList := by
      have := hzz w (Mt β (look σ.h))
      clear hz hzz hy hcs har
      generalize z.cells.toList = zs at this
      generalize y.zero = ys at this
      induction this with
      | nil => exact .nil
      | cons h1 _ ih => exact .cons (.d h1) ih
     obtain ⟨arr', g1, g2⟩ := fill_sound (place := fun i => some (i * s, s)) (fun i q hq => by
      unfold arFs at hq
      rw [List.getElem?_map] at hq
      cases hr : (List.range n)[i]? with
      | none => rw [hr] at hq; cases hq
      | some j =>
       rw [hr] at hq
       obtain ⟨h1, h2⟩ := List.getElem?_eq_some_iff.1 hr
       simp at h2
       subst h2
       exact hq) hcs (mapP_sound R hG hps) hb
     refine OpGood.pure R (v := .agg arr') ?_ rfl ⟨arr', rfl, g2⟩ (by simp)
     have hparts : (parts.map fun (i, x) => (i, a.eval x)).toList = (parts.toList.map fun (i, x) => (i, a.eval x)) := by simp
     simp only [execOp, ho, Sem.run_bind, Instr.build, hz, Result.andThen_ok, run_underlying hu, run_sizeOf hs, hparts, g1, Sem.run_pure]
    ·cases h
   split at h
   ·rename_i cs hcs
    split at h
    ·cases h
    ·rename_i hne
     obtain rfl := Option.some.inj h
     obtain ⟨fields, hu, hall⟩ := (hL t y hy).fs (by simpa using hne)
     obtain ⟨z, hz, _, hzz⟩ := (hL t y hy).zero
     have hb : All2 (VL w (Mt β (look σ.h)) β (dm (look σ.h))) (wrapD y.zero) z.cells.toList := by
      have := hzz w (Mt β (look σ.h))
      clear hz hzz hy hcs
      generalize z.cells.toList = zs at this
      generalize y.zero = ys at this
      induction this with
      | nil => exact .nil
      | cons h1 _ ih => exact .cons (.d h1) ih
     obtain ⟨arr', g1, g2⟩ := fill_sound (place := (y.fs.toArray[·]?)) (fun i q hq => by simpa using hq) hcs (mapP_sound R hG hps) hb
     refine OpGood.pure R (v := .agg arr') ?_ rfl ⟨arr', rfl, g2⟩ (by simp)
     have hpl : (fields.mapM fun f => (do pure (f.offset, ← sizeOf f.type) : Sem (Nat × Nat))).run P w = .ok y.fs.toArray w := by
      have := run_places (w := w) hall
      rw [Array.mapM_eq_mapM_toList, Sem.run_map, this]
      rfl
     have hparts : (parts.map fun (i, x) => (i, a.eval x)).toList = (parts.toList.map fun (i, x) => (i, a.eval x)) := by simp
     simp only [execOp, ho, Sem.run_bind, Instr.build, hz, Result.andThen_ok, run_underlying hu, hpl, hparts, g1, Sem.run_pure]
   ·cases h
  ·cases h
 ·cases h

theorem asL_sound {M : CM} {τ : Ty} {x : DV} {l : List τ.T} {v : Value} (h : asL τ x = some l) (hv : VD w M x v) : VD w M (.sl τ l) v := by
 unfold asL at h
 split at h
 ·rename_i σ' l'
  split at h
  ·rename_i hh _
   subst hh
   obtain rfl := Option.some.inj h
   exact hv
  ·split at h
   ·obtain rfl := Option.some.inj h
    cases hv with
    | nil => exact .nil
    | sl _ h0 => exact absurd h0 (Nat.lt_irrefl _)
   ·cases h
 ·cases h

theorem VD.row {M : CM} {τ : Ty} {l : List τ.T} {v : Value} (h : VD w M (.sl τ l) v) :
  ∃ (ad : Option Addr) (cap : Nat) (cs : List Value), v = .slice ad l.length cap ∧ cs.length = l.length * τ.size ∧ (ad = none → l = [] ∧ cap = 0) ∧ (∀ u ∈ cs, u.oneCell' = true) ∧
   (∀ a, ad = some a → ∀ j u, cs[j]? = some u → w.cell? (a.add j) = some u ∧ a.block < w.heap.size ∧ ¬ M a.block (a.off + j)) ∧
   ∀ i j u, i < l.length → j < τ.size → cs[i * τ.size + j]? = some u → VD w M (τ.enc (l.getD i τ.d0) j) u := by
 cases h with
 | nil => exact ⟨none, 0, [], rfl, by simp, fun _ => ⟨rfl, rfl⟩, by simp, (fun a h => by cases h), fun i j u hi => absurd hi (Nat.not_lt_zero _)⟩
 | @sl _ _ a cap vs h0 hb hcap hmax hM hc hv =>
  have hdm : ∀ q, q < l.length * τ.size → q / τ.size < l.length ∧ q % τ.size < τ.size ∧ q / τ.size * τ.size + q % τ.size = q := fun q hq => by
   have h1 := Nat.div_add_mod q τ.size
   rw [Nat.mul_comm] at h1
   exact ⟨(Nat.div_lt_iff_lt_mul h0).2 hq, Nat.mod_lt _ h0, h1⟩
  have hg : ∀ (q : Nat) u, ((List.range (l.length * τ.size)).map fun q => vs (q / τ.size) (q % τ.size))[q]? = some u → q < l.length * τ.size ∧ u = vs (q / τ.size) (q % τ.size) := fun q u hu => by
   obtain ⟨h1, h2⟩ := List.getElem?_eq_some_iff.1 hu
   simp at h1 h2
   exact ⟨h1, h2.symm⟩
  refine ⟨some a, cap, (List.range (l.length * τ.size)).map fun q => vs (q / τ.size) (q % τ.size), rfl, by simp, (fun h => by cases h), fun u hu => ?_, fun a' ha j u hu => ?_, fun i j u hi hj hu => ?_⟩
  ·obtain ⟨q, hq, rfl⟩ := List.mem_map.1 hu
   obtain ⟨g1, g2, _⟩ := hdm q (List.mem_range.1 hq)
   exact (hv _ _ g1 g2).one
  ·injection ha with ha; subst ha
   obtain ⟨hj, rfl⟩ := hg j u hu
   obtain ⟨g1, g2, g3⟩ := hdm j hj
   have h1 := hc _ _ g1 g2
   have h2 := hM _ _ g1 g2
   rw [g3] at h1 h2
   exact ⟨h1, hb _ g1, h2⟩
  ·obtain ⟨hq, rfl⟩ := hg _ u hu
   have e1 : (i * τ.size + j) / τ.size = i := by
    rw [Nat.mul_comm, Nat.mul_add_div h0, Nat.div_eq_of_lt hj, Nat.add_zero]
   have e2 : (i * τ.size + j) % τ.size = j := by
    rw [Nat.mul_comm, Nat.mul_add_mod, Nat.mod_eq_of_lt hj]
   rw [e1, e2]
   exact hv i j hi hj

theorem VD.of_row {M : CM} {τ : Ty} (h0 : 0 < τ.size) {l : List τ.T} {k cap : Nat} {cs : List Value} (hk : k < w.heap.size) (hcap : l.length ≤ cap) (hmax : cap ≤ maxLen) (hlen : cs.length = l.length * τ.size)
  (hM : ∀ j, j < l.length * τ.size → ¬ M k j) (hc : ∀ (j : Nat) u, cs[j]? = some u → w.cell? ⟨k, j, none⟩ = some u)
  (hv : ∀ i j u, i < l.length → j < τ.size → cs[i * τ.size + j]? = some u → VD w M (τ.enc (l.getD i τ.d0) j) u) : VD w M (.sl τ l) (.slice (some ⟨k, 0, none⟩) l.length cap) := by
 have hb : ∀ i j, i < l.length → j < τ.size → i * τ.size + j < l.length * τ.size := fun i j hi hj => by
  have : (i + 1) * τ.size ≤ l.length * τ.size := Nat.mul_le_mul_right _ hi
  rw [Nat.add_mul, Nat.one_mul] at this
  omega
 have hget : ∀ i j, i < l.length → j < τ.size → cs[i * τ.size + j]? = some (cs.getD (i * τ.size + j) undef) := fun i j hi hj => by
  have := hb i j hi hj
  rw [List.getD_eq_getElem?_getD, List.getElem?_eq_getElem (by omega)]
  rfl
 refine .sl (fun i j => cs.getD (i * τ.size + j) undef) h0 (fun _ _ => hk) hcap hmax (fun i j hi hj => ?_) (fun i j hi hj => ?_) (fun i j hi hj => hv i j _ hi hj (hget i j hi hj))
 ·rw [Nat.zero_add]; exact hM _ (hb i j hi hj)
 ·rw [Addr.add_lit, Nat.zero_add]; exact hc _ _ (hget i j hi hj)

theorem getD_append_left' {α : Type _} {l m : List α} {i : Nat} {d : α} (h : i < l.length) : (l ++ m).getD i d = l.getD i d := by
 rw [List.getD_eq_getElem?_getD, List.getD_eq_getElem?_getD, List.getElem?_append_left h]
theorem getD_append_right' {α : Type _} {l m : List α} {i : Nat} {d : α} (h : l.length ≤ i) : (l ++ m).getD i d = m.getD (i - l.length) d := by
 rw [List.getD_eq_getElem?_getD, List.getD_eq_getElem?_getD, List.getElem?_append_right h]

theorem row_append {M : CM} {τ : Ty} {l l' : List τ.T} {cs cs' : List Value} (hl : cs.length = l.length * τ.size) (h1 : ∀ i j u, i < l.length → j < τ.size → cs[i * τ.size + j]? = some u → VD w M (τ.enc (l.getD i τ.d0) j) u)
  (h2 : ∀ i j u, i < l'.length → j < τ.size → cs'[i * τ.size + j]? = some u → VD w M (τ.enc (l'.getD i τ.d0) j) u) :
  ∀ i j u, i < (l ++ l').length → j < τ.size → (cs ++ cs')[i * τ.size + j]? = some u → VD w M (τ.enc ((l ++ l').getD i τ.d0) j) u := by
 intro i j u hi hj hu
 by_cases h : i < l.length
 ·have : (i + 1) * τ.size ≤ l.length * τ.size := Nat.mul_le_mul_right _ h
  rw [Nat.add_mul, Nat.one_mul] at this
  rw [List.getElem?_append_left (by omega)] at hu
  rw [getD_append_left' h]
  exact h1 i j u h hj hu
 ·have hge : l.length * τ.size ≤ i * τ.size := Nat.mul_le_mul_right _ (by omega)
  rw [List.getElem?_append_right (by omega)] at hu
  rw [getD_append_right' (by omega)]
  rw [List.length_append] at hi
  refine h2 (i - l.length) j u (by omega) hj ?_
  rw [← hu, hl, Nat.sub_mul]
  congr 1
  omega

theorem Rel.newRow (R : Rel X β σ a w) {n : Nat} {τ : Ty} (hτ : 0 < τ.size) {l : List τ.T} {cs : List Value} {cap : Nat} {arr : Array Value} {e : Nat} {w' : World}
  (hw : w'.os = w.os ∧ w'.tape = w.tape ∧ w'.output = w.output ∧ w'.heap = w.heap.push (.cells arr e (0, 0)))
  (hob : ∀ o0, look σ.h n = some o0 → o0.isOb = false) (hn : ∀ o0, look σ.h n = some o0 → ∃ u, β.o n = some u ∧ hlen u < l.length)
  (hcap : l.length ≤ cap) (hmax : cap ≤ maxLen) (hlen : cs.length = l.length * τ.size) (harr : arr.size = cap * τ.size) (hcs : arr.toList.take (l.length * τ.size) = cs)
  (hv : ∀ i j u, i < l.length → j < τ.size → cs[i * τ.size + j]? = some u → VD w (Mt β (look σ.h)) (τ.enc (l.getD i τ.d0) j) u) :
  ∃ β' : Bt, Rel X β' { σ with h := (n, .gr e τ.size l.length) :: σ.h } a w' ∧
   VL w' (Mt β' (look ((n, HO.gr e τ.size l.length) :: σ.h))) β' (dm (look ((n, HO.gr e τ.size l.length) :: σ.h))) (.own n (.sl τ l)) (.slice (some ⟨w.heap.size, 0, none⟩) l.length cap) := by
 obtain ⟨w1, w2, w3, w4⟩ := hw
 have hnew : w'.heap[w.heap.size]? = some (.cells arr e (0, 0)) := by rw [w4]; simp
 have hsz : w'.heap.size = w.heap.size + 1 := by rw [w4]; simp
 have hold : ∀ k, k < w.heap.size → w'.heap[k]? = w.heap[k]? := fun k hk => by rw [w4, Array.getElem?_push, if_neg (by omega)]
 obtain ⟨β', h1, h2, h3, h4, h5⟩ := R.set n (.gr e τ.size l.length) hob (some w.heap.size) (some (.slice (some ⟨w.heap.size, 0, none⟩) l.length cap)) (w' := w') w1 w2 w3 (by omega)
  (fun k hk _ => hold k hk) (fun o0 p ho hb _ => cell_of_heap (hold _ (R.hr.lt n _ (by rw [ho]; simp) (.inl hb)))) (fun k hk => by injection hk with hk; subst hk; exact ⟨by omega, .inr (Nat.le_refl _)⟩)
  (fun o0 ho => by
   obtain ⟨u, hu, hlt⟩ := hn o0 ho
   exact ⟨(fun h => by rw [hu] at h; cases h), fun u' hu' => ⟨_, rfl, .inr (by rw [hu] at hu'; injection hu' with hu'; subst hu'; exact hlt)⟩⟩)
  (fun β' g1 g2 hev hbe => .inr ⟨_, cap, arr, g2, g1, hnew, hcap, hmax, harr⟩)
 refine ⟨β', h1, .own (VD.of_row hτ (by omega) hcap hmax hlen (fun j hj hM => ?_) (fun j u hu => ?_) (fun i j u hi hj hu => (hv i j u hi hj hu).evo h4)) ⟨by simp [dm, look_cons], _, h3, Nat.le_refl _, fun _ => rfl⟩⟩
 ·have g3 := h1.hr.only (n := n) (o := .gr e τ.size l.length) (by show look _ n = _; rw [look_cons, if_pos rfl]) rfl h2 hM
  simp only [HO.mut] at g3
  omega
 ·have : cs[j]? = (arr.toList.take (l.length * τ.size))[j]? := by rw [hcs]
  rw [hu, List.getElem?_take] at this
  split at this
  ·simp only [World.cell?, hnew]
   simpa using this.symm
  ·cases this

theorem run_append_nn (t ty e : TypeId) (i : TypeInfo) (ht : P.underlying t = some (.slice e)) (hi : P.info? e = some i) (ad : Option Addr) (n cap : Nat) (h : n ≤ cap) :
  (Builtin.append_ #[t, t] ty #[.slice ad n cap, .slice none 0 0]).run P w = .ok (.slice ad n cap) w := by
 cases ad <;> simp [Builtin.append_, run_underlying ht, sizeOf, typeInfo, hi, Builtin.lenOf, Builtin.firstCells, h, storeCells]

theorem Rel.again (R : Rel X β σ a w) {n : Nat} {o : HO} (hn : look σ.h n = some o) (hob : o.isOb = false) : ∃ β' : Bt, Rel X β' { σ with h := (n, o) :: σ.h } a w ∧ β'.o n = β.o n ∧
  Evo (Mt β (look σ.h)) (Mt β' (look ((n, o) :: σ.h))) w w ∧ BEvo β β' (dm (look σ.h)) (dm (look ((n, o) :: σ.h))) := by
 obtain ⟨β', h1, h2, h3, h4, h5⟩ := R.set n o (fun o0 h => by rw [hn] at h; injection h with h; subst h; exact hob) (β n) (β.o n) (w' := w) rfl rfl rfl (Nat.le_refl _) (fun _ _ _ => rfl) (fun _ _ _ _ _ => rfl)
  (fun k hk => ⟨R.hr.lt n k (by rw [hn]; simp) (.inl hk), .inl ⟨o, hn, hk, fun _ h => h⟩⟩) (fun o0 _ => ⟨fun h => ⟨h, rfl⟩, fun u hu => ⟨u, hu, .inl rfl⟩⟩)
  (fun β' g1 g2 hev hbe => by
   have h := R.hr.blk n o hn
   cases o with
   | cells c => obtain ⟨k, arr, t, h0, h1, h2, h3⟩ := h; exact ⟨k, arr, t, g2.trans h0, g1.trans h1, h2, h3.mono fun _ _ _ h => VL.evo hev hbe h⟩
   | gr t sz len =>
    rcases h with ⟨h0, h1, h2⟩ | ⟨k, cap, arr, h0, h1, h2⟩
    ·exact .inl ⟨g2.trans h0, g1.trans h1, h2⟩
    ·exact .inr ⟨k, cap, arr, g2.trans h0, g1.trans h1, h2⟩
   | mp κ ν l => obtain ⟨k, es, clock, h0, h1, h2, h3⟩ := h; exact ⟨k, es, clock, g2.trans h0, g1.trans h1, h2, h3.mono fun _ _ _ h => ⟨h.1.evo hev, h.2.evo hev⟩⟩
   | vec τ t l =>
    rcases h with ⟨h0, h1, h2⟩ | ⟨k, cap, arr, h0, h1, h2, h3, h4, h5, h6⟩
    ·exact .inl ⟨g2.trans h0, g1.trans h1, h2⟩
    ·exact .inr ⟨k, cap, arr, g2.trans h0, g1.trans h1, h2, h3, h4, h5, fun i j u hi hj hu => (h6 i j u hi hj hu).evo hev⟩
   | frz τ t l =>
    rcases h with ⟨h0, h1, h2⟩ | ⟨k, cap, arr, h0, h1, h2, h3, h4, h5, h6⟩
    ·exact .inl ⟨g2.trans h0, g1.trans h1, h2⟩
    ·exact .inr ⟨k, cap, arr, g2.trans h0, g1.trans h1, h2, h3, h4, h5, fun i j u hi hj hu => (h6 i j u hi hj hu).evo hev⟩
   | fm l => obtain ⟨k, es, clock, h0, h1, h2, h3⟩ := h; exact ⟨k, es, clock, g2.trans h0, g1.trans h1, h2, h3.mono fun _ _ _ h => ⟨h.1.evo hev, VT.evo hev hbe h.2⟩⟩
   | dead m => obtain ⟨u, hu, hm⟩ := h; exact ⟨u, g2.trans hu, hm⟩
   | vh τ t l =>
    obtain ⟨k, cap, arr, h0, h1, h2, h3, h4, h5, h6, h7, h8⟩ := h
    exact ⟨k, cap, arr, g2.trans h0, g1.trans h1, h2, h3, h4, h5, fun i j u hi hj hne hu => (h6 i j u hi hj hne hu).evo hev, h7, fun u hu => (h8 u hu).evo hev hbe⟩
   | it q p => obtain ⟨k, h0, h1, h2⟩ := h; exact ⟨k, g2.trans h0, g1.trans h1, h2⟩
   | ob => cases hob)
 exact ⟨β', h1, h3, h4, h5⟩

theorem Rel.appendG (R : Rel X β σ a w) {t t2 ty e b n : Nat} {τ : Ty} {l l' : List τ.T} {v vx : Value} {i : TypeInfo} {z : Value} (hτ : 0 < τ.size) (hsz : i.size = τ.size) (hby : i.bytes = b)
  (hzs : z.cells.size = τ.size) (hv : VD w (Mt β (look σ.h)) (.sl τ l) v) {cs' : List Value} (hcl' : cs'.length = l'.length * τ.size)
  (hval' : ∀ i j u, i < l'.length → j < τ.size → cs'[i * τ.size + j]? = some u → VD w (Mt β (look σ.h)) (τ.enc (l'.getD i τ.d0) j) u)
  (r0 : l'.length = 0 → ∀ ad m cap, m ≤ cap → (Builtin.append_ #[t, t2] ty #[.slice ad m cap, vx]).run P w = .ok (.slice ad m cap) w)
  (rN : 0 < l'.length → (l'.length : Int) ≤ 9223372036854775807 → l'.length * i.bytes ≤ 281474976710656 → (Builtin.append_ #[t, t2] ty #[.slice none 0 0, vx]).run P w = .ok (.slice (some ⟨w.heap.size, 0, none⟩) l'.length (grownCap w l'.length 0 e))
    (w.drew.alloc (.cells (cs'.toArray ++ Builtin.zeroCells z.cells (grownCap w l'.length 0 e - l'.length)) e)))
  (rR : ∀ k sLen sCap arr, w.heap[k]? = some (.cells arr e (0, 0)) → 0 < l'.length → sLen + l'.length ≤ sCap → sLen * i.size + cs'.length ≤ arr.size → (Builtin.append_ #[t, t2] ty #[.slice (some ⟨k, 0, none⟩) sLen sCap, vx]).run P w =
    .ok (.slice (some ⟨k, 0, none⟩) (sLen + l'.length) sCap) (w.setRow k (arr.toList.take (sLen * i.size) ++ cs' ++ arr.toList.drop (sLen * i.size + cs'.length)).toArray))
  (rG : ∀ (a0 : Addr) sLen sCap (olds : List Value), olds.length = sLen * i.size → (∀ j u, olds[j]? = some u → w.cell? (a0.add j) = some u) → sLen ≤ sCap → sCap < sLen + l'.length → ((sLen + l'.length : Nat) : Int) ≤ 9223372036854775807 →
    Builtin.nextslicecap (sLen + l'.length) sCap * i.bytes ≤ 281474976710656 → (Builtin.append_ #[t, t2] ty #[.slice (some a0) sLen sCap, vx]).run P w = .ok (.slice (some ⟨w.heap.size, 0, none⟩) (sLen + l'.length) (grownCap w (sLen + l'.length) sCap e))
     (w.drew.alloc (.cells (olds.toArray ++ cs'.toArray ++ Builtin.zeroCells z.cells (grownCap w (sLen + l'.length) sCap e - (sLen + l'.length))) e)))
  (hst : (look σ.h n = none ∧ v = .slice none 0 0 ∧ l = []) ∨ (look σ.h n = some (.gr e τ.size l.length) ∧ β.o n = some v)) (hbytes : (l.length + l'.length) * b ≤ 140737488355328) (hb0 : 0 < b) :
  ∃ v' w' β', (Builtin.append_ #[t, t2] ty #[v, vx]).run P w = .ok v' w' ∧ Rel X β' { σ with h := (n, .gr e τ.size (l ++ l').length) :: σ.h } a w' ∧
   VL w' (Mt β' (look ((n, HO.gr e τ.size (l ++ l').length) :: σ.h))) β' (dm (look ((n, HO.gr e τ.size (l ++ l').length) :: σ.h))) (.own n (.sl τ (l ++ l'))) v' := by
 have hbig : l.length + l'.length ≤ 140737488355328 := Nat.le_trans (Nat.le_mul_of_pos_right _ hb0) hbytes
 obtain ⟨ad, cap, cs, hev, hcl, hnil, hone, hcell, hval⟩ := hv.row
 -- nothing comes: all stays
 have stay : l' = [] → (Builtin.append_ #[t, t2] ty #[v, vx]).run P w = .ok v w → ∃ v' w' β', (Builtin.append_ #[t, t2] ty #[v, vx]).run P w = .ok v' w' ∧ Rel X β' { σ with h := (n, .gr e τ.size (l ++ l').length) :: σ.h } a w' ∧
   VL w' (Mt β' (look ((n, HO.gr e τ.size (l ++ l').length) :: σ.h))) β' (dm (look ((n, HO.gr e τ.size (l ++ l').length) :: σ.h))) (.own n (.sl τ (l ++ l'))) v' := by
  intro hl' hrun
  subst hl'
  rw [List.append_nil]
  rcases hst with ⟨h1, rfl, rfl⟩ | ⟨h1, h2⟩
  ·obtain ⟨β', R', hv'⟩ := R.nilOwn h1 e τ.size
   exact ⟨_, w, β', hrun, R', hv' τ⟩
  ·obtain ⟨β', R', g1, g2, g3⟩ := R.again h1 rfl
   exact ⟨v, w, β', hrun, R', .own (hv.evo g2) ⟨by simp [dm, look_cons], v, g1.trans h2, Nat.le_refl _, fun _ => rfl⟩⟩
 have hnew : (cs ++ cs').length = (l ++ l').length * τ.size := by rw [List.length_append, hcl, hcl', List.length_append, Nat.add_mul]
 have hvals := row_append hcl hval hval'
 have hcap0 : l.length ≤ cap := by
  cases hv with
  | nil => exact Nat.zero_le _
  | sl _ _ _ h => injection hev with _ _ h3; rw [← h3]; exact h
 have hcapmax : cap ≤ maxLen := by
  cases hv with
  | nil => injection hev with _ h2 h3; rw [← h3]; exact Nat.zero_le _
  | sl _ _ _ _ h => injection hev with _ _ h3; rw [← h3]; exact h
 have hml : l.length + l'.length ≤ maxLen := by unfold maxLen; omega
 -- a new block
 have grow : ∀ old, old < l.length + l'.length → (∀ o0, look σ.h n = some o0 → ∃ u, β.o n = some u ∧ hlen u < (l ++ l').length) →
   (Builtin.append_ #[t, t2] ty #[v, vx]).run P w = .ok (.slice (some ⟨w.heap.size, 0, none⟩) (l.length + l'.length) (grownCap w (l.length + l'.length) old e))
    (w.drew.alloc (.cells (cs.toArray ++ cs'.toArray ++ Builtin.zeroCells z.cells (grownCap w (l.length + l'.length) old e - (l.length + l'.length))) e)) →
   ∃ v' w' β', (Builtin.append_ #[t, t2] ty #[v, vx]).run P w = .ok v' w' ∧ Rel X β' { σ with h := (n, .gr e τ.size (l ++ l').length) :: σ.h } a w' ∧
   VL w' (Mt β' (look ((n, HO.gr e τ.size (l ++ l').length) :: σ.h))) β' (dm (look ((n, HO.gr e τ.size (l ++ l').length) :: σ.h))) (.own n (.sl τ (l ++ l'))) v' := by
  intro old hold hex hrun
  have hob0 : ∀ o0, look σ.h n = some o0 → o0.isOb = false := fun o0 ho => by
   rcases hst with ⟨h1, _⟩ | ⟨h1, _⟩
   ·rw [h1] at ho; cases ho
   ·rw [h1] at ho; injection ho with ho; subst ho; rfl
  have hge := grownCap_ge w (l.length + l'.length) old e
  have hcm := grownCap_le_maxLen w (l.length + l'.length) old e hml
  rw [← List.length_append] at hrun hge hcm
  obtain ⟨β', R', hv'⟩ := R.newRow (n := n) (e := e) hτ (l := l ++ l') (cs := cs ++ cs') (cap := grownCap w (l ++ l').length old e)
   (arr := cs.toArray ++ cs'.toArray ++ Builtin.zeroCells z.cells (grownCap w (l ++ l').length old e - (l ++ l').length))
   (w' := w.drew.alloc (.cells (cs.toArray ++ cs'.toArray ++ Builtin.zeroCells z.cells (grownCap w (l ++ l').length old e - (l ++ l').length)) e)) ⟨rfl, rfl, rfl, rfl⟩ hob0 hex hge hcm hnew
   (by
    simp only [Array.size_append, List.size_toArray, size_zeroCells, hzs, hcl, hcl', ← Nat.add_mul]
    rw [← List.length_append]
    congr 1
    omega)
   (by
    simp only [Array.toList_append, List.append_assoc]
    rw [← List.append_assoc, ← hnew]
    exact List.take_left) hvals
  exact ⟨_, _, β', hrun, R', hv'⟩
 by_cases hm : l'.length = 0
 ·refine stay (List.eq_nil_of_length_eq_zero hm) ?_
  rw [hev]
  exact r0 hm ad l.length cap hcap0
 ·have hm0 : 0 < l'.length := Nat.pos_of_ne_zero hm
  cases ad with
  | none =>
   obtain ⟨rfl, rfl⟩ := hnil rfl
   have hcs : cs = [] := List.eq_nil_of_length_eq_zero (by simpa using hcl)
   subst hcs
   have hev0 : v = .slice none 0 0 := hev
   have hr := rN hm0 (by omega) (by rw [hby]; simp at hbytes; omega)
   refine grow 0 (by simp; omega) (fun o0 ho => ?_) ?_
   ·rcases hst with ⟨h1, _⟩ | ⟨h1, h2⟩
    ·rw [h1] at ho; cases ho
    ·exact ⟨v, h2, by rw [hev0]; simp [hlen]; omega⟩
   ·rw [hev0, hr]
    simp
  | some ad =>
   rcases hst with ⟨_, h2, _⟩ | ⟨h1, h2⟩
   ·rw [hev] at h2; cases h2
   ·rcases R.hr.blk n _ h1 with ⟨g0, _⟩ | ⟨k, cap2, arr, g0, g1, g2, g3, g4, g5⟩
    ·rw [g0] at h2; injection h2 with h2; rw [hev] at h2; cases h2
    ·have e1 : (.slice (some ⟨k, 0, none⟩) l.length cap2 : Value) = .slice (some ad) l.length cap := Option.some.inj (g0.symm.trans (h2.trans (by rw [hev])))
     injection e1 with e1 e2 e3
     injection e1 with e1
     subst e1 e3
     have hc0 : ∀ j u, cs[j]? = some u → w.cell? ((⟨k, 0, none⟩ : Addr).add j) = some u := fun j u h => (hcell _ rfl j u h).1
     by_cases hroom : l.length + l'.length ≤ cap2
     ·have hfit : l.length * τ.size + cs'.length ≤ arr.size := by rw [hcl', g5, ← Nat.add_mul]; exact Nat.mul_le_mul_right _ hroom
      have hr := rR k l.length cap2 arr g2 hm0 hroom (by rw [hsz]; exact hfit)
      rw [hsz] at hr
      have htake : arr.toList.take (l.length * τ.size) = cs := by
       refine List.ext_getElem? fun j => ?_
       rw [List.getElem?_take]
       split
       ·rename_i hj
        have hj' : j < cs.length := by omega
        have := hc0 j _ (List.getElem?_eq_getElem hj')
        rw [Addr.add_lit, Nat.zero_add] at this
        simp only [World.cell?, g2] at this
        rw [List.getElem?_eq_getElem hj']
        simpa using this
       ·rw [List.getElem?_eq_none (by omega)]
      rw [htake] at hr
      obtain ⟨w', hw'⟩ : ∃ w', w.setRow k (cs ++ cs' ++ arr.toList.drop (l.length * τ.size + cs'.length)).toArray = w' := ⟨_, rfl⟩
      have hat : w'.heap[k]? = some (.cells (cs ++ cs' ++ arr.toList.drop (l.length * τ.size + cs'.length)).toArray e (0, 0)) := by rw [← hw']; exact setRow_heap w k arr _ e _ g2
      have hoth : ∀ j, j ≠ k → w'.heap[j]? = w.heap[j]? := fun j hj => by rw [← hw']; exact setRow_other w k j _ hj
      have hwsz : w'.heap.size = w.heap.size := by rw [← hw']; simp [World.setRow]
      have hosz : w'.os = w.os ∧ w'.tape = w.tape ∧ w'.output = w.output := by rw [← hw']; exact ⟨rfl, rfl, rfl⟩
      have hlt := R.hr.lt n k (by rw [h1]; simp) (.inl g1)
      rw [hw'] at hr
      have hasz : (cs ++ cs' ++ arr.toList.drop (l.length * τ.size + cs'.length)).toArray.size = cap2 * τ.size := by
       simp only [List.size_toArray, List.length_append, List.length_drop, Array.length_toList]
       omega
      obtain ⟨β', R', q1, q2, q3, q4⟩ := R.set n (.gr e τ.size (l ++ l').length) (fun o0 h => by rw [h1] at h; injection h with h; subst h; rfl) (some k) (some (.slice (some ⟨k, 0, none⟩) (l ++ l').length cap2)) (w' := w') hosz.1 hosz.2.1 hosz.2.2 (by omega)
       (fun j _ hj => hoth j fun e => hj _ h1 (by rw [e]; exact g1))
       (fun o0 p ho hb hm => by
        rw [h1] at ho; injection ho with ho; subst ho
        have hpk : p.block = k := Option.some.inj (hb.symm.trans g1)
        simp only [HO.mut, Nat.not_le] at hm
        simp only [World.cell?, hpk, hat, g2]
        have : (cs ++ cs' ++ arr.toList.drop (l.length * τ.size + cs'.length)).toArray[p.off]? = arr[p.off]? := by
         simp only [List.getElem?_toArray, List.append_assoc]
         rw [List.getElem?_append_left (by omega), ← htake, List.getElem?_take, if_pos hm]
         simp
        rw [this])
       (fun j hj => by
        injection hj with hj; subst hj
        refine ⟨by omega, .inl ⟨_, h1, g1, fun off hm => ?_⟩⟩
        simp only [HO.mut, List.length_append, Nat.add_mul] at hm ⊢
        omega)
       (fun o0 _ => ⟨(fun h => by rw [g0] at h; cases h), fun u hu => by
        rw [g0] at hu; injection hu with hu; subst hu
        refine ⟨_, rfl, ?_⟩
        by_cases hm : l' = []
        ·subst hm; left; rw [List.append_nil]
        ·right
         have := List.length_pos_iff.2 hm
         simp only [hlen, List.length_append]; omega⟩)
       (fun β' p1 p2 hev hbe => .inr ⟨k, cap2, _, p2, p1, hat, by rw [List.length_append]; exact hroom, g4, hasz⟩)
      refine ⟨_, w', β', by rw [hev]; exact hr, R', ?_⟩
      have hfin : VD w' (Mt β' (look ((n, HO.gr e τ.size (l ++ l').length) :: σ.h))) (.sl τ (l ++ l')) (.slice (some ⟨k, 0, none⟩) (l ++ l').length cap2) := by
       refine VD.of_row hτ (by omega) (by rw [List.length_append]; exact hroom) g4 hnew (fun j hj hM => ?_) (fun j u hu => ?_) (fun i j u hi hj hu => (hvals i j u hi hj hu).evo q3)
       ·have p3 := R'.hr.only (n := n) (o := .gr e τ.size (l ++ l').length) (by show look _ n = _; rw [look_cons, if_pos rfl]) rfl q1 hM
        simp only [HO.mut] at p3
        omega
       ·have hj : j < (cs ++ cs').length := (List.getElem?_eq_some_iff.1 hu).1
        simp only [World.cell?, hat]
        simp only [Option.isSome_none, Bool.false_eq_true, if_false, List.getElem?_toArray]
        rw [List.getElem?_append_left hj]
        exact hu
      have e : (.slice (some ⟨k, 0, none⟩) (l.length + l'.length) cap2 : Value) = .slice (some ⟨k, 0, none⟩) (l ++ l').length cap2 := by rw [List.length_append]
      rw [e]
      exact .own hfin ⟨by simp [dm, look_cons], _, q2, Nat.le_refl _, fun _ => rfl⟩
     ·have hr := rG ⟨k, 0, none⟩ l.length cap2 cs (by rw [hcl, hsz]) hc0 hcap0 (by omega) (by omega) (growslice_fits (by omega) (by rw [hby]; exact hbytes))
      refine grow cap2 (by omega) (fun o0 _ => ⟨v, h2, ?_⟩) (by rw [hev]; exact hr)
      rw [hev, List.length_append]; simp only [hlen]; omega

theorem Rel.append (R : Rel X β σ a w) {t ty e b n : Nat} {τ : Ty} {l l' : List τ.T} {v vx : Value} {i : TypeInfo} {z : Value} (hu : P.underlying t = some (.slice e)) (hτ : 0 < τ.size) (hi : P.info? e = some i) (hsz : i.size = τ.size) (hby : i.bytes = b)
  (hz : i.zero = some z) (hzs : z.cells.size = τ.size) (hv : VD w (Mt β (look σ.h)) (.sl τ l) v) (hx : VD w (Mt β (look σ.h)) (.sl τ l') vx)
  (hst : (look σ.h n = none ∧ v = .slice none 0 0 ∧ l = []) ∨ (look σ.h n = some (.gr e τ.size l.length) ∧ β.o n = some v)) (hbytes : (l.length + l'.length) * b ≤ 140737488355328) (hb0 : 0 < b) :
  ∃ v' w' β', (Builtin.append_ #[t, t] ty #[v, vx]).run P w = .ok v' w' ∧ Rel X β' { σ with h := (n, .gr e τ.size (l ++ l').length) :: σ.h } a w' ∧
   VL w' (Mt β' (look ((n, HO.gr e τ.size (l ++ l').length) :: σ.h))) β' (dm (look ((n, HO.gr e τ.size (l ++ l').length) :: σ.h))) (.own n (.sl τ (l ++ l'))) v' := by
 obtain ⟨ad', cap', cs', hev', hcl', hnil', hone', hcell', hval'⟩ := hx.row
 have hlc : l'.length ≤ cap' := by
  cases hx with
  | nil => exact Nat.zero_le _
  | sl _ _ _ h => injection hev' with _ _ h3; rw [← h3]; exact h
 subst hev'
 cases ad' with
 | none =>
  obtain ⟨rfl, rfl⟩ := hnil' rfl
  exact R.appendG (b := b) (z := z) hτ hsz hby hzs hv hcl' hval' (fun _ ad m cap h => run_append_nn t ty e i hu hi ad m cap h) (fun h => absurd h (by simp)) (fun _ _ _ _ _ h => absurd h (by simp)) (fun _ _ _ _ _ _ h1 h2 => absurd h2 (by simp only [List.length_nil, Nat.add_zero]; omega)) hst hbytes hb0
 | some a' =>
  have hc' : ∀ j u, cs'[j]? = some u → w.cell? (a'.add j) = some u := fun j u h => (hcell' a' rfl j u h).1
  refine R.appendG (b := b) (z := z) hτ hsz hby hzs hv hcl' hval' (fun h0 ad m cap h => ?_) (fun h0 h1 h2 => run_append_nil (P := P) w t ty e i z hu hi hz a' l'.length cap' cs' (by rw [hcl', hsz]) hc' h0 h1 h2)
   (fun k sLen sCap arr hk _ h1 h2 => run_append_room (P := P) w t ty e i hu hi k sLen sCap arr hk a' l'.length cap' cs' (by rw [hcl', hsz]) hc' hone' h1 h2)
   (fun a0 sLen sCap olds h1 h2 _ h3 h4 h5 => run_append_grow (P := P) w t ty e i z hu hi hz a0 sLen sCap olds h1 h2 a' l'.length cap' cs' (by rw [hcl', hsz]) hc' h3 h4 h5) hst hbytes hb0
  have hcs : cs' = [] := List.eq_nil_of_length_eq_zero (by rw [hcl', h0, Nat.zero_mul])
  subst hcs
  cases ad <;> simp [Builtin.append_, run_underlying hu, sizeOf, typeInfo, hi, Builtin.lenOf, Builtin.firstCells, h0, h, loadCells, loadCellsFrom, storeCells]

theorem good_append (hL : LOk P L) (R : Rel X β σ a w) {o : Oper} {args : Array Operand} {ts : Array TypeId} {p q : Operand} {s x : TV} (ho : o.op = .call { callee := .builtin .append, args := args, argTypes := ts }) (hargs : args.toList = [p, q])
  (hs : VT w (Mt β (look σ.h)) β (dm (look σ.h)) s (a.eval p)) (hx : VT w (Mt β (look σ.h)) β (dm (look σ.h)) x (a.eval q)) {r : Res} (h : appendA L (look σ.h) ts.toList o.dst s x = some r) (hc : ∀ c ∈ r.c, c) : OpGood P X σ a w o r := by
 have hargs' : args = #[p, q] := by rw [← Array.toArray_toList (xs := args), hargs]
 unfold appendA at h
 split at h
 ·rename_i t t' hts
  split at h
  ·rename_i htt
   subst htt
   have hts' : ts = #[t, t] := by rw [← Array.toArray_toList (xs := ts), hts]
   have hexec : ∀ {v : Value} {w' : World}, (Builtin.append_ #[t, t] o.type #[a.eval p, a.eval q]).run P w = .ok v w' → (execOp a.eval o).run P w = .ok (.value v) w' := fun hr => by
    simp only [execOp, ho, hargs', hts', resolve, invoke, builtin, Sem.run_bind, Sem.run_pure, Result.andThen_ok, List.map_toArray, List.map_cons, List.map_nil, hr]
   split at h
   ·rename_i y hy
    split at h
    ·rename_i τ e b x' hety hxst
     obtain ⟨hu, hτ, _, hb0, i, z, hi, hsz, hby, hz, hzs⟩ := (hL t y hy).ety τ e b hety
     have hxv : VD w (Mt β (look σ.h)) x' (a.eval q) := by
      have := TV.st_sound hx
      rw [hxst] at this
      cases this with | d h => exact h
     split at h
     ·rename_i l' n σ' l hl'
      split at h
      ·rename_i hh e' sz len hsame hgr
       subst hh
       split at h
       ·rename_i hes
        obtain ⟨rfl, rfl⟩ := hes
        obtain rfl := Option.some.inj h
        have hlen : l.length = len := hc _ (by simp)
        have hbytes : (len + l'.length) * b ≤ 140737488355328 := hc ((len + l'.length) * b ≤ 140737488355328) (by simp)
        subst hlen
        cases hs with
        | own hsv hov =>
         obtain ⟨_, u, hu1, hu2, hu3⟩ := hov
         have hlv : hlen (a.eval p) = l.length := by
          obtain ⟨ad, cap, _, hev, _⟩ := hsv.row
          rw [hev]; rfl
         have hcur : a.eval p = u := by
          refine hu3 ?_
          rcases R.hr.blk n _ hgr with ⟨g0, _, g2⟩ | ⟨k, c, arr, g0, _⟩
          ·rw [g0] at hu1; injection hu1 with hu1; subst hu1
           rw [hlv, g2]; rfl
          ·rw [g0] at hu1; injection hu1 with hu1; subst hu1
           rw [hlv]; rfl
         obtain ⟨v', w', β', r1, r2, r3⟩ := R.append (ty := o.type) hu hτ hi hsz hby hz hzs hsv (asL_sound hl' hxv) (.inr ⟨hgr, by rw [hcur]; exact hu1⟩) hbytes hb0
         rw [List.length_append] at r2 r3
         exact ⟨_, w', β', v', hexec r1, .inl rfl, r2, r3, by simp⟩
       ·cases h
      ·cases h
     ·rename_i l' s' hl'
      split at h
      ·rename_i d hnil hd
       split at h
       ·rename_i hn
        obtain rfl := Option.some.inj h
        have hbytes : l'.length * b ≤ 140737488355328 := hc _ (by simp)
        cases hs with
        | d hs =>
         have hv0 : a.eval p = .slice none 0 0 := by
          generalize a.eval p = vp at hs
          unfold isNil at hnil
          split at hnil
          ·cases hs with
           | nil => rfl
           | sl _ h0 => exact absurd h0 (Nat.lt_irrefl _)
          ·cases hnil
         obtain ⟨v', w', β', r1, r2, r3⟩ := R.append (ty := o.type) (n := rm d) (l := []) hu hτ hi hsz hby hz hzs (by rw [hv0]; exact .nil) (asL_sound hl' hxv) (.inl ⟨hn, hv0, rfl⟩) (by simpa using hbytes) hb0
         exact ⟨_, w', β', v', hexec r1, .inl rfl, r2, r3, by simp⟩
       ·cases h
      ·cases h
     ·cases h
    ·cases h
   ·cases h
  ·cases h
 ·cases h

theorem strB_len (q : ByteArray) : (strB q).length = q.size := by unfold strB; simp
theorem good_appendS (hL : LOk P L) (R : Rel X β σ a w) {o : Oper} {args : Array Operand} {ts : Array TypeId} {p q : Operand} {s x : TV} (ho : o.op = .call { callee := .builtin .append, args := args, argTypes := ts }) (hargs : args.toList = [p, q])
  (hs : VT w (Mt β (look σ.h)) β (dm (look σ.h)) s (a.eval p)) (hx : VT w (Mt β (look σ.h)) β (dm (look σ.h)) x (a.eval q)) {r : Res} (h : appendS L (look σ.h) ts.toList o.dst s x = some r) (hc : ∀ c ∈ r.c, c) : OpGood P X σ a w o r := by
 have hargs' : args = #[p, q] := by rw [← Array.toArray_toList (xs := args), hargs]
 unfold appendS at h
 split at h
 ·rename_i t t' hts
  have hts' : ts = #[t, t'] := by rw [← Array.toArray_toList (xs := ts), hts]
  have hexec : ∀ {v : Value} {w' : World}, (Builtin.append_ #[t, t'] o.type #[a.eval p, a.eval q]).run P w = .ok v w' → (execOp a.eval o).run P w = .ok (.value v) w' := fun hr => by
   simp only [execOp, ho, hargs', hts', resolve, invoke, builtin, Sem.run_bind, Sem.run_pure, Result.andThen_ok, List.map_toArray, List.map_cons, List.map_nil, hr]
  split at h
  ·rename_i y y' hy hy'
   split at h
   ·rename_i e b str hety
    obtain ⟨hu, hτ, _, hb0, i, z, hi, hsz, hby, hz, hzs⟩ := (hL t y hy).ety _ e b hety
    have hxv : a.eval q = .string str := by
     generalize a.eval q = vq at hx
     cases hx with | d h => cases h; rfl
    split at h
    ·rename_i hsk
     have hu' := (hL t' y' hy').sk.1 hsk.2
     have go : ∀ {n : Nat} {l : List Int} {v : Value}, VD w (Mt β (look σ.h)) (.sl (.ti .u8) l) v → ((look σ.h n = none ∧ v = .slice none 0 0 ∧ l = []) ∨ (look σ.h n = some (.gr e 1 l.length) ∧ β.o n = some v)) → (l.length + (strB str).length) * b ≤ 140737488355328 →
       ∃ v' w' β', (Builtin.append_ #[t, t'] o.type #[v, .string str]).run P w = .ok v' w' ∧ Rel X β' { σ with h := (n, .gr e 1 (l ++ strB str).length) :: σ.h } a w' ∧
        VL w' (Mt β' (look ((n, HO.gr e 1 (l ++ strB str).length) :: σ.h))) β' (dm (look ((n, HO.gr e 1 (l ++ strB str).length) :: σ.h))) (.own n (.sl (.ti .u8) (l ++ strB str))) v' := by
      intro n l v hv hst hbytes
      have hsl : @List.length (Ty.T (.ti .u8)) (strB str) = str.size := strB_len str
      have hi1 : i.size = 1 := hsz
      have hcs : (Lib.strCells str).length = @List.length (Ty.T (.ti .u8)) (strB str) := by rw [Lib.strCells_length, hsl]
      have hdat : (Lib.strCells str).toArray = str.data.map (fun b => Value.int .u8 b.toNat) := by apply Array.ext'; simp [Lib.strCells]
      refine R.appendG (τ := .ti .u8) (l' := strB str) (cs' := Lib.strCells str) (b := b) (z := z) hτ hsz hby hzs hv (by rw [hcs]; exact (Nat.mul_one _).symm) (fun j k u hj hk hu => ?_) (fun h0 ad m cap hm => ?_) (fun h0 h1 h2 => ?_) (fun k sLen sCap arr hk h0 h1 h2 => ?_) (fun a0 sLen sCap olds h1 h2 _ h3 h4 h5 => ?_) hst hbytes hb0
      ·have hk0 : k = 0 := by simp only [Ty.size] at hk; omega
       subst hk0
       have e1 : j * (Ty.ti .u8).size + 0 = j := Nat.mul_one j
       rw [e1] at hu
       have hj' : j < str.data.toList.length := by
        have h1 : j < @List.length (Ty.T (.ti .u8)) (strB str) := hj
        rw [hsl] at h1
        have hsz2 : str.data.toList.length = str.size := by simp
        omega
       have hu2 : u = .int .u8 (str.data.toList[j]).toNat := by
        have : (Lib.strCells str)[j]? = some (.int .u8 (str.data.toList[j]).toNat) := by simp [Lib.strCells, List.getElem?_map, List.getElem?_eq_getElem hj']
        rw [this] at hu; injection hu with hu; exact hu.symm
       have hg : (strB str).getD j (0 : Int) = ((str.data.toList[j]).toNat : Int) := by
        rw [List.getD_eq_getElem?_getD]
        unfold strB
        rw [List.getElem?_map, List.getElem?_eq_getElem hj']; rfl
       have hg' : (Ty.ti .u8).enc ((strB str).getD j (0 : Int)) 0 = .lit (.int .u8 ((str.data.toList[j]).toNat : Int)) := by rw [hg]; rfl
       rw [hu2]
       show VD w _ ((Ty.ti .u8).enc ((strB str).getD j (0 : Int)) 0) _
       rw [hg']
       exact .lit rfl
      ·have h1 : str.size = 0 := by rw [← hsl]; exact h0
       have h2 : Lib.strCells str = [] := List.eq_nil_of_length_eq_zero (by rw [hcs]; exact h0)
       have h3 := Lib.run_firstCells_string (P := P) w i.size str
       cases ad <;> simp [Builtin.append_, run_underlying hu, run_underlying hu', sizeOf, typeInfo, hi, Builtin.lenOf, h1, hm, Builtin.firstCells, storeCells, ByteArray.extract, ByteArray.copySlice]
      ·rw [hsl] at h0 h1 h2 ⊢
       rw [hdat]
       exact run_append_nil_string (P := P) w t t' o.type e i z hu hu' hi hz str h0 h1 h2
      ·rw [hsl] at h1 ⊢
       rw [hcs, hsl] at h2 ⊢
       rw [hi1, Nat.mul_one] at h2 ⊢
       exact Lib.run_append_room_string (P := P) w t t' o.type e i hu hu' hi hi1 k sLen sCap arr hk str h1 h2
      ·rw [hsl] at h3 h4 h5 ⊢
       exact Lib.run_append_grow_string (P := P) w t t' o.type e i z hu hu' hi hz a0 sLen sCap olds h1 h2 str h3 h4 h5
     split at h
     ·rename_i n l
      split at h
      ·rename_i e' sz len hgr
       split at h
       ·rename_i hes
        obtain ⟨rfl, rfl⟩ := hes
        obtain rfl := Option.some.inj h
        have hlen : (show List Int from l).length = len := hc _ (.head _)
        have hbytes : (len + (strB str).length) * b ≤ 140737488355328 := hc _ (.tail _ (.head _))
        subst hlen
        cases hs with
        | own hsv hov =>
         obtain ⟨_, u, hu1, hu2, hu3⟩ := hov
         have hlv : hlen (a.eval p) = (show List Int from l).length := by
          obtain ⟨ad, cap, _, hev, _⟩ := hsv.row
          rw [hev]; rfl
         have hcur : a.eval p = u := by
          refine hu3 ?_
          rcases R.hr.blk n _ hgr with ⟨g0, _, g2⟩ | ⟨k, c, arr, g0, _⟩
          ·rw [g0] at hu1; injection hu1 with hu1; subst hu1
           rw [hlv, g2]; rfl
          ·rw [g0] at hu1; injection hu1 with hu1; subst hu1
           rw [hlv]; rfl
         obtain ⟨v', w', β', r1, r2, r3⟩ := go hsv (.inr ⟨hgr, by rw [hcur]; exact hu1⟩) hbytes
         have hla : ((show List Int from l) ++ strB str).length = (show List Int from l).length + (strB str).length := List.length_append
         have r2' : Rel X β' { σ with h := (n, .gr e' 1 ((show List Int from l).length + (strB str).length)) :: σ.h } a w' := hla ▸ r2
         have r3' : VL w' (Mt β' (look ((n, HO.gr e' 1 ((show List Int from l).length + (strB str).length)) :: σ.h))) β' (dm (look ((n, HO.gr e' 1 ((show List Int from l).length + (strB str).length)) :: σ.h))) (.own n (.sl (.ti .u8) ((show List Int from l) ++ strB str))) v' := hla ▸ r3
         rw [← hxv] at r1
         exact ⟨_, w', β', v', hexec r1, .inl rfl, r2', r3', by simp⟩
       ·cases h
      ·cases h
     ·rename_i s'
      split at h
      ·rename_i d hnil hd
       split at h
       ·rename_i hn
        obtain rfl := Option.some.inj h
        have hbytes : (strB str).length * b ≤ 140737488355328 := hc _ (by simp)
        cases hs with
        | d hs =>
         have hv0 : a.eval p = .slice none 0 0 := by
          generalize a.eval p = vp at hs
          unfold isNil at hnil
          split at hnil
          ·cases hs with
           | nil => rfl
           | sl _ h0 => exact absurd h0 (Nat.lt_irrefl _)
          ·cases hnil
         obtain ⟨v', w', β', r1, r2, r3⟩ := go (n := rm d) (l := []) (v := a.eval p) (by rw [hv0]; exact .nil) (.inl ⟨hn, hv0, rfl⟩) (by simpa using hbytes)
         rw [← hxv] at r1
         exact ⟨_, w', β', v', hexec r1, .inl rfl, r2, r3, by simp⟩
       ·cases h
      ·cases h
     ·cases h
    ·cases h
   ·cases h
  ·cases h
 ·cases h

theorem good_mlen (hL : LOk P L) (R : Rel X β σ a w) (hG : GOk a G) {o : Oper} {args : Array Operand} {ts : Array TypeId} (ho : o.op = .call { callee := .builtin .len, args := args, argTypes := ts })
  {n : Nat} (hx : mapT (opT G σ) args.toList = some [.one (.mp n)]) {r : Res} (h : mapLen L (look σ.h) ts.toList n = some r) : OpGood P X σ a w o r := by
 unfold mapLen at h
 split at h
 ·rename_i t hts
  split at h
  ·rename_i y hy
   split at h
   ·rename_i q κ ν l hq hn
    obtain rfl := Option.some.inj h
    obtain ⟨kt, et, _, hu, _⟩ := (hL t y hy).mpt q.1 q.2 hq
    obtain ⟨v, hv, hx⟩ := (mapT_sound R hG hx).one_left
    obtain ⟨k, es, clock, h0, h1, h2, h3⟩ := R.hr.blk n _ hn
    have hvs' : args.map a.eval = #[v] := by rw [← Array.toArray_toList (xs := args.map a.eval)]; simp [hv]
    have hts' : ts = #[t] := by rw [← Array.toArray_toList (xs := ts), hts]
    cases hx with
    | mp g1 g2 g3 =>
     obtain rfl := Option.some.inj (h1.symm.trans g3)
     refine OpGood.pure R (v := .int .i64 l.length) ?_ rfl (VT.lit rfl) (by simp)
     have hl : l.length = es.size := by simpa using h3.length
     have hget : (getObj k).run P w = .ok (.map es clock) w := by simp [getObj, Sem.run, h2]
     simp [execOp, ho, resolve, invoke, builtin, hvs', hts', Builtin.len_, run_underlying hu, goInt, hget, hl, Result.andThen]
   ·cases h
  ·cases h
 ·cases h

theorem good_builtin' (hL : LOk P L) (R : Rel X β σ a w) (hG : GOk a G) {o : Oper} {b : Builtin} {args : Array Operand} {ts : Array TypeId} (ho : o.op = .call { callee := .builtin b, args := args, argTypes := ts })
  {xs : List TV} (hxs : mapT (opT G σ) args.toList = some xs) {r : Res} (h : builtinA L b ts.toList (stT xs) = some r) (hc : ∀ c ∈ r.c, c) : OpGood P X σ a w o r := by
   have hall0 := mapT_sound R hG hxs
   have hall := stT_sound hall0
   have hargs : (args.map a.eval).toList = args.toList.map a.eval := by simp
   rw [← hargs] at hall
   generalize hvs : args.map a.eval = vs at *
   generalize stT xs = xs at *
   unfold builtinA at h
   split at h
   ·rename_i t τ l hts
    split at h
    ·rename_i y hy
     split at h
     ·rename_i s hel
      obtain rfl := Option.some.inj h
      obtain ⟨e, hu, _, _⟩ := (hL t y hy).el s hel
      obtain ⟨v, hv, hx⟩ := hall.one_left
      have hvs' : vs = #[v] := by
       rw [← Array.toArray_toList (xs := vs), hv]
      have hts' : ts = #[t] := by
       rw [← Array.toArray_toList (xs := ts), hts]
      cases hx with
      | d hx =>
       have hlen : ∃ ad c, v = .slice ad l.length c ∧ l.length ≤ maxLen := by
        cases hx with
        | nil => exact ⟨none, 0, rfl, Nat.zero_le _⟩
        | sl _ _ _ hcap hmax => exact ⟨_, _, rfl, Nat.le_trans hcap hmax⟩
       obtain ⟨ad, c, rfl, hle⟩ := hlen
       refine OpGood.pure R (v := .int .i64 l.length) ?_ rfl (VT.lit rfl) ?_
       ·simp [execOp, ho, resolve, invoke, builtin, hvs, hvs', hts', Builtin.len_, run_underlying hu, goInt]
       ·intro p hp
        simp only [List.mem_singleton] at hp
        rw [hp]
        unfold maxLen at hle
        omega
     ·cases h
    ·cases h
   ·rename_i t q hts
    split at h
    ·rename_i y hy
     split at h
     ·rename_i hsk
      obtain rfl := Option.some.inj h
      have hu := (hL t y hy).sk.1 hsk
      obtain ⟨v, hv, hx⟩ := hall.one_left
      have hvs' : vs = #[v] := by
       rw [← Array.toArray_toList (xs := vs), hv]
      have hts' : ts = #[t] := by
       rw [← Array.toArray_toList (xs := ts), hts]
      cases hx with
      | d hx =>
       cases hx
       refine OpGood.pure R (v := .int .i64 q.size) ?_ rfl (VT.lit rfl) (by simp)
       simp [execOp, ho, resolve, invoke, builtin, hvs, hvs', hts', Builtin.len_, run_underlying hu, goInt]
     ·cases h
    ·cases h
   ·rename_i k x k' y
    obtain rfl := Option.some.inj h
    obtain ⟨u, v, hv, hx, hy⟩ := hall.two_left
    have hvs' : vs = #[u, v] := by rw [← Array.toArray_toList (xs := vs), hv]
    rw [VT.int hx, VT.int hy] at hvs'
    refine OpGood.pure R (v := .int k (if y > x then y else x)) ?_ rfl (VT.lit rfl) (by simp)
    simp [execOp, ho, resolve, invoke, builtin, hvs, hvs', run_max_int2]
   ·rename_i k x k' y
    obtain rfl := Option.some.inj h
    obtain ⟨u, v, hv, hx, hy⟩ := hall.two_left
    have hvs' : vs = #[u, v] := by rw [← Array.toArray_toList (xs := vs), hv]
    rw [VT.int hx, VT.int hy] at hvs'
    refine OpGood.pure R (v := .int k (if y < x then y else x)) ?_ rfl (VT.lit rfl) (by simp)
    simp [execOp, ho, resolve, invoke, builtin, hvs, hvs', run_min_int2]
   ·cases h

theorem good_builtin (hL : LOk P L) (R : Rel X β σ a w) (hG : GOk a G) {o : Oper} {b : Builtin} {args : Array Operand} {ts : Array TypeId} (ho : o.op = .call { callee := .builtin b, args := args, argTypes := ts })
  {r : Res} (h : aBuiltin L G σ b ts.toList args.toList o.dst = some r) (hc : ∀ c ∈ r.c, c) : OpGood P X σ a w o r := by
 unfold aBuiltin at h
 split at h
 ·rename_i xs hxs
  have hall0 := mapT_sound R hG hxs
  split at h
  ·split at h
   ·rename_i s x
    obtain ⟨u, v, hm, h1, h2⟩ := hall0.two_left
    obtain ⟨p, q, hpq, rfl, rfl⟩ : ∃ p q, args.toList = [p, q] ∧ a.eval p = u ∧ a.eval q = v := by
     match hl : args.toList, hm with
     | [p, q], hm => simp at hm; exact ⟨p, q, rfl, hm⟩
    split at h
    ·rename_i r' hr'
     obtain rfl := Option.some.inj h
     exact good_append hL R ho hpq h1 h2 hr' hc
    ·exact good_appendS hL R ho hpq h1 h2 h hc
   ·cases h
  ·split at h
   ·exact good_mlen hL R hG ho hxs h
   ·exact good_builtin' hL R hG ho hxs h hc
  ·exact good_builtin' hL R hG ho hxs h hc
 ·cases h

/-! a function's contract, and what it says of the function -/
def upd (hp : Nat → Option HO) (up : List (Nat × HO)) (n : Nat) : Option HO := match look up.reverse n with | some x => some x | none => hp n

structure FnPost (hp hp' : Nat → Option HO) (β : Bt) (r : AV) (w w' : World) (v : Value) : Prop where
 ex : ∃ β' : Bt, BEvo β β' (dm hp) (dm hp') ∧ (∀ k off, β.m k off → β'.m k off) ∧ HR β' hp' w' ∧ VA w' (Mt β' hp') β' (dm hp') r v ∧
  (∀ n k, hp' n ≠ none → bk β' n k → (∃ m, hp m ≠ none ∧ bk β m k) ∨ w.heap.size ≤ k) ∧ Evo (Mt β hp) (Mt β' hp') w w'
 fr : Fr (fun k => ∃ n, hp n ≠ none ∧ bk β n k) w w'

structure FnOk (P : Program) (f : FuncId) (con : Con) : Prop where
 enter : ∀ (args : Array Value) (w : World), (callFunc f args).run P w = .ok (.enter f args) w
 call : ∀ (args : List TV) (hp : Nat → Option HO) (fr : Nat) (cs : List Prop) (r : AV) (up : List (Nat × HO)), con args hp fr = some (cs, r, up) → (∀ c ∈ cs, c) →
  ∀ (w : World) (β : Bt) (vals : List Value), β.pr = P → HR β hp w → All2 (VT w (Mt β hp) β (dm hp)) args vals →
   Calls P f vals.toArray w fun e w' => ∃ v, e = .returned v ∧ FnPost hp (upd hp up) β r w w' v

def ConOk (P : Program) (Γ : Nat → Option Con) : Prop := ∀ f con, Γ f = some con → FnOk P f con

theorem look_upds_upd (up h : List (Nat × HO)) : look (upds up h) = upd (look h) up := by
 funext k
 rw [look_upds]
 rfl

structure Wide (F : Fence) : Prop where
 fn : ∀ f, F.fn f
 dp : F.depth = none
 al : F.alive = false
theorem callsIn_of_calls {F : Fence} (hF : Wide F) {n : Nat} {f : FuncId} {args : Array Value} {w : World} {R : Ending → World → Prop} (h : Calls P f args w R) : CallsIn F n P f args w R := by
 have h0 : CallsIn Fence.wide n P f args w R := callsIn_wide.2 h
 obtain ⟨_, h0⟩ := h0
 refine ⟨hF.fn f, fun cs hr => ?_⟩
 obtain ⟨e, w', fr, h1, h2, h3, h4⟩ := h0 cs (room_wide _)
 refine ⟨e, w', fr, h1, ?_, h3, h4⟩
 have hI : Machine.fenced P F = Machine.fenced P Fence.wide := by
  funext m
  unfold Machine.fenced Fence.room
  simp only [hF.dp, hF.al, Fence.wide]
  simp [hF.fn]
 rw [hI]
 exact h2

theorem ptrs_sound {M : CM} {D : Nat → Prop} : ∀ {ps : List (Nat × Nat)} {vs : List Value}, All2 (PV β D) ps vs → All2 (VT w M β D) (ptrs ps) vs
 | [], _, h => by cases h; exact .nil
 | (n, o) :: r, _, h => by cases h with | cons h1 h2 => exact .cons (VL.ptr h1) (ptrs_sound h2)

theorem semAt_call {F : Fence} {ρ : Operand → Value} {o : Oper} {c : Call} (ho : o.op = .call c) : o.semAt F.round ρ = execOp ρ o :=
 Oper.semAt_eq _ _ _ (fun c' h => by rw [ho] at h; cases h)

theorem call_core {F : Fence} (hF : Wide F) {n : Nat} (hpr : X.b0.pr = P) (hΓ : ConOk P Γ) (R : Rel X β σ a w) {o : Oper} {f : Operand} {args : Array Operand} {ts : Array TypeId} (ho : o.op = .call { callee := .value f, args := args, argTypes := ts }) {fr : Nat}
  {fid : Nat} {vf vc : List Value} {con : Con} (hev : a.eval f = .func (.func fid) vf.toArray vc.toArray) (hcon : Γ fid = some con) {xs : List TV} (hall : All2 (VT w (Mt β (look σ.h)) β (dm (look σ.h))) xs (vf ++ (args.toList.map a.eval ++ vc)))
  {cs : List Prop} {rv : AV} {up : List (Nat × HO)} (hr : con xs (look σ.h) fr = some (cs, rv, up)) (hc : ∀ c ∈ cs, c) {next : Act → World → Prop} {Q : Exit → Act → World → Prop}
  (hn : ∀ v w' β', Rel X β' { σ with h := upds up σ.h } a w' → VA w' (Mt β' (look (upds up σ.h))) β' (dm (look (upds up σ.h))) rv v → next (a.put o.dst v) w') : o.wpIn F n P a w next Q := by
 refine ⟨fun _ _ => hF.fn _, ?_⟩
 have hok := hΓ fid con hcon
 have hcall := hok.call _ _ _ _ _ _ hr hc w β _ (R.be.pr.trans hpr) R.hr hall
 rw [semAt_call ho]
 have hrun : (execOp a.eval o).run P w = .ok (.enter fid (vf ++ (args.toList.map a.eval ++ vc)).toArray) w := by
  have ha : vf.toArray ++ args.map a.eval ++ vc.toArray = (vf ++ (args.toList.map a.eval ++ vc)).toArray := by
   apply Array.ext'
   simp
  simp only [execOp, ho, resolve, hev, Deferred.ofValue, Sem.run_bind, Sem.run_pure, Result.andThen_ok, invoke, ha, hok.enter]
 rw [hrun]
 refine ⟨(fun h => by rw [hF.dp] at h; cases h), callsIn_of_calls hF (hcall.mono ?_)⟩
 rintro e w' ⟨v, rfl, hpost⟩
 obtain ⟨β', hb, hbm, hhr, hva, hown, hevo⟩ := hpost.ex
 have hl := look_upds_upd up σ.h
 rw [← hl] at hb hhr hva hown hevo
 refine hn v w' β' (R.evo hevo hb hbm ?_ ?_ ?_ hhr) hva
 ·intro k hk0 hk
  have hlt : k < w.heap.size := (Array.getElem?_eq_some_iff.1 hk).1
  rw [hpost.fr.block k hlt fun ⟨m, hm, hmk⟩ => R.hr.fresh m k 0 hm hmk hk0]
  exact hk
 ·exact R.fr.trans hpost.fr (fun k hk hB => ⟨hB, fun ⟨m, hm, hmk⟩ => by
   rcases R.own m k hm hmk with h | h
   ·exact hB h
   ·exact absurd hk (Nat.not_lt.2 h)⟩)
 ·intro m k hm hk
  rcases hown m k hm hk with ⟨m', h, h'⟩ | h
  ·exact R.own m' k h h'
  ·exact .inr (Nat.le_trans R.fr.size h)
theorem good_call {F : Fence} (hF : Wide F) {n : Nat} (hpr : X.b0.pr = P) (hΓ : ConOk P Γ) (R : Rel X β σ a w) (hG : GOk a G) {o : Oper} {f : Operand} {args : Array Operand} {ts : Array TypeId} (ho : o.op = .call { callee := .value f, args := args, argTypes := ts }) {fr : Nat}
  {r : Res} (h : aCall L Γ G σ f args.toList ts.toList fr = some r) (hc : ∀ c ∈ r.c, c) {next : Act → World → Prop} {Q : Exit → Act → World → Prop}
  (hn : ∀ v w' β', Rel X β' { σ with h := upds r.h σ.h } a w' → VA w' (Mt β' (look (upds r.h σ.h))) β' (dm (look (upds r.h σ.h))) r.v v → next (a.put o.dst v) w') :
  r.f = [] ∧ o.wpIn F n P a w next Q := by
 unfold aCall at h
 split at h
 ·rename_i xs fid fi ca hxs hf
  split at h
  ·rename_i con hcon
   split at h
   ·rename_i cs rv up hr
    obtain rfl := Option.some.inj h
    refine ⟨rfl, ?_⟩
    have hfv := opT_sound R hG hf
    generalize hev : a.eval f = fv at hfv
    cases hfv with
    | @clo _ _ _ vf vc h1 h2 =>
     have hall := (ptrs_sound (w := w) (M := Mt β (look σ.h)) h1).append ((nilTs_sound (L := L) (ts := ts.toList) (stT_sound (mapT_sound R hG hxs))).append (ptrs_sound (w := w) (M := Mt β (look σ.h)) h2))
     exact call_core hF hpr hΓ R ho hev hcon hall hr hc hn
   ·cases h
  ·cases h
 ·cases h
end
end Go.Sy
