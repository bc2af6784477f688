/- Plain numbers: marks, entries, logs. No program in sight. -/
import Derived.Test.YtfbbkknfcmofcaaDoorDq
namespace Go.RatLaw
open Go.Sy
set_option linter.unusedVariables false
set_option linter.unusedSimpArgs false
def rngB (n lo hi : Int) : Bool := decide (lo ≤ n) && decide (n ≤ hi)
def idB (n : Int) : Bool := rngB n 1 1000000
/-- a reader: part, desk, seat -/
abbrev Rd3 := Int × (Int × Int)
def readerB (p d s : Int) : Bool := idB p && rngB d 1 40 && rngB s 1 4
/-- whose marks of a layer can be -/
def byB (y p d s : Int) : Bool :=
  if y = 1 then readerB p d s else if y = 2 then decide (s = 0) && readerB p d 1 else if y = 3 then decide (d = 0) && decide (s = 0) && rngB p 0 99 else if y = 4 then decide (p = 0) && decide (d = 0) && decide (s = 0) else false
def oddC (c : Int) : Bool := decide (c < 32) || decide (c > 126)
def textB (q : ByteArray) : Bool := decide (q.size ≤ 200) && !(strB q).any oddC
def markB (id kind y p d s ver note val : Int) (q : ByteArray) : Bool :=
  byB y p d s && idB id && idB ver && idB note && rngB kind 1 5 && rngB val 0 (if kind = 1 then 2 else 1000) && textB q
/-- the first that is so; -1: none -/
def gidx {α : Type} (p : α → Bool) : List α → Int
  | [] => -1
  | x :: r => if p x then 0 else if gidx p r < 0 then -1 else gidx p r + 1
theorem tnG (x : Nat) : ((x : Int)).toNat = x := Int.toNat_natCast x
theorem dropG {α : Type} (d : α) {l : List α} {x : Nat} (h : x < l.length) : l.drop x = l.getD x d :: l.drop (x + 1) := by
  rw [List.getD_eq_getElem?_getD, List.getElem?_eq_getElem h, Option.getD_some, List.drop_eq_getElem_cons h]
theorem takeG {α : Type} (d : α) {l : List α} {x : Nat} (h : x < l.length) : l.take (x + 1) = l.take x ++ [l.getD x d] := by
  rw [List.take_add_one, List.getD_eq_getElem?_getD, List.getElem?_eq_getElem h]; rfl
theorem memG {α : Type} (d : α) {l : List α} {x : Nat} (h : x < l.length) : l.getD x d ∈ l := by
  rw [List.getD_eq_getElem?_getD, List.getElem?_eq_getElem h]; exact List.getElem_mem h
theorem gidx_ge {α : Type} (p : α → Bool) : ∀ l : List α, -1 ≤ gidx p l
  | [] => by simp [gidx]
  | x :: r => by
    have := gidx_ge p r
    unfold gidx
    split
    · omega
    · split <;> omega
theorem gidx_some {α : Type} {p : α → Bool} (d : α) : ∀ {l : List α} {x : Nat}, x < l.length → (∀ k, k < x → p (l.getD k d) = false) → p (l.getD x d) = true → gidx p l = x
  | a :: l, 0, _, _, h => by simp at h; simp [gidx, h]
  | a :: l, x + 1, hx, hn, h => by
    have h0 := hn 0 (by omega)
    simp at h0 h hx
    have ih := gidx_some d (p := p) (l := l) (x := x) (by omega) (fun k hk => by have := hn (k + 1) (by omega); simpa using this) (by simpa using h)
    simp only [gidx, h0, ih]
    rw [if_neg (by simp), if_neg (by omega)]
    push_cast; rfl
theorem gidx_none {α : Type} {p : α → Bool} (d : α) : ∀ {l : List α}, (∀ k, k < l.length → p (l.getD k d) = false) → gidx p l = -1
  | [], _ => rfl
  | a :: l, hn => by
    have h0 := hn 0 (by simp)
    simp at h0
    have ih := gidx_none d (p := p) (l := l) (fun k hk => by have := hn (k + 1) (by simpa using hk); simpa using this)
    simp [gidx, h0, ih]
theorem gidx_any {α : Type} (p : α → Bool) : ∀ l : List α, decide (gidx p l ≥ 0) = l.any p
  | [] => by simp [gidx]
  | x :: r => by
    have ih := gidx_any p r
    have hg := gidx_ge p r
    unfold gidx
    by_cases h : p x = true
    · simp [h]
    · simp only [h, List.any_cons, Bool.false_eq_true, if_false, Bool.false_or, ← ih]
      split
      · have : ¬ gidx p r ≥ 0 := by omega
        simp [this]
      · rename_i h1
        have e1 : gidx p r + 1 ≥ 0 := by omega
        have e2 : gidx p r ≥ 0 := by omega
        simp [e1, e2]
theorem dec_lo {s : ByteArray} {i : Nat} (h : (s.get! i).toNat < 128) : Utf8.decode s i = ((s.get! i).toNat, 1) := by
  unfold Utf8.decode
  simp only [Nat.add_zero]
  rw [if_pos h]
theorem dec_hi {s : ByteArray} {i : Nat} (h : ¬ (s.get! i).toNat < 128) : 128 ≤ (Utf8.decode s i).1 := by
  unfold Utf8.decode
  simp only [Nat.add_zero]
  rw [if_neg h]
  have e : 128 ≤ Utf8.runeError := by decide
  split
  · split
    · assumption
    · exact e
  · split
    · split
      · rename_i h2
        rw [Bool.and_eq_true] at h2
        have := of_decide_eq_true h2.1
        omega
      · exact e
    · split
      · split
        · rename_i h2
          rw [Bool.and_eq_true] at h2
          have := of_decide_eq_true h2.1
          omega
        · exact e
      · exact e
def rv (v : Value) : Int := match v with
  | .int _ n => n
  | _ => 0
theorem runes_mono (s : ByteArray) : ∀ (b i : Nat) (acc : Array Value), (acc.toList.map rv).any oddC = true → ((Conv.runesFrom s b i acc).toList.map rv).any oddC = true
  | 0, i, acc, h => h
  | b + 1, i, acc, h => by
    unfold Conv.runesFrom
    split
    · refine runes_mono s b _ _ ?_
      rw [Array.toList_push, List.map_append, List.any_append, h]; rfl
    · exact h
theorem runes_any (s : ByteArray) : ∀ (b i : Nat) (acc : Array Value), s.size - i ≤ b → ((Conv.runesFrom s b i acc).toList.map rv).any oddC = ((acc.toList.map rv).any oddC || ((s.data.toList.drop i).map fun x => (x.toNat : Int)).any oddC)
  | 0, i, acc, h => by
    have : s.data.toList.drop i = [] := List.drop_eq_nil_of_le (by have : s.data.toList.length = s.size := rfl; omega)
    rw [this]; simp [Conv.runesFrom]
  | b + 1, i, acc, h => by
    unfold Conv.runesFrom
    by_cases hi : i < s.size
    · rw [if_pos hi]
      have hi' : i < s.data.toList.length := hi
      have hd : s.data.toList.drop i = s.get! i :: s.data.toList.drop (i + 1) := by
        rw [List.drop_eq_getElem_cons hi']
        congr 1
        have h2 : i < s.data.size := hi
        show _ = s.data[i]!
        rw [getElem!_pos s.data i h2]; rfl
      rw [hd]
      by_cases hb : (s.get! i).toNat < 128
      · rw [dec_lo hb]
        simp only
        rw [runes_any s b (i + 1) _ (by omega), Array.toList_push, List.map_append, List.any_append, Bool.or_assoc]
        simp [rv]
      · have hh := dec_hi hb
        have h1 := runes_mono s b (i + (Utf8.decode s i).2) (acc.push (.int .i32 (Int.ofNat (Utf8.decode s i).1))) (by
          rw [Array.toList_push, List.map_append, List.any_append]
          have : oddC (Int.ofNat (Utf8.decode s i).1) = true := by unfold oddC; simp; omega
          simp [rv]
          right; exact this)
        refine Eq.trans h1 ?_
        have h2 : oddC ((s.get! i).toNat : Int) = true := by unfold oddC; simp; omega
        rw [List.map_cons, List.any_cons, h2]; simp
    · rw [if_neg hi]
      have : s.data.toList.drop i = [] := List.drop_eq_nil_of_le (by have : s.data.toList.length = s.size := rfl; omega)
      rw [this]; simp
theorem any_runes (q : ByteArray) : (strR q).any oddC = (strB q).any oddC := by
  have h := runes_any q q.size 0 #[] (by omega)
  have e : strR q = (Conv.runesFrom q q.size 0 #[]).toList.map rv := by
    unfold strR
    apply List.map_congr_left
    intro v _
    cases v <;> rfl
  rw [e, h]
  rfl
/-- an entry: time, kind, a, b, c, digest -/
abbrev En := Int × (Int × (Int × (Int × (Int × Int))))
def en0 : En := (0, (0, (0, (0, (0, 0)))))
def kindB (k a b c g : Int) : Bool :=
  if k = 1 then idB a && idB b && decide (c = 0) && decide (g = 0) else if k = 2 then idB a && decide (b = 0) && decide (c = 0) else
  if k = 3 then rngB a 0 1000 && decide (b = 0) && decide (c = 0) && decide (g = 0) else if k = 4 then decide (a = 0) && decide (b = 0) && decide (c = 0) else
  if k = 5 then idB a && rngB b 1 20000 && idB c && decide (g = 0) else false
def entryB (t k a b c g : Int) : Bool := rngB t 0 1000000000 && kindB k a b c g
def secretB (n : Int) : Bool := rngB n 1 1000000000
/-- least and greatest numbers, and whether there is a digest -/
abbrev Lim := ((Int × Int) × ((Int × Int) × (Int × Int))) × Bool
def kMap : List (Int × Lim) := [(1, (((1, 1000000), ((1, 1000000), (0, 0))), false)), (2, (((1, 1000000), ((0, 0), (0, 0))), true)), (3, (((0, 1000), ((0, 0), (0, 0))), false)), (4, (((0, 0), ((0, 0), (0, 0))), true)), (5, (((1, 1000000), ((1, 20000), (1, 1000000))), false))]
def hiD (g : Int) : Int := g / 4294967296
def loD (g : Int) : Int := g % 4294967296
def intsE (e : En) : List Int := [e.1, e.2.1, e.2.2.1, e.2.2.2.1, e.2.2.2.2.1, hiD e.2.2.2.2.2, loD e.2.2.2.2.2]
def listsE (s : Int) (l : List En) : List (List Int) := [s] :: l.map intsE
def chainE (s : Int) (l : List En) : Int := if l = [] then 0 else chainS (listsE s l)
def entB (e : En) : Bool := entryB e.1 e.2.1 e.2.2.1 e.2.2.2.1 e.2.2.2.2.1 e.2.2.2.2.2
def lastE (l : List En) (k : Nat) : Int := if k = 0 then 0 else (l.getD (k - 1) en0).1
def entsFrom : Int → List En → Bool
  | _, [] => true
  | last, e :: l => entB e && decide (last ≤ e.1) && entsFrom e.1 l
def logB (s : Int) (l : List En) (h : Int) : Bool := idB s && decide (l.length ≤ 5000) && entsFrom 0 l && decide (h = chainE s l)
/-- entries as the machine may hold them -/
def inE (l : List En) : Prop := ∀ e ∈ l, InI64 e.1 ∧ InI64 e.2.1 ∧ InI64 e.2.2.1 ∧ InI64 e.2.2.2.1 ∧ InI64 e.2.2.2.2.1 ∧ 0 ≤ e.2.2.2.2.2 ∧ e.2.2.2.2.2 < 18446744073709551616
def appS (s : Int) (l : List En) (h : Int) (e : En) : (Int × (List En × Int)) × Int :=
  if logB s l h && entB e then
    if l.length = 5000 then ((0, ([], 0)), 2) else if 0 < l.length ∧ e.1 < lastE l l.length then ((0, ([], 0)), 6) else ((s, (l ++ [e], chainE s (l ++ [e]))), 0)
  else ((0, ([], 0)), 1)
def startsB (s : Int) (l : List En) (s' : Int) (l' : List En) : Bool := decide (s = s') && decide (l.length ≤ l'.length) && decide (l = l'.take l.length)
def begS (s : Int) (l : List En) (h s' : Int) (l' : List En) (h' : Int) : Bool × Int := if logB s l h && logB s' l' h' then (startsB s l s' l', 0) else (false, 1)
def sameE (l m : List En) : Bool := decide (l = m)
def sameL (s : Int) (l : List En) (h s' : Int) (l' : List En) (h' : Int) : Bool := decide (h = h') && decide (l.length = l'.length) && startsB s l s' l'
def sealN (id kind y p d s ver note val : Int) (q : ByteArray) (x : Int) : Int := nextS (sumS (strB q)) [x, id, kind, y, p, d, s, ver, note, val]
def sealS (id kind y p d s ver note val : Int) (q : ByteArray) (x : Int) : Int × Int := if markB id kind y p d s ver note val q && secretB x then (sealN id kind y p d s ver note val q x, 0) else (0, 1)
end Go.RatLaw
