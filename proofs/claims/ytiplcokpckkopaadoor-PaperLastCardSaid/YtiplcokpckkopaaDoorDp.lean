/- Plain numbers: digests of bytes and of lists. No program in sight. -/
import Derived.Test.YtiplcokpckkopaaDoorIt
namespace Go.RatLaw
open Go.Sy
def dstep (d b : Int) : Int := IntKind.u64.wrap (xorW .u64 d (IntKind.u64.wrap b) * 1099511628211)
def dig (d : Int) (l : List Int) : Int := l.foldl dstep d
def dig0 : Int := 14695981039346656037
def sumS (l : List Int) : Int := dig dig0 l
def eightB (d : Int) : List Int := (List.range 8).map fun i : Nat => IntKind.u8.wrap (shrW .u64 d (56 - 8 * (i : Int)))
def itoaB (n : Int) : List Int := (Lib.itoa n).map fun b => (b.toNat : Int)
def textL (l : List Int) : List Int := l.flatMap fun n => itoaB n ++ [32]
def textS (d : Int) (l : List Int) : List Int := eightB d ++ textL l
def nextS (d : Int) (l : List Int) : Int := sumS (textS d l)
def lenL (l : List Int) : List Int := (l.length : Int) :: l
def chainS (ll : List (List Int)) : Int := ll.foldl (fun d x => nextS d (lenL x)) dig0
def allI (l : List Int) : Prop := ∀ n ∈ l, InI64 n
def okL (ll : List (List Int)) : Prop := ∀ x ∈ ll, allI x ∧ x.length ≤ 1000000
def fewL (ll : List (List Int)) : Bool := ll.all (fun x => decide (x.length ≤ 40)) && decide (ll.length ≤ 40)
def itoaS (n : Int) : ByteArray := ⟨(Lib.itoa n).toArray⟩
def digsR (n : Int) : Nat → List Int
 | 0 => []
 | k + 1 => if n = 0 then [] else IntKind.u8.wrap (48 + (if Int.tmod n 10 < 0 then -(Int.tmod n 10) else Int.tmod n 10)) :: digsR (Int.tdiv n 10) k
set_option linter.unusedSimpArgs false
set_option linter.unusedVariables false
theorem tn (x : Nat) : ((x : Int)).toNat = x := Int.toNat_natCast x
theorem takeDg {α : Type} (d : α) {l : List α} {x : Nat} (h : x < l.length) : l.take (x + 1) = l.take x ++ [l.getD x d] := by
 rw [List.take_add_one, List.getD_eq_getElem?_getD, List.getElem?_eq_getElem h]; rfl
theorem memDg {α : Type} (d : α) {l : List α} {x : Nat} (h : x < l.length) : l.getD x d ∈ l := by
 rw [List.getD_eq_getElem?_getD, List.getElem?_eq_getElem h]; exact List.getElem_mem h
theorem wrap_i64 {x : Int} (h : InI64 x) : IntKind.i64.wrap x = x := by
 unfold InI64 at h
 simp [IntKind.wrap, IntKind.signed, IntKind.bits]
 omega
theorem wrap_u8 {x : Int} (h0 : 0 ≤ x) (h1 : x < 256) : IntKind.u8.wrap x = x := by
 simp [IntKind.wrap, IntKind.signed, IntKind.bits]
 omega
theorem dig_append (d : Int) (a b : List Int) : dig d (a ++ b) = dig (dig d a) b := List.foldl_append
theorem dig_snoc (d : Int) (a : List Int) (b : Int) : dig d (a ++ [b]) = dstep (dig d a) b := by rw [dig_append]; rfl
theorem sum_append (a b : List Int) : sumS (a ++ b) = dig (sumS a) b := dig_append _ _ _
theorem eight_len (d : Int) : (eightB d).length = 8 := by simp [eightB]
theorem eight_get (d : Int) {x : Nat} (h : x < 8) : (eightB d).getD x 0 = IntKind.u8.wrap (shrW .u64 d (56 - 8 * (x : Int))) := by
 have key : ∀ f : Nat → Int, ((List.range 8).map f).getD x 0 = f x := fun f => by simp [List.getD_eq_getElem?_getD, h]
 exact key _
theorem text_append (a b : List Int) : textL (a ++ b) = textL a ++ textL b := List.flatMap_append
theorem text_snoc (d : Int) (l : List Int) (n : Int) : textS d (l ++ [n]) = textS d l ++ itoaB n ++ [32] := by
 unfold textS
 rw [text_append]
 simp [textL, List.append_assoc]
theorem chain_snoc (l : List (List Int)) (x : List Int) : chainS (l ++ [x]) = nextS (chainS l) (lenL x) := by
 unfold chainS; rw [List.foldl_append, List.foldl_cons, List.foldl_nil]
theorem dec_digits (u : Nat) : ∀ b ∈ Lib.decDigits u, 48 ≤ b.toNat ∧ b.toNat ≤ 57 := by
 induction u using Nat.strongRecOn with
 | _ u ih =>
  intro b hb
  have hd : ∀ v, v < 10 → b = UInt8.ofNat (48 + v) → 48 ≤ b.toNat ∧ b.toNat ≤ 57 := fun v hv e => by
   rw [e, UInt8.toNat_ofNat']; omega
  rw [Lib.decDigits] at hb
  split at hb
  ·rename_i h
   exact hd u h (List.mem_singleton.1 hb)
  ·rename_i h
   rcases List.mem_append.1 hb with hb | hb
   ·exact ih (u / 10) (by omega) b hb
   ·exact hd (u % 10) (by omega) (List.mem_singleton.1 hb)
theorem itoa_ascii (n : Int) : ∀ b ∈ Lib.itoa n, b.toNat < 128 := by
 intro b hb
 unfold Lib.itoa at hb
 split at hb
 ·rcases List.mem_cons.1 hb with h | h
  ·rw [h]; decide
  ·have := dec_digits _ b h; omega
 ·have := dec_digits _ b hb; omega
theorem itoa_size (n : Int) : (itoaS n).size = (itoaB n).length := by unfold itoaS itoaB; simp [ByteArray.size]
theorem itoa_step (n : Int) {p : Nat} (h : p < (itoaB n).length) : Utf8.decode (itoaS n) p = (((itoaB n).getD p 0).toNat, 1) ∧ 0 ≤ (itoaB n).getD p 0 ∧ (itoaB n).getD p 0 < 128 := by
 have hs : p < (itoaS n).size := by rw [itoa_size]; exact h
 have hl : p < (Lib.itoa n).length := by unfold itoaB at h; simpa using h
 have e : (itoaS n)[p]'hs = (Lib.itoa n)[p] := rfl
 have hg : (itoaB n).getD p 0 = ((Lib.itoa n)[p].toNat : Int) := by
  unfold itoaB
  rw [List.getD_eq_getElem?_getD, List.getElem?_map, List.getElem?_eq_getElem hl]; rfl
 have ha := itoa_ascii n _ (List.getElem_mem hl)
 rw [decode_ascii (itoaS n) p hs (by rw [e]; exact ha), e, hg]
 refine ⟨by simp, by omega, by omega⟩
theorem itoa_strB (n : Int) : strB (itoaS n) = itoaB n := by unfold strB itoaS itoaB; simp
theorem digs_take (n : Int) (j k : Nat) : digsR n k = (digsR n (j + k)).take k := by
 induction k generalizing n with
 | zero => simp [digsR]
 | succ k ih =>
  rw [← Nat.add_assoc]
  simp only [digsR]
  split
  ·simp
  ·rw [List.take_succ_cons, ← ih]
theorem digs_zero (k : Nat) : digsR 0 k = [] := by cases k <;> simp [digsR]
theorem tmod_abs (n : Int) : (if Int.tmod n 10 < 0 then -(Int.tmod n 10) else Int.tmod n 10) = ((n.natAbs % 10 : Nat) : Int) := by
 rcases Int.le_total 0 n with h | h
 ·have h1 : Int.tmod n 10 = n % 10 := Int.tmod_eq_emod_of_nonneg h
  rw [h1]; split <;> omega
 ·have h1 : Int.tmod n 10 = -((-n) % 10) := by
   have := Int.tmod_eq_emod_of_nonneg (a := -n) (b := 10) (by omega)
   rw [Int.neg_tmod] at this; omega
  rw [h1]; split <;> omega
theorem tdiv_abs (n : Int) : (Int.tdiv n 10).natAbs = n.natAbs / 10 := by
 rw [Int.natAbs_tdiv]; rfl
theorem digs_rev : ∀ (k : Nat) (n : Int), n ≠ 0 → n.natAbs < 10 ^ k → (digsR n k).reverse = (Lib.decDigits n.natAbs).map fun b => (b.toNat : Int)
 | 0, n, h, hk => by simp at hk; omega
 | k + 1, n, h, hk => by
  have hc : IntKind.u8.wrap (48 + (if Int.tmod n 10 < 0 then -(Int.tmod n 10) else Int.tmod n 10)) = 48 + ((n.natAbs % 10 : Nat) : Int) := by
   rw [tmod_abs]; exact wrap_u8 (by omega) (by omega)
  simp only [digsR]
  rw [if_neg h, hc, List.reverse_cons, Lib.decDigits]
  have hb : ∀ v, v < 10 → ((UInt8.ofNat (48 + v)).toNat : Int) = 48 + (v : Int) := fun v hv => by rw [UInt8.toNat_ofNat']; omega
  by_cases h10 : n.natAbs < 10
  ·have hz : Int.tdiv n 10 = 0 := by
    have := tdiv_abs n; omega
   rw [dif_pos h10, hz, digs_zero]
   simp only [List.reverse_nil, List.nil_append, List.map_cons, List.map_nil, hb _ h10]
   congr 1; omega
  ·have hnz : Int.tdiv n 10 ≠ 0 := by
    have := tdiv_abs n; omega
   rw [dif_neg h10, digs_rev k _ hnz (by rw [tdiv_abs]; rw [Nat.pow_succ] at hk; omega), tdiv_abs, List.map_append]
   simp only [List.map_cons, List.map_nil, hb _ (Nat.mod_lt _ (by omega : 0 < 10))]
theorem bStr_map (l : List UInt8) : bStr (l.map fun b => (b.toNat : Int)) = ⟨l.toArray⟩ := by
 unfold bStr
 rw [List.map_map]
 have : ((fun n : Int => UInt8.ofNat n.toNat) ∘ fun b : UInt8 => (b.toNat : Int)) = id := by funext b; simp
 rw [this, List.map_id]
theorem itoa_rev {n : Int} (h : n ≠ 0) (hk : n.natAbs < 10 ^ 20) : bStr ((digsR n 20 ++ (if n < 0 then [45] else [])).reverse) = itoaS n := by
 have hr := digs_rev 20 n h hk
 unfold itoaS Lib.itoa
 rw [List.reverse_append, hr]
 split
 ·rename_i hn
  have : ([45] : List Int).reverse ++ (Lib.decDigits n.natAbs).map (fun b => (b.toNat : Int)) = ((45 :: Lib.decDigits n.natAbs).map fun b => (b.toNat : Int)) := rfl
  rw [this, bStr_map]
 ·rename_i hn
  have e : n.natAbs = n.toNat := by omega
  rw [e]
  exact bStr_map _
theorem digs_len_le (n : Int) (k : Nat) : (digsR n k).length ≤ k := by
 induction k generalizing n with
 | zero => simp [digsR]
 | succ k ih => simp only [digsR]; split <;> simp [ih]
theorem dec_len (u : Nat) : ∀ k, u < 10 ^ k → (Lib.decDigits u).length ≤ k + 1 := by
 induction u using Nat.strongRecOn with
 | _ u ih =>
  intro k hk
  rw [Lib.decDigits]
  split
  ·simp
  ·rename_i h
   cases k with
   | zero => simp at hk; omega
   | succ k =>
    have := ih (u / 10) (by omega) k (by rw [Nat.pow_succ] at hk; omega)
    simp; omega
theorem itoaB_len {n : Int} (h : InI64 n) : (itoaB n).length ≤ 22 := by
 unfold InI64 at h
 unfold itoaB Lib.itoa
 rw [List.length_map]
 split
 ·have := dec_len n.natAbs 20 (by omega)
  simp; omega
 ·have := dec_len n.toNat 20 (by omega)
  omega
theorem textS_len (d : Int) : ∀ {l : List Int}, allI l → (textS d l).length ≤ 8 + 23 * l.length := by
 intro l h
 unfold textS
 rw [List.length_append, eight_len]
 have : (textL l).length ≤ 23 * l.length := by
  induction l with
  | nil => simp [textL]
  | cons n l ih =>
   have e : textL (n :: l) = itoaB n ++ [32] ++ textL l := by simp [textL]
   have h1 := itoaB_len (h n (.head _))
   have h2 := ih fun m hm => h m (.tail _ hm)
   rw [e]; simp; omega
 omega
theorem allI_take {l : List Int} (h : allI l) (x : Nat) : allI (l.take x) := fun n hn => h n (List.mem_of_mem_take hn)
end Go.RatLaw
