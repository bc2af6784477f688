/- Plain numbers: what digests tell apart. No program in sight. -/
import Derived.Test.YtiplcokpckkopaaDoorDp
namespace Go.RatLaw
open Go.Sy
set_option linter.unusedSimpArgs false
set_option linter.unusedVariables false
def stepV (x : BitVec 64) (b : Int) : BitVec 64 := (x ^^^ BitVec.ofInt 64 b) * 1099511628211#64
def digV (x : BitVec 64) (l : List Int) : BitVec 64 := l.foldl stepV x
theorem wrap_u64 (z : Int) : IntKind.u64.wrap z = z % 18446744073709551616 := by simp [IntKind.wrap, IntKind.signed, IntKind.bits]
theorem ofInt_emod (z : Int) : BitVec.ofInt 64 (z % 18446744073709551616) = BitVec.ofInt 64 z := by
 apply BitVec.eq_of_toInt_eq
 simp only [BitVec.toInt_ofInt]
 exact Int.emod_bmod z 18446744073709551616
theorem step_bv (d b : Int) : dstep d b = ((stepV (BitVec.ofInt 64 d) b).toNat : Int) := by
 unfold dstep stepV xorW
 rw [wrap_u64 b]
 show IntKind.u64.wrap (IntKind.u64.wrap ((BitVec.ofInt 64 d ^^^ BitVec.ofInt 64 (b % 18446744073709551616)).toNat : Int) * 1099511628211) = _
 rw [ofInt_emod]
 generalize BitVec.ofInt 64 d ^^^ BitVec.ofInt 64 b = x
 have hx := x.isLt
 rw [wrap_u64, wrap_u64, BitVec.toNat_mul]
 simp
 omega
theorem ofInt_toNat (x : BitVec 64) : BitVec.ofInt 64 (x.toNat : Int) = x := by simp
theorem dig_bv : ∀ (l : List Int) (x : BitVec 64), dig (x.toNat : Int) l = ((digV x l).toNat : Int)
 | [], x => rfl
 | b :: l, x => by
  have e : dig (x.toNat : Int) (b :: l) = dig (dstep (x.toNat : Int) b) l := rfl
  have e2 : digV x (b :: l) = digV (stepV x b) l := rfl
  rw [e, e2, step_bv, ofInt_toNat, dig_bv l]
def v0 : BitVec 64 := 14695981039346656037#64
theorem sum_bv (l : List Int) : sumS l = ((digV v0 l).toNat : Int) := by
 have : sumS l = dig (v0.toNat : Int) l := by
  unfold sumS
  rw [show dig0 = (v0.toNat : Int) by decide +kernel]
 rw [this, dig_bv]
theorem mul_inj {x y : BitVec 64} (h : x * 1099511628211#64 = y * 1099511628211#64) : x = y := by
 have h2 := congrArg (· * 14886173955864302971#64) h
 simp only [BitVec.mul_assoc] at h2
 rw [show (1099511628211#64 * 14886173955864302971#64 : BitVec 64) = 1#64 by decide +kernel, BitVec.mul_one, BitVec.mul_one] at h2
 exact h2
theorem xor_inj {x y z : BitVec 64} (h : x ^^^ z = y ^^^ z) : x = y := by
 have h2 := congrArg (· ^^^ z) h
 simpa [BitVec.xor_assoc] using h2
theorem step_inj {x y : BitVec 64} {b : Int} (h : stepV x b = stepV y b) : x = y := xor_inj (mul_inj h)
theorem step_inj2 {x : BitVec 64} {b c : Int} (h : stepV x b = stepV x c) : BitVec.ofInt 64 b = BitVec.ofInt 64 c := by
 have h1 := mul_inj h
 rw [BitVec.xor_comm x, BitVec.xor_comm x] at h1
 exact xor_inj h1
theorem digV_inj : ∀ {l : List Int} {x y : BitVec 64}, digV x l = digV y l → x = y
 | [], _, _, h => h
 | b :: l, x, y, h => step_inj (digV_inj (l := l) (x := stepV x b) (y := stepV y b) h)
theorem digV_append (x : BitVec 64) (a b : List Int) : digV x (a ++ b) = digV (digV x a) b := List.foldl_append
theorem sum_eq {a b : List Int} : sumS a = sumS b ↔ digV v0 a = digV v0 b := by
 rw [sum_bv, sum_bv]
 constructor
 ·intro h; exact BitVec.eq_of_toNat_eq (by omega)
 ·intro h; rw [h]
theorem sum_behind (a b m : List Int) : (sumS (a ++ m) = sumS (b ++ m)) ↔ sumS a = sumS b := by
 rw [sum_eq, sum_eq, digV_append, digV_append]
 exact ⟨digV_inj, fun h => by rw [h]⟩
theorem ofInt_inj {u v : Int} (hu : 0 ≤ u ∧ u < 256) (hv : 0 ≤ v ∧ v < 256) (h : BitVec.ofInt 64 u = BitVec.ofInt 64 v) : u = v := by
 have h2 := congrArg BitVec.toInt h
 rw [BitVec.toInt_ofInt, BitVec.toInt_ofInt, Int.bmod_eq_of_le (by omega) (by omega), Int.bmod_eq_of_le (by omega) (by omega)] at h2
 exact h2
theorem sum_one {p s : List Int} {u v : Int} (hu : 0 ≤ u ∧ u < 256) (hv : 0 ≤ v ∧ v < 256) : (sumS (p ++ ([u] ++ s)) = sumS (p ++ ([v] ++ s))) ↔ u = v := by
 refine ⟨fun h => ?_, fun h => by rw [h]⟩
 rw [sum_eq, digV_append, digV_append, digV_append, digV_append] at h
 exact ofInt_inj hu hv (step_inj2 (digV_inj h))
theorem set_split {l : List Int} {k : Nat} (h : k < l.length) (v : Int) : l = l.take k ++ ([l.getD k 0] ++ l.drop (k + 1)) ∧ l.set k v = l.take k ++ ([v] ++ l.drop (k + 1)) := by
 have hg : l.getD k 0 = l[k] := by rw [List.getD_eq_getElem?_getD, List.getElem?_eq_getElem h]; rfl
 refine ⟨?_, ?_⟩
 ·rw [hg, List.singleton_append, ← List.drop_eq_getElem_cons h, List.take_append_drop]
 ·rw [List.set_eq_take_append_cons_drop, if_pos h]; rfl
theorem xor_u8 {u by' : Int} (hu : 0 ≤ u ∧ u ≤ 255) (hb : 0 ≤ by' ∧ by' ≤ 255) : (0 ≤ xorW .u8 u by' ∧ xorW .u8 u by' < 256) ∧ (u = xorW .u8 u by' ↔ by' = 0) := by
 obtain ⟨a, rfl⟩ := Int.eq_ofNat_of_zero_le hu.1
 obtain ⟨b, rfl⟩ := Int.eq_ofNat_of_zero_le hb.1
 have key : ∀ a b : Fin 256, (0 ≤ xorW .u8 ((a : Nat) : Int) ((b : Nat) : Int) ∧ xorW .u8 ((a : Nat) : Int) ((b : Nat) : Int) < 256) ∧ ((((a : Nat) : Int) = xorW .u8 ((a : Nat) : Int) ((b : Nat) : Int)) ↔ ((b : Nat) : Int) = 0) := by
  intro a b
  have e : xorW .u8 ((a : Nat) : Int) ((b : Nat) : Int) = (((BitVec.ofNat 8 a ^^^ BitVec.ofNat 8 b).toNat : Nat) : Int) := by
   unfold xorW
   show IntKind.u8.wrap ((BitVec.ofInt 8 ((a : Nat) : Int) ^^^ BitVec.ofInt 8 ((b : Nat) : Int)).toNat : Int) = _
   rw [BitVec.ofInt_natCast, BitVec.ofInt_natCast]
   have := (BitVec.ofNat 8 a ^^^ BitVec.ofNat 8 b).isLt
   exact wrap_u8 (by omega) (by omega)
  rw [e]
  have h1 := (BitVec.ofNat 8 a ^^^ BitVec.ofNat 8 b).isLt
  refine ⟨⟨by omega, by omega⟩, fun h => ?_, fun h => ?_⟩
  ·have h2 : BitVec.ofNat 8 a = BitVec.ofNat 8 a ^^^ BitVec.ofNat 8 b := by
    apply BitVec.eq_of_toNat_eq
    have ha : (BitVec.ofNat 8 (a : Nat)).toNat = a := by rw [BitVec.toNat_ofNat]; have := a.isLt; omega
    omega
   have h3 := congrArg (BitVec.ofNat 8 (a : Nat) ^^^ ·) h2
   simp only [← BitVec.xor_assoc, BitVec.xor_self, BitVec.zero_xor] at h3
   have h4 := congrArg BitVec.toNat h3
   rw [BitVec.toNat_ofNat] at h4
   simp at h4
   have := b.isLt
   omega
  ·have hb : (b : Nat) = 0 := by omega
   rw [hb]
   simp
 exact key ⟨a, by omega⟩ ⟨b, by omega⟩
def turnI (n w : Int) : Int := n - Int.tmod n 10 + Int.tmod (Int.tmod n 10 + 1 + Int.tmod w 9) 10
theorem turn_ok {n w : Int} (h0 : 0 ≤ n) (hw : 0 ≤ w) : 0 ≤ turnI n w ∧ turnI n w ≤ n + 9 ∧ turnI n w / 10 = n / 10 ∧ turnI n w % 10 ≠ n % 10 := by
 unfold turnI
 rw [Int.tmod_eq_emod_of_nonneg h0, Int.tmod_eq_emod_of_nonneg hw, Int.tmod_eq_emod_of_nonneg (by omega)]
 omega
def preD (u : Nat) : List Int := if u = 0 then [] else (Lib.decDigits u).map fun b => (b.toNat : Int)
theorem itoa_last {n : Int} (h : 0 ≤ n) : itoaB n = preD (n / 10).toNat ++ [48 + n % 10] := by
 have hb : ∀ v, v < 10 → ((UInt8.ofNat (48 + v)).toNat : Int) = 48 + (v : Int) := fun v hv => by rw [UInt8.toNat_ofNat']; omega
 unfold itoaB Lib.itoa preD
 rw [if_neg (by omega), Lib.decDigits]
 by_cases h10 : n.toNat < 10
 ·rw [dif_pos h10, if_pos (by omega)]
  simp only [List.map_cons, List.map_nil, List.nil_append, hb _ h10]
  congr 1; omega
 ·have e : (n / 10).toNat = n.toNat / 10 := by omega
  rw [dif_neg h10, if_neg (by omega), e, List.map_append]
  simp only [List.map_cons, List.map_nil, hb _ (Nat.mod_lt _ (by omega : 0 < 10))]
  congr 2; omega
theorem next_turn (d : Int) {l : List Int} {k : Nat} {v : Int} (hk : k < l.length) (h0 : 0 ≤ l.getD k 0) (hv : 0 ≤ v) (h1 : v / 10 = l.getD k 0 / 10) (h2 : v % 10 ≠ l.getD k 0 % 10) : nextS d l ≠ nextS d (l.set k v) := by
 obtain ⟨e1, e2⟩ := set_split hk v
 generalize l.getD k 0 = n at *
 generalize l.take k = A at *
 generalize l.drop (k + 1) = B at *
 intro h
 rw [e2] at h
 rw [e1] at h
 unfold nextS textS at h
 simp only [text_append] at h
 have t : ∀ m : Int, textL [m] = itoaB m ++ [32] := fun m => by simp [textL]
 simp only [t, itoa_last h0, itoa_last hv, h1] at h
 have r : ∀ c : Int, eightB d ++ (textL A ++ (preD (n / 10).toNat ++ [c] ++ [32] ++ textL B)) = (eightB d ++ (textL A ++ preD (n / 10).toNat)) ++ ([c] ++ ([32] ++ textL B)) := fun c => by simp [List.append_assoc]
 rw [r, r] at h
 have := (sum_one (by omega) (by omega)).1 h
 omega
def turnS (l : List Int) (w b : Int) : List Int × Bool :=
 if l.length = 0 then ([], false)
 else if l.getD (Int.tmod w l.length).toNat 0 < 0 ∨ l.getD (Int.tmod w l.length).toNat 0 > 1000000000000 then ([], false)
 else (l.set (Int.tmod w l.length).toNat (turnI (l.getD (Int.tmod w l.length).toNat 0) b), true)
theorem turn_cases {l : List Int} {w b : Int} (hw : 0 ≤ w) (hb : 0 ≤ b) (h : (turnS l w b).2 = true) : ∃ k, k < l.length ∧ 0 ≤ l.getD k 0 ∧ l.getD k 0 ≤ 1000000000000 ∧ (turnS l w b).1 = l.set k (turnI (l.getD k 0) b) := by
 unfold turnS at h ⊢
 split at h
 ·cases h
 ·rename_i h0
  split at h
  ·cases h
  ·rename_i h1
   rw [if_neg h0, if_neg h1]
   have hlt : Int.tmod w l.length < l.length := Int.tmod_lt_of_pos _ (Int.natCast_pos.2 (Nat.pos_of_ne_zero h0))
   have hge : 0 ≤ Int.tmod w l.length := Int.tmod_nonneg _ hw
   exact ⟨(Int.tmod w l.length).toNat, by omega, by omega, by omega, rfl⟩
theorem chain_append (a m : List (List Int)) : chainS (a ++ m) = m.foldl (fun d x => nextS d (lenL x)) (chainS a) := by unfold chainS; rw [List.foldl_append]
theorem turn_allI {l : List Int} {k : Nat} {v : Int} (h : allI l) (hv : InI64 v) : allI (l.set k v) := by
 intro n hn
 rcases List.mem_or_eq_of_mem_set hn with h1 | h1
 ·exact h n h1
 ·rw [h1]; exact hv
def allLL (ll : List (List Int)) : Prop := ∀ x ∈ ll, allI x
theorem few_ok {ll : List (List Int)} (h : allLL ll) (hf : fewL ll = true) : okL ll ∧ ll.length ≤ 40 := by
 unfold fewL at hf
 rw [Bool.and_eq_true] at hf
 refine ⟨fun x hx => ⟨h x hx, ?_⟩, of_decide_eq_true hf.2⟩
 have := of_decide_eq_true (List.all_eq_true.1 hf.1 x hx)
 omega
end Go.RatLaw
