/- The plain proofs. Written by a program (wip/tools/gen.py). -/
import Derived.Test.YtgibafageolbnaaDoorSeallp
namespace Go.Proofs.YtgibafageolbnaaDoor
open Go.Sy Go.RatLaw
set_option linter.unusedVariables false
set_option linter.unusedSimpArgs false
theorem tmod10 (n : Int) : -9 ≤ n.tmod 10 ∧ n.tmod 10 ≤ 9 ∧ (0 ≤ n → 0 ≤ n.tmod 10 ∧ n.tmod 10 ≤ n) ∧ (n ≤ 0 → n.tmod 10 ≤ 0 ∧ n ≤ n.tmod 10) := by
  by_cases h : 0 ≤ n
  · rw [Int.tmod_eq_emod_of_nonneg h]; omega
  · have e : n.tmod 10 = -((-n).tmod 10) := by rw [Int.neg_tmod]; omega
    rw [e, Int.tmod_eq_emod_of_nonneg (show 0 ≤ -n by omega)]; omega
theorem p_sturned (n b : Int) (hn : InI64 n) (h0 : 0 ≤ b) (h1 : b ≤ 255) : P_sturned n b := by
  have h := tmod10 n
  have e1 : IntKind.i64.wrap (n - n.tmod 10) = n - n.tmod 10 := Go.Sy.wrap_i64 (by unfold InI64 at *; omega)
  have e2 : IntKind.i64.wrap (n.tmod 10 + 1) = n.tmod 10 + 1 := Go.Sy.wrap_i64 (by unfold InI64; omega)
  have e3 : IntKind.i64.wrap b = b := Go.Sy.wrap_i64 (by unfold InI64; omega)
  have e4 : b.tmod 9 = b % 9 := Int.tmod_eq_emod_of_nonneg h0
  have e5 : IntKind.i64.wrap (n.tmod 10 + 1 + b % 9) = n.tmod 10 + 1 + b % 9 := Go.Sy.wrap_i64 (by unfold InI64; omega)
  refine ⟨by decide, by decide, by decide, by decide, ?_⟩
  rw [e1, e2, e3, e4, e5]; rfl
def headC : Int := chainS [[3], [5, 3, 2, 0, 0, 0, 0]]
theorem h_app : appS 3 [] 0 (5, (3, (2, (0, (0, 0))))) = ((3, ([(5, (3, (2, (0, (0, 0)))))], headC)), 0) := by
  unfold appS
  rw [if_pos (by decide), if_neg (by decide), if_neg (by decide)]
  rfl
theorem h_log : logB 3 [(5, (3, (2, (0, (0, 0)))))] headC = true := by
  rw [log_yes (by decide) (by decide) (by decide), chainE_ne (by simp)]
  exact decide_eq_true rfl
theorem h_log0 : logB 3 [] 0 = true := by decide
theorem h_seal : sealS 8 5 4 0 0 0 1 5 7 (ByteArray.mk #[97]) 9 = (nextS (sumS [97]) [9, 8, 5, 4, 0, 0, 0, 1, 5, 7], 0) := by
  unfold sealS
  rw [if_pos (by decide)]
  unfold sealN
  rfl
theorem h_seal0 : sealS 8 5 4 0 0 0 1 5 7 (ByteArray.mk #[97]) 0 = (0, 1) := by
  unfold sealS
  rw [if_neg (by decide)]
theorem h_beg : begS 3 [] 0 3 [(5, (3, (2, (0, (0, 0)))))] headC = (true, 0) := by
  unfold begS; rw [h_log, h_log0]; decide
theorem h_beg2 : begS 3 [(5, (3, (2, (0, (0, 0)))))] headC 3 [] 0 = (false, 0) := by
  unfold begS; rw [h_log, h_log0]; decide
theorem h_app2 : appS 3 [(5, (3, (2, (0, (0, 0)))))] headC (4, (3, (0, (0, (0, 0))))) = ((0, ([], 0)), 6) := by
  unfold appS; rw [h_log, if_pos (by decide), if_neg (by decide), if_pos (by decide)]
theorem h_app3 : appS 3 [(5, (3, (2, (0, (0, 0)))))] headC (5, (0, (0, (0, (0, 0))))) = ((0, ([], 0)), 1) := by
  unfold appS; rw [h_log, if_neg (by decide)]
theorem h_in0 : inE [] := fun e he => by cases he
theorem h_in1 : inE [(5, (3, (2, (0, (0, 0)))))] := fun e he => by
  rw [List.mem_singleton.1 he]; unfold InI64; decide
theorem h_ok : okL [[3], [5, 3, 2, 0, 0, 0, 0]] := by
  intro x hx
  have hi : ∀ {l : List Int}, (∀ n ∈ l, 0 ≤ n ∧ n ≤ 9) → allI l := fun h n hn => by have := h n hn; unfold InI64; omega
  simp only [List.mem_cons, List.not_mem_nil, or_false] at hx
  rcases hx with rfl | rfl
  · exact ⟨hi (by decide), by decide⟩
  · exact ⟨hi (by decide), by decide⟩
theorem h_all : allI [9, 8, 5, 4, 0, 0, 0, 1, 5, 7] := fun n hn => by
  have : ∀ n ∈ [(9 : Int), 8, 5, 4, 0, 0, 0, 1, 5, 7], 0 ≤ n ∧ n ≤ 9 := by decide
  have := this n hn; unfold InI64; omega
theorem h_i (n : Int) (h : 0 ≤ n ∧ n ≤ 9) : InI64 n := by unfold InI64; omega
theorem p_shead : P_shead := by
  have hc : (headC == chainS [[3], [5, 3, 2, 0, 0, 0, 0]]) = true := by unfold headC; exact beq_self_eq_true _
  have hL : logB 0 [] 0 = false := by decide
  unfold P_shead
  simp only [h_app, h_seal, h_seal0, h_beg, h_beg2, h_app2, h_app3, h_log, hc, hL, h_in0, h_in1, h_ok, h_all, h_i 0 (by decide), h_i 3 (by decide), h_i 4 (by decide), h_i 5 (by decide)]
  simp
theorem or_halves {h l : Int} (h0 : 0 ≤ h ∧ h < 4294967296) (l0 : 0 ≤ l ∧ l < 4294967296) : orW .u64 (shlW .u64 h 32) l = h * 4294967296 + l := by
  have e1 : shlW .u64 h 32 = h * 4294967296 := by
    unfold shlW
    rw [show (2 : Int) ^ (min (32 : Int).toNat IntKind.u64.bits) = 4294967296 from rfl, wrap_u64]; omega
  rw [e1]
  unfold orW
  have e : (BitVec.ofInt IntKind.u64.bits (h * 4294967296) ||| BitVec.ofInt IntKind.u64.bits l).toNat = h.toNat * 4294967296 + l.toNat := by
    rw [BitVec.toNat_or, BitVec.toNat_ofInt, BitVec.toNat_ofInt]
    have a1 : ((h * 4294967296) % ((2 ^ IntKind.u64.bits : Nat) : Int)).toNat = h.toNat <<< 32 := by
      rw [show ((2 ^ IntKind.u64.bits : Nat) : Int) = 18446744073709551616 from rfl, Nat.shiftLeft_eq]; omega
    have a2 : (l % ((2 ^ IntKind.u64.bits : Nat) : Int)).toNat = l.toNat := by
      rw [show ((2 ^ IntKind.u64.bits : Nat) : Int) = 18446744073709551616 from rfl]; omega
    rw [a1, a2, ← Nat.shiftLeft_add_eq_or_of_lt (show l.toNat < 2 ^ 32 by omega), Nat.shiftLeft_eq]
  rw [e, wrap_u64]
  omega
theorem turn_nn {n b : Int} (h : 0 ≤ n ∧ n < 4294967296) (h0 : 0 ≤ b) : 0 ≤ turnN n b := by
  have ht := tmod10 n
  unfold turnN
  have e : (n.tmod 10 + 1 + b % 9).tmod 10 = (n.tmod 10 + 1 + b % 9) % 10 := Int.tmod_eq_emod_of_nonneg (by omega)
  rw [e, Go.Sy.wrap_i64 (by unfold InI64; omega)]
  omega
theorem whole_g {g : Int} (h0 : 0 ≤ g) : hiD g * 4294967296 + loD g = g := by unfold hiD loD; omega
theorem p_schanged (t k a b c g w y : Int) (hi : InI64 t ∧ InI64 k ∧ InI64 a ∧ InI64 b ∧ InI64 c) (hg : 0 ≤ g ∧ g < 18446744073709551616) (hw : 0 ≤ w ∧ w ≤ 255) (h0 : 0 ≤ y) (h1 : y ≤ 255) : P_schanged t k a b c g w y := by
  obtain ⟨i1, i2, i3, i4, i5⟩ := hi
  have hh := hi_lo hg.1 hg.2
  have e7 : w.tmod 7 = w % 7 := Int.tmod_eq_emod_of_nonneg hw.1
  have u : ∀ {x : Int}, 0 ≤ x → x < 4294967296 → IntKind.u64.wrap x = x := fun p q => by rw [wrap_u64]; omega
  have hj : orW .u64 (shlW .u64 (IntKind.u64.wrap (hiD g)) 32) (IntKind.u64.wrap (loD g)) = g := by
    rw [u hh.1 hh.2.1, u hh.2.2.1 hh.2.2.2, or_halves ⟨hh.1, hh.2.1⟩ ⟨hh.2.2.1, hh.2.2.2⟩, whole_g hg.1]
  have hin : (decide (hiD g < 4294967296) && decide (loD g < 4294967296)) = true := by rw [decide_eq_true hh.2.1, decide_eq_true hh.2.2.2]; rfl
  have n1 := turn_nn (b := y) ⟨hh.1, hh.2.1⟩ h0
  have n2 := turn_nn (b := y) ⟨hh.2.2.1, hh.2.2.2⟩ h0
  unfold P_schanged
  rw [hi_eq hg.1 hg.2, lo_eq hg.1 hg.2, e7, hj, hin]
  have j1 : InI64 (hiD g) := by unfold InI64; omega
  have j2 : InI64 (loD g) := by unfold InI64; omega
  have no : ∀ {p : Prop}, true = false → p := fun h => by cases h
  unfold chgE
  by_cases c0 : w % 7 = 0
  · simp [c0, i1, h0, h1, j1, j2]
  · by_cases c1 : w % 7 = 1
    · simp [c1, i2, h0, h1, j1, j2]
    · by_cases c2 : w % 7 = 2
      · simp [c2, i3, h0, h1, j1, j2]
      · by_cases c3 : w % 7 = 3
        · simp [c3, i4, h0, h1, j1, j2]
        · by_cases c4 : w % 7 = 4
          · simp [c4, i5, h0, h1, j1, j2]
          · by_cases c5 : w % 7 = 5
            · simp only [c5, backE]
              by_cases z : turnN (hiD g) y < 4294967296
              · have := or_halves ⟨n1, z⟩ ⟨hh.2.2.1, hh.2.2.2⟩
                simp [h0, h1, j1, j2, z, hh.2.2.2, u n1 z, u hh.2.2.1 hh.2.2.2, this]
              · simp [h0, h1, j1, j2, z, hh.2.2.2]
            · have c6 : w % 7 = 6 := by omega
              simp only [c6, backE]
              by_cases z : turnN (loD g) y < 4294967296
              · have := or_halves ⟨hh.1, hh.2.1⟩ ⟨n2, z⟩
                simp [h0, h1, j1, j2, z, hh.2.1, u n2 z, u hh.1 hh.2.1, this]
              · simp [h0, h1, j1, j2, z, hh.2.1]

end Go.Proofs.YtgibafageolbnaaDoor
