/- The plain proofs. Written by a program (wip/tools/gen.py). -/
import Derived.Test.YtiplcokpckkopaaDoorDigestp
namespace Go.Proofs.YtiplcokpckkopaaDoor
open Go.Sy Go.RatLaw
set_option linter.unusedVariables false
set_option linter.unusedSimpArgs false
theorem d0Ig : ((Ty.ti .i64).d0 : (Ty.ti .i64).T) = (0 : Int) := rfl
theorem d0U : ((Ty.ti .u8).d0 : (Ty.ti .u8).T) = (0 : Int) := rfl
theorem d0L : ((Ty.ti .i64).tl.d0 : ((Ty.ti .i64).tl).T) = ([] : List Int) := rfl
theorem p_run1 (d : Int) (l : List Int) : P_run1 d l := by
 refine fun hl => ⟨⟨0, Nat.zero_le _, rfl, rfl⟩, fun x hx => ⟨fun hlt => ?_, fun hge => ?_⟩⟩
 ·have hlt' : x < l.length := by have := of_decide_eq_true hlt; omega
  simp only [d0U, tn]
  have ht : dstep (dig d (l.take x)) (l.getD x 0) = dig d (l.take (x + 1)) := by rw [takeDg 0 hlt', dig_snoc]
  exact ⟨by omega, by omega, by unfold InI64; omega, x + 1, hlt', by omega, (by first | rfl | trivial), (by first | rfl | trivial), (by first | rfl | trivial), (by first | rfl | trivial), ht⟩
 ·have hx' : x = l.length := by have := of_decide_eq_false hge; omega
  rw [hx', List.take_length]
theorem p_run2 (d : Int) : P_run2 d := ⟨rfl, rfl⟩
theorem p_run : P_run := ⟨rfl, rfl, rfl⟩
theorem dig_nil (d : Int) : dig d [] = d := by unfold dig; rw [List.foldl_nil]
theorem dig_none : 14695981039346656037 = dig dig0 [] := by unfold dig; rw [List.foldl_nil, dig0]
theorem p_next (d : Int) (l : List Int) (h : allI l) : P_next d l := by
 refine ⟨⟨0, by omega, (by first | rfl | trivial), by rw [List.take_zero]; exact dig_none⟩, fun x hx => ⟨fun hlt => ?_, fun hge hl => ⟨⟨0, Nat.zero_le _, (by first | rfl | trivial), ?_⟩, fun y hy => ⟨fun hlt => ?_, fun hge2 => ?_⟩⟩⟩⟩
 ·have hlt' : x < 8 := by have := of_decide_eq_true hlt; omega
  have ht : dig (dig dig0 ((eightB d).take x)) [IntKind.u8.wrap (shrW .u64 d (56 - 8 * (x : Int)))] = dig dig0 ((eightB d).take (x + 1)) := by
   rw [takeDg 0 (by rw [eight_len]; exact hlt'), dig_append, eight_get d hlt']
  exact ⟨by omega, by unfold InI64; omega, x + 1, hlt', by omega, by omega, rfl, rfl, (by first | rfl | trivial), (by first | rfl | trivial), (by first | rfl | trivial), ht⟩
 ·have hx8 : x = 8 := by have := of_decide_eq_false hge; omega
  subst hx8
  have : (eightB d).take 8 = eightB d := List.take_of_length_le (by rw [eight_len]; omega)
  rw [this]
  show dig dig0 (eightB d) = sumS (textS d [])
  unfold textS textL sumS
  simp
 ·have hlt' : y < l.length := by have := of_decide_eq_true hlt; omega
  have hn := h _ (memDg 0 hlt')
  have htk := takeDg (0 : Int) hlt'
  simp only [d0Ig, tn]
  generalize hg : l.getD y 0 = n at hn htk ⊢
  refine ⟨by omega, by omega, hn, ⟨0, Nat.zero_le _, rfl, rfl, by rw [List.take_zero, dig_nil]⟩, fun z hz => ⟨fun hzl => ?_, fun hzg => ?_⟩⟩
  ·have hzl' : z < (itoaB n).length := by have := of_decide_eq_true hzl; rw [itoa_size] at this; exact this
   obtain ⟨h1, h2, h3⟩ := itoa_step n hzl'
   have hnx : nxP (itoaS n) z = z + 1 := by unfold nxP; rw [if_pos (of_decide_eq_true hzl), h1]
   have hd : dig (dig (sumS (textS d (l.take y))) ((itoaB n).take z)) [IntKind.u8.wrap ((Utf8.decode (itoaS n) z).1 : Int)] = dig (sumS (textS d (l.take y))) ((itoaB n).take (z + 1)) := by
    rw [takeDg 0 hzl', dig_append, h1]
    have : IntKind.u8.wrap ((((itoaB n).getD z 0).toNat : Nat) : Int) = (itoaB n).getD z 0 := by
     rw [show ((((itoaB n).getD z 0).toNat : Nat) : Int) = (itoaB n).getD z 0 by omega]; exact wrap_u8 h2 (by omega)
    simp only [this]
   exact ⟨hzl, z + 1, hzl', by omega, (by first | rfl | trivial), (by first | rfl | trivial), (by first | rfl | trivial), (by first | rfl | trivial), (by first | rfl | trivial), (by first | rfl | trivial), (by first | rfl | trivial), (by first | rfl | trivial), (by first | rfl | trivial), (by first | rfl | trivial), (by first | rfl | trivial), (by first | rfl | trivial), (by first | rfl | trivial), hnx, hd⟩
  ·have hz' : z = (itoaB n).length := by have := of_decide_eq_false hzg; rw [itoa_size] at this; omega
   have hd : dig (dig (sumS (textS d (l.take y))) ((itoaB n).take z)) [32] = sumS (textS d (l.take (y + 1))) := by
    rw [hz', List.take_length, htk, text_snoc, sum_append, sum_append]
   exact ⟨by unfold InI64; omega, y + 1, hlt', by omega, (by first | rfl | trivial), (by first | rfl | trivial), (by first | rfl | trivial), (by first | rfl | trivial), (by first | rfl | trivial), (by first | rfl | trivial), (by first | rfl | trivial), (by first | rfl | trivial), (by first | rfl | trivial), (by first | rfl | trivial), hd⟩
 ·have hy' : y = l.length := by have := of_decide_eq_false hge2; omega
  rw [hy', List.take_length]; rfl
theorem ok_len {x : List Int} (h : allI x ∧ x.length ≤ 1000000) : allI (lenL x) := by
 intro n hn
 rcases List.mem_cons.1 hn with e | e
 ·rw [e]; unfold InI64; have := h.2; omega
 ·exact h.1 n e
theorem p_chain (l : List (List Int)) (h : okL l) : P_chain l := by
 refine fun hl => ⟨⟨0, Nat.zero_le _, (by first | rfl | trivial), rfl⟩, fun x hx => ⟨fun hlt => ?_, fun hge => ?_⟩⟩
 ·have hlt' : x < l.length := by have := of_decide_eq_true hlt; omega
  have hn := h _ (memDg [] hlt')
  have htk := takeDg ([] : List Int) hlt'
  simp only [d0L, tn]
  generalize l.getD x [] = y at hn htk ⊢
  have hs : nextS (chainS (l.take x)) ([(y.length : Int)] ++ y) = chainS (l.take (x + 1)) := by rw [htk, chain_snoc]; rfl
  have h2 := hn.2
  exact ⟨by omega, by omega, fun _ => ⟨(by first | rfl | trivial), by omega, ok_len hn, by unfold InI64; omega, x + 1, hlt', by omega, (by first | rfl | trivial), hs, (by first | rfl | trivial), (by first | rfl | trivial), (by first | rfl | trivial), (by first | rfl | trivial)⟩⟩
 ·have hx' : x = l.length := by have := of_decide_eq_false hge; omega
  rw [hx', List.take_length]
theorem p_rSum (l : List Int) : P_rSum l := by
 refine ⟨⟨0, Nat.zero_le _, rfl, rfl⟩, fun x hx hl => ⟨fun hlt => ?_, fun hge => ?_⟩⟩
 ·have hlt' : x < l.length := by have := of_decide_eq_true hlt; omega
  simp only [d0U, tn]
  have ht : dstep (sumS (l.take x)) (l.getD x 0) = sumS (l.take (x + 1)) := by rw [takeDg 0 hlt', sum_append]; rfl
  exact ⟨by omega, by omega, by unfold InI64; omega, x + 1, hlt', by omega, (by first | rfl | trivial), ht, (by first | rfl | trivial), (by first | rfl | trivial)⟩
 ·have hx' : x = l.length := by have := of_decide_eq_false hge; omega
  rw [hx', List.take_length]
theorem p_rNext (d : Int) (l : List Int) (h1 : allI l) (h2 : l.length ≤ 1000001) : P_rNext d l := ⟨h1, h2, rfl⟩
theorem p_rChain (l : List (List Int)) (h : okL l) : P_rChain l := by
 refine ⟨⟨0, Nat.zero_le _, (by first | rfl | trivial), rfl⟩, fun x hx hl => ⟨fun hlt => ?_, fun hge => ?_⟩⟩
 ·have hlt' : x < l.length := by have := of_decide_eq_true hlt; omega
  have hn := h _ (memDg [] hlt')
  have htk := takeDg ([] : List Int) hlt'
  simp only [d0L, tn]
  generalize l.getD x [] = y at hn htk ⊢
  have hs : nextS (chainS (l.take x)) ([(y.length : Int)] ++ y) = chainS (l.take (x + 1)) := by rw [htk, chain_snoc]; rfl
  have h2 := hn.2
  have h3 : ([].append y).length + 1 ≤ 1000001 := by show y.length + 1 ≤ 1000001; omega
  exact ⟨by omega, by omega, fun _ => ⟨by omega, by omega, (by first | rfl | trivial), by omega, ok_len hn, h3, by unfold InI64; omega, x + 1, hlt', by omega, (by first | rfl | trivial), hs, (by first | rfl | trivial), (by first | rfl | trivial)⟩⟩
 ·have hx' : x = l.length := by have := of_decide_eq_false hge; omega
  rw [hx', List.take_length]
theorem digs_succ (n : Int) (k : Nat) : digsR n (k + 1) = if n = 0 then [] else IntKind.u8.wrap (48 + (if Int.tmod n 10 < 0 then -(Int.tmod n 10) else Int.tmod n 10)) :: digsR (Int.tdiv n 10) k := rfl
theorem digs_next {n m : Int} {q : Nat} (hq : q ≤ 20) (h1 : digsR n 20 = digsR n q ++ digsR m (20 - q)) (h2 : m.natAbs < 10 ^ (20 - q)) (h3 : (digsR n q).length = q) (hm : m ≠ 0) :
  q + 1 ≤ 20 ∧ digsR n (q + 1) = digsR n q ++ [IntKind.u8.wrap (48 + (if Int.tmod m 10 < 0 then -(Int.tmod m 10) else Int.tmod m 10))] ∧ digsR n 20 = digsR n (q + 1) ++ digsR (Int.tdiv m 10) (20 - (q + 1)) ∧
   (Int.tdiv m 10).natAbs < 10 ^ (20 - (q + 1)) ∧ (digsR n (q + 1)).length = q + 1 := by
 have hq1 : q + 1 ≤ 20 := by
  rcases Nat.lt_or_ge q 20 with h | h
  ·exact h
  ·have : 20 - q = 0 := by omega
   rw [this] at h2; simp at h2; omega
 have e : 20 - q = (20 - (q + 1)) + 1 := by omega
 rw [e] at h1 h2
 rw [digs_succ m (20 - (q + 1)), if_neg hm] at h1
 generalize IntKind.u8.wrap (48 + (if Int.tmod m 10 < 0 then -(Int.tmod m 10) else Int.tmod m 10)) = c at h1 ⊢
 have h4 : digsR n (q + 1) = digsR n q ++ [c] := by
  rw [digs_take n (20 - (q + 1)) (q + 1), show 20 - (q + 1) + (q + 1) = 20 by omega, h1, List.take_append, h3]
  rw [List.take_of_length_le (by omega), show q + 1 - q = 1 by omega]; try rfl
 refine ⟨hq1, h4, by rw [h1, h4]; simp, ?_, by rw [h4]; simp [h3]⟩
 rw [tdiv_abs]; rw [Nat.pow_succ] at h2; omega
theorem p_rDec (n : Int) (hn : InI64 n) : P_rDec n := by
 refine ⟨fun h0 => ?_, fun h0 => ?_⟩
 ·have : n = 0 := by simpa using h0
  subst this
  show _ = DV.lit (Value.string ⟨(Lib.itoa 0).toArray⟩)
  rw [show Lib.itoa 0 = [48] by simp [Lib.itoa, Lib.decDigits]]
 ·have hn0 : n ≠ 0 := by simpa using h0
  have hna : n.natAbs < 10 ^ 20 := by unfold InI64 at hn; omega
  have hlen := digs_len_le n 20
  refine ⟨⟨(0, n), ⟨hn, by omega, by simp [digsR], by simpa using hna, by simp [digsR]⟩, (by first | rfl | trivial), (by first | rfl | trivial), (by first | rfl | trivial)⟩, fun q ⟨g1, g2, g3, g4, g5⟩ => ⟨fun hc => ⟨by omega, fun hneg => ?_, fun hneg => ?_⟩, fun hc => ⟨fun hneg => ?_, fun hneg => ?_⟩⟩⟩
  ·have hm : q.2 ≠ 0 := by simpa using hc
   obtain ⟨k1, k2, k3, k4, k5⟩ := digs_next g2 g3 g4 g5 hm
   have hneg' := of_decide_eq_true hneg
   have hta := tdiv_abs q.2
   have hte := tmod_abs q.2
   rw [if_pos hneg'] at hte
   rw [if_pos hneg'] at k2
   have hng : negW (Int.tmod q.2 10) = -(Int.tmod q.2 10) := Go.Sy.wrap_i64 (by unfold InI64; omega)
   rw [hng]
   have hl2 : (digsR n q.1).length + (0 + 1) = (digsR n (q.1 + 1)).length := by rw [k5, g5]
   unfold InI64 at g1
   exact ⟨by unfold InI64; omega, (by first | rfl | trivial), by omega, by omega, by unfold InI64; omega, (q.1 + 1, Int.tdiv q.2 10), ⟨by unfold InI64; simp only; omega, k1, k3, k4, k5⟩, by simp only; omega, (by first | rfl | trivial), k2.symm, (by first | rfl | trivial), (by first | rfl | trivial), (by first | rfl | trivial), hl2⟩
  ·have hm : q.2 ≠ 0 := by simpa using hc
   obtain ⟨k1, k2, k3, k4, k5⟩ := digs_next g2 g3 g4 g5 hm
   have hneg' := of_decide_eq_false hneg
   have hta := tdiv_abs q.2
   have hte := tmod_abs q.2
   rw [if_neg hneg'] at hte
   rw [if_neg hneg'] at k2
   have hl2 : (digsR n q.1).length + (0 + 1) = (digsR n (q.1 + 1)).length := by rw [k5, g5]
   unfold InI64 at g1
   exact ⟨by unfold InI64; omega, (by first | rfl | trivial), by omega, by omega, by unfold InI64; omega, (q.1 + 1, Int.tdiv q.2 10), ⟨by unfold InI64; simp only; omega, k1, k3, k4, k5⟩, by simp only; omega, (by first | rfl | trivial), k2.symm, (by first | rfl | trivial), (by first | rfl | trivial), (by first | rfl | trivial), hl2⟩
  ·have hm : q.2 = 0 := by simpa using hc
   rw [hm, digs_zero, List.append_nil] at g3
   have hr := itoa_rev hn0 hna
   rw [if_pos (of_decide_eq_true hneg), g3] at hr
   rw [g3] at hlen
   generalize hA : digsR n q.1 ++ [45] = A at hr ⊢
   have hAl : A.length ≤ 21 := by rw [← hA]; simp; omega
   refine ⟨(by first | rfl | trivial), by omega, fun _ => ⟨by unfold InI64; omega, ⟨0, Nat.zero_le _, by omega, (by first | rfl | trivial), (by first | rfl | trivial)⟩, fun x hx => ⟨fun hlt => ?_, fun hge => ?_⟩⟩⟩
   ·have hlt' : x < A.length := by have := of_decide_eq_true hlt; omega
    have hti : ((A.length : Int) - 1 - x).toNat = A.length - 1 - x := by omega
    have htk : A.reverse.take x ++ [A.getD ((A.length : Int) - 1 - x).toNat (0 : Int)] = A.reverse.take (x + 1) := by
     rw [takeDg 0 (by simpa using hlt'), hti]
     congr 2
     rw [List.getD_eq_getElem?_getD, List.getD_eq_getElem?_getD, List.getElem?_reverse hlt']
    have hlk : (A.reverse.take x).length + (0 + 1) = (A.reverse.take (x + 1)).length := by rw [List.length_take, List.length_take, List.length_reverse]; omega
    have hlx : (A.reverse.take x).length ≤ 21 := by rw [List.length_take, List.length_reverse]; omega
    exact ⟨by omega, by omega, (by first | rfl | trivial), by omega, by unfold InI64; omega, x + 1, hlt', by omega, by omega, htk, (by first | rfl | trivial), (by first | rfl | trivial), (by first | rfl | trivial), (by first | rfl | trivial), (by first | rfl | trivial), (by first | rfl | trivial), (by first | rfl | trivial), hlk, (by first | rfl | trivial), (by first | rfl | trivial)⟩
   ·have hx' : x = A.length := by have := of_decide_eq_false hge; omega
    rw [hx', List.take_of_length_le (by simp), hr]
  ·have hm : q.2 = 0 := by simpa using hc
   rw [hm, digs_zero, List.append_nil] at g3
   have hr := itoa_rev hn0 hna
   rw [if_neg (of_decide_eq_false hneg), g3, List.append_nil] at hr
   rw [g3] at hlen
   generalize digsR n q.1 = A at hr hlen ⊢
   refine fun _ => ⟨by unfold InI64; omega, ⟨0, Nat.zero_le _, by omega, (by first | rfl | trivial), (by first | rfl | trivial)⟩, fun x hx => ⟨fun hlt => ?_, fun hge => ?_⟩⟩
   ·have hlt' : x < A.length := by have := of_decide_eq_true hlt; omega
    have hti : ((A.length : Int) - 1 - x).toNat = A.length - 1 - x := by omega
    have htk : A.reverse.take x ++ [A.getD ((A.length : Int) - 1 - x).toNat (0 : Int)] = A.reverse.take (x + 1) := by
     rw [takeDg 0 (by simpa using hlt'), hti]
     congr 2
     rw [List.getD_eq_getElem?_getD, List.getD_eq_getElem?_getD, List.getElem?_reverse hlt']
    have hlk : (A.reverse.take x).length + (0 + 1) = (A.reverse.take (x + 1)).length := by rw [List.length_take, List.length_take, List.length_reverse]; omega
    have hlx : (A.reverse.take x).length ≤ 21 := by rw [List.length_take, List.length_reverse]; omega
    exact ⟨by omega, by omega, (by first | rfl | trivial), by omega, by unfold InI64; omega, x + 1, hlt', by omega, by omega, htk, (by first | rfl | trivial), (by first | rfl | trivial), (by first | rfl | trivial), (by first | rfl | trivial), (by first | rfl | trivial), (by first | rfl | trivial), (by first | rfl | trivial), hlk, (by first | rfl | trivial)⟩
   ·have hx' : x = A.length := by have := of_decide_eq_false hge; omega
    rw [hx', List.take_of_length_le (by simp), hr]
theorem p_rText (d : Int) (l : List Int) (h : allI l) (hl6 : l.length ≤ 1000001) : P_rText d l := by
 refine ⟨⟨0, by omega, (by first | rfl | trivial), (by first | rfl | trivial), (by first | rfl | trivial)⟩, fun x hx => ⟨fun hlt => ?_, fun hge => ⟨⟨0, Nat.zero_le _, (by first | rfl | trivial), ?_, ?_⟩, fun y hy hl => ⟨fun hlt => ?_, fun hge2 => ?_⟩⟩⟩⟩
 ·have hlt' : x < 8 := by have := of_decide_eq_true hlt; omega
  have hel := eight_len d
  have htk : (eightB d).take x ++ [IntKind.u8.wrap (shrW .u64 d (56 - 8 * (x : Int)))] = (eightB d).take (x + 1) := by rw [takeDg 0 (by omega), eight_get d hlt']
  have hlk : ((eightB d).take x).length + (0 + 1) = ((eightB d).take (x + 1)).length := by rw [List.length_take, List.length_take]; omega
  have hlx : ((eightB d).take x).length ≤ 8 := by rw [List.length_take]; omega
  exact ⟨by unfold InI64; omega, by unfold InI64; omega, by omega, (by first | rfl | trivial), by omega, by unfold InI64; omega, x + 1, hlt', by omega, by omega, htk, (by first | rfl | trivial), (by first | rfl | trivial), (by first | rfl | trivial), hlk, (by first | rfl | trivial)⟩
 ·have hx8 : x = 8 := by have := of_decide_eq_false hge; omega
  subst hx8
  rw [List.take_of_length_le (by rw [eight_len]; omega)]
  show eightB d = textS d []
  unfold textS textL
  simp
 ·have hx8 : x = 8 := by have := of_decide_eq_false hge; omega
  subst hx8
  show ((eightB d).take 8).length = (textS d []).length
  rw [List.take_of_length_le (by rw [eight_len]; omega)]
  unfold textS textL
  simp
 ·have hlt' : y < l.length := by have := of_decide_eq_true hlt; omega
  have hn := h _ (memDg 0 hlt')
  have htk := takeDg (0 : Int) hlt'
  have hTl := textS_len d (allI_take h y)
  rw [List.length_take] at hTl
  simp only [d0Ig, tn]
  generalize l.getD y 0 = n at hn htk ⊢
  have hil := itoaB_len hn
  have hts : textS d (l.take y) ++ itoaB n ++ [32] = textS d (l.take (y + 1)) := by rw [htk, text_snoc]
  have hlk : (textS d (l.take y)).length + (itoaB n).length + (0 + 1) = (textS d (l.take (y + 1))).length := by rw [← hts]; simp; omega
  have hap : (textS d (l.take y) ++ itoaB n).length = (textS d (l.take y)).length + (itoaB n).length := List.length_append
  rw [itoa_strB]
  refine ⟨by omega, by omega, hn, (by first | rfl | trivial), ?_, hap, ?_, by unfold InI64; omega, y + 1, hlt', by omega, (by first | rfl | trivial), hts, (by first | rfl | trivial), (by first | rfl | trivial), (by first | rfl | trivial), (by first | rfl | trivial), (by first | rfl | trivial), hlk, (by first | rfl | trivial)⟩
  ·show ((textS d (l.take y)).length + (itoaB n).length) * 1 ≤ 140737488355328
   omega
  ·show ((textS d (l.take y)).length + (itoaB n).length + (0 + 1)) * 1 ≤ 140737488355328
   omega
 ·have hy' : y = l.length := by have := of_decide_eq_false hge2; omega
  rw [hy', List.take_length]
theorem it5 : itoaB 5 = [53] := by simp [itoaB, Lib.itoa, Lib.decDigits]
theorem itm1 : itoaB (-1) = [45, 49] := by simp [itoaB, Lib.itoa, Lib.decDigits]
theorem it1 : itoaB 1 = [49] := by simp [itoaB, Lib.itoa, Lib.decDigits]
theorem it7 : itoaB 7 = [55] := by simp [itoaB, Lib.itoa, Lib.decDigits]
theorem it0 : itoaB 0 = [48] := by simp [itoaB, Lib.itoa, Lib.decDigits]
theorem h_next : nextS 97 [5, -1] = sumS [0, 0, 0, 0, 0, 0, 0, 97, 53, 32, 45, 49, 32] := by
 unfold nextS textS textL
 simp only [List.flatMap_cons, List.flatMap_nil, it5, itm1]
 rw [show eightB 97 = [0, 0, 0, 0, 0, 0, 0, 97] by decide +kernel]
 rfl
theorem h_chain : chainS [[7], []] = nextS (nextS 14695981039346656037 [1, 7]) [0] := by
 unfold chainS
 rw [List.foldl_cons, List.foldl_cons, List.foldl_nil, dig0]
 rw [show lenL [7] = [1, 7] by simp [lenL], show lenL [] = [0] by simp [lenL]]
end Go.Proofs.YtiplcokpckkopaaDoor
