/- The plain proofs. Written by a program (wip/tools/gen.py). -/
import Derived.Test.YtgibafageolbnaaDoorSealqp
import Derived.Test.YtgibafageolbnaaDoorSr
namespace Go.Proofs.YtgibafageolbnaaDoor
open Go.Sy Go.RatLaw
set_option linter.unusedVariables false
set_option linter.unusedSimpArgs false
theorem seal_turn (d : Int) {l : List Int} {k : Nat} {n b : Int} (hk : k < l.length) (hn : l.getD k 0 = n) (h0 : 0 ≤ n) (h1 : n ≤ 10000000000) (hb : 0 ≤ b) : nextS d l ≠ nextS d (l.set k (turnN n b)) := turned_next' d (turned_mk hk hn h0 h1 hb rfl)
theorem seals_both {a b : Int × Int} {m n : Int} {v : Bool} (h1 : a = (m, 0)) (hb : (v = true ∧ b = (n, 0) ∧ m ≠ n) ∨ (v = false ∧ b = (0, 1))) : (true && (b.2 == 0 && a.1 != b.1 || b.2 == 1 && !v)) = true := by
  subst h1
  rcases hb with ⟨rfl, rfl, h⟩ | ⟨rfl, rfl⟩
  · have : (m != n) = true := bne_iff_ne.2 h
    simp [this]
  · simp
theorem p_SSeals (id kind y p d s ver note val : Int) (q : ByteArray) (x w z : Int) (i1 : InI64 note) (i2 : InI64 val) (i3 : InI64 x) (hw : 0 ≤ w ∧ w ≤ 255) (hz : 0 ≤ z ∧ z ≤ 255) : P_SSeals id kind y p d s ver note val q x w z := by
  refine ⟨fun _ => rfl, fun hc => ⟨by decide, ?_⟩⟩
  obtain ⟨hm, hx, hs⟩ := seal_yes hc
  have hno : (((sealS id kind y p d s ver note val q x).snd != 0 || (sealS id kind y p d s ver note val q x).snd != 0 || (sealS id kind y p d s ver note val q x).fst != (sealS id kind y p d s ver note val q x).fst) = true → false = true) := fun h => by rw [hs] at h; simp at h
  have hx' := rngB_i hx
  have hm' := hm
  unfold markB at hm'
  simp only [Bool.and_eq_true] at hm'
  have hnote := rngB_i hm'.1.1.1.2
  have hval := rngB_i hm'.1.2
  have hval' : 0 ≤ val ∧ val ≤ 1000 := by split at hval <;> omega
  refine ⟨fun _ => ⟨i3, hz.1, hz.2, hno, fun _ => ?_⟩, fun _ => ⟨fun _ => ⟨i1, hz.1, hz.2, hno, fun _ => ?_⟩, fun h1 => ⟨fun _ => ⟨i2, hz.1, hz.2, hno, fun _ => ?_⟩, fun h2 => ?_⟩⟩⟩
  · refine seals_both (a := sealS id kind y p d s ver note val q x) (b := sealS id kind y p d s ver note val q (turnN x z)) (m := sealN id kind y p d s ver note val q x) (n := sealN id kind y p d s ver note val q (turnN x z)) (v := markB id kind y p d s ver note val q && secretB (turnN x z)) hs ?_
    by_cases hv : (markB id kind y p d s ver note val q && secretB (turnN x z)) = true
    · refine .inl ⟨hv, ?_, ?_⟩
      · unfold sealS; rw [if_pos hv]
      · show nextS (sumS (strB q)) [x, id, kind, y, p, d, s, ver, note, val] ≠ nextS (sumS (strB q)) [turnN x z, id, kind, y, p, d, s, ver, note, val]
        exact seal_turn (sumS (strB q)) (l := [x, id, kind, y, p, d, s, ver, note, val]) (k := 0) (by simp) rfl (by omega) (by omega) hz.1
    · refine .inr ⟨by simpa using hv, ?_⟩
      unfold sealS; rw [if_neg hv]
  · refine seals_both (a := sealS id kind y p d s ver note val q x) (b := sealS id kind y p d s ver (turnN note z) val q x) (m := sealN id kind y p d s ver note val q x) (n := sealN id kind y p d s ver (turnN note z) val q x) (v := markB id kind y p d s ver (turnN note z) val q && secretB x) hs ?_
    by_cases hv : (markB id kind y p d s ver (turnN note z) val q && secretB x) = true
    · refine .inl ⟨hv, ?_, ?_⟩
      · unfold sealS; rw [if_pos hv]
      · show nextS (sumS (strB q)) [x, id, kind, y, p, d, s, ver, note, val] ≠ nextS (sumS (strB q)) [x, id, kind, y, p, d, s, ver, turnN note z, val]
        exact seal_turn (sumS (strB q)) (l := [x, id, kind, y, p, d, s, ver, note, val]) (k := 8) (by simp) rfl (by omega) (by omega) hz.1
    · refine .inr ⟨by simpa using hv, ?_⟩
      unfold sealS; rw [if_neg hv]
  · refine seals_both (a := sealS id kind y p d s ver note val q x) (b := sealS id kind y p d s ver note (turnN val z) q x) (m := sealN id kind y p d s ver note val q x) (n := sealN id kind y p d s ver note (turnN val z) q x) (v := markB id kind y p d s ver note (turnN val z) q && secretB x) hs ?_
    by_cases hv : (markB id kind y p d s ver note (turnN val z) q && secretB x) = true
    · refine .inl ⟨hv, ?_, ?_⟩
      · unfold sealS; rw [if_pos hv]
      · show nextS (sumS (strB q)) [x, id, kind, y, p, d, s, ver, note, val] ≠ nextS (sumS (strB q)) [x, id, kind, y, p, d, s, ver, note, turnN val z]
        exact seal_turn (sumS (strB q)) (l := [x, id, kind, y, p, d, s, ver, note, val]) (k := 9) (by simp) rfl (by omega) (by omega) hz.1
    · refine .inr ⟨by simpa using hv, ?_⟩
      unfold sealS; rw [if_neg hv]
  · exfalso
    have e3 : w.tmod 3 = w % 3 := Int.tmod_eq_emod_of_nonneg hw.1
    rename_i h0
    rw [e3] at h0 h1 h2
    simp at h0 h1 h2
    omega

end Go.Proofs.YtgibafageolbnaaDoor
