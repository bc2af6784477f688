/- The plain proofs. Written by a program (wip/tools/gen.py). -/
import Derived.Test.YtiplcokpckkopaaDoorPaperpp
import Derived.Test.YtiplcokpckkopaaDoorPr
import Derived.Test.YtiplcokpckkopaaDoorPaperlq
namespace Go.Proofs.YtiplcokpckkopaaDoor
open Go.Sy Go.RatLaw
set_option linter.unusedVariables false
set_option linter.unusedSimpArgs false
theorem p_PLast (p : Int) (ms : List Ms) (l : List Bk) (f u wh : Int) (hp : InI64 p) (hw : wfM ms) (hf : InI64 f) (hu : InI64 u) (w0 : 0 ≤ wh) (w1 : wh ≤ 255) : P_PLast p ms l f u wh := by
 intro _
 refine ⟨fun _ => rfl, fun h => ?_⟩
 simp only [Bool.or_eq_false_iff, Bool.not_eq_false', decide_eq_false_iff_not] at h
 obtain ⟨⟨⟨⟨hfew, hbl⟩, hf0⟩, hfu⟩, hul⟩ := h
 obtain ⟨hms, hl70⟩ := few_lens hfew
 have hpg : pageB l f u = true := page_iff.2 ⟨by omega, by omega, by omega⟩
 have hb := blocks_iff.1 hbl
 have hmem := memDg bk0 (show (u - 1).toNat < l.length by omega)
 have hk0 := (blk_all hb.2.1 (Int.le_refl _) _ hmem).1
 have hk1 : (l.getD (u - 1).toNat bk0).1 < ms.length := by
  have := wid_end (hb.2.2 _ hmem)
  have := end_ge (l.getD (u - 1).toNat bk0)
  omega
 have hm : atM ms (l.getD (u - 1).toNat bk0).1 ∈ ms := atM_mem hk0 hk1
 have hn2 := notes_le hw hb.1 hm
 have e2 : (E_PLast_2 ms l u).snd.snd.snd = notesM (atM ms (l.getD (u - 1).toNat bk0).1) := rfl
 have e4 : E_PLast_4 ms l u = ((notesM (atM ms (l.getD (u - 1).toNat bk0).1)).length : Int) - 1 := rfl
 have eK : (l.getD (u - 1).toNat (KT.d0 : Bk)) = l.getD (u - 1).toNat bk0 := rfl
 refine ⟨by unfold InI64; omega, by omega, by omega, hk0, hk1, fun _ => ⟨fun _ => rfl, fun h0 => ?_⟩⟩
 obtain ⟨n, hn⟩ : ∃ n, (notesM (atM ms (l.getD (u - 1).toNat bk0).1)).length = n + 1 := by
  have : (notesM (atM ms (l.getD (u - 1).toNat bk0).1)).length ≠ 0 := by
   rw [e2] at h0
   have := beq_eq_false_iff_ne.1 h0
   omega
  exact ⟨_, (Nat.succ_pred this).symm⟩
 have e4n : (E_PLast_4 ms l u).toNat = n := by rw [e4, hn]; omega
 have e5 : E_PLast_5 ms l u = (notesM (atM ms (l.getD (u - 1).toNat bk0).1)).getD n wr0 := by unfold E_PLast_5; rw [e4n]; rfl
 have e6 : E_PLast_6 ms l u = (notesM (atM ms (l.getD (u - 1).toNat bk0).1)).getD n wr0 := by unfold E_PLast_6; rw [e4n, List.nil_append]; rfl
 have e1 : E_PLast_1 ms l u wh = ((((notesM (atM ms (l.getD (u - 1).toNat bk0).1)).getD n wr0).1 - ((notesM (atM ms (l.getD (u - 1).toNat bk0).1)).getD n wr0).1.tmod 10 + (((notesM (atM ms (l.getD (u - 1).toNat bk0).1)).getD n wr0).1.tmod 10 + 1 + wh.tmod 9).tmod 10), ((notesM (atM ms (l.getD (u - 1).toNat bk0).1)).getD n wr0).2) := by
  unfold E_PLast_1; rw [e5, e6]
 have e3 : E_PLast_3 ms l u wh = ms.set (l.getD (u - 1).toNat bk0).1.toNat ((atM ms (l.getD (u - 1).toNat bk0).1).1, ((atM ms (l.getD (u - 1).toNat bk0).1).2.1, ((atM ms (l.getD (u - 1).toNat bk0).1).2.2.1, (notesM (atM ms (l.getD (u - 1).toNat bk0).1)).set n (E_PLast_1 ms l u wh)))) := by
  unfold E_PLast_3; rw [e4n]; rfl
 rw [e2, e4, eK, e5, List.nil_append, List.nil_append]
 have hnotes := (wfM_num hw hm).2.2.2.2.2
 generalize hkk : (l.getD (u - 1).toNat bk0).1 = k at *
 have hwm := memDg wr0 (show n < (notesM (atM ms k)).length by omega)
 generalize hww : (notesM (atM ms k)).getD n wr0 = w at *
 refine ⟨hk0, hk1, by unfold InI64; omega, by omega, by omega, fun _ => rfl, fun hid => ?_⟩
 simp only [Bool.or_eq_false_iff, decide_eq_false_iff_not] at hid
 have t1 : w.1.tmod 10 = w.1 % 10 := Int.tmod_eq_emod_of_nonneg (by omega)
 have t2 : wh.tmod 9 = wh % 9 := Int.tmod_eq_emod_of_nonneg w0
 have t3 : (w.1 % 10 + 1 + wh % 9).tmod 10 = (w.1 % 10 + 1 + wh % 9) % 10 := Int.tmod_eq_emod_of_nonneg (by omega)
 rw [t1, t2, t3] at e1 ⊢
 have eT : w.1 - w.1 % 10 + (w.1 % 10 + 1 + wh % 9) % 10 = turnI w.1 wh := by unfold turnI; rw [t1, t2, t3]
 rw [eT] at e1
 have e3l : (E_PLast_3 ms l u wh).length = ms.length := by rw [e3, List.length_set]
 obtain ⟨g1, g2⟩ := hw
 have i1 := g1 _ hm
 have i2 := g2.2 _ hm
 have iw : tyW.In w := i1.2.2.2 w hwm
 have ib : tyW.Bd 140737488355328 w := i2.2.2.2.2 w hwm
 have hT : InI64 (turnI w.1 wh) := by rw [← eT]; unfold InI64; omega
 have hbl' : blocksB (E_PLast_3 ms l u wh) l = true := by
  rw [e3, blocks_shape (set_shape ?_)]
  ·exact hbl
  ·show (_, (_, _)) = (_, (_, _))
   rw [show ms.getD k.toNat ms0 = atM ms k from rfl]
   show ((atM ms k).2.1, ((atM ms k).2.2.1, ((notesM (atM ms k)).set n _).length)) = _
   rw [List.length_set]
 have hdig : digS p (E_PLast_3 ms l u wh) l f u 3 4 ≠ digS p ms l f u 3 4 := by
  rw [e3, e1]
  have := dig_last (p := p) (ed := 3) (ve := 4) (by' := wh) hbl hpg (k := k) hkk.symm hn (id := w.1) (by rw [hww]) (by omega) w0
  rw [hww] at this
  exact this
 have hwf : wfM (E_PLast_3 ms l u wh) := by
  rw [e3, e1]
  refine wfM_set ⟨g1, g2⟩ ⟨i1.1, i1.2.1, i1.2.2.1, fun x hx => ?_⟩ ⟨trivial, trivial, ⟨trivial, trivial⟩, Nat.le_trans (Nat.le_of_eq (List.length_set ..)) i2.2.2.2.1, fun x hx => ?_⟩
  ·rcases mem_set hx with hx | hx
   ·exact i1.2.2.2 x hx
   ·rw [hx]; exact ⟨wfI_of hT, iw.2⟩
  ·rcases mem_set hx with hx | hx
   ·exact i2.2.2.2.2 x hx
   ·rw [hx]; exact ⟨trivial, ib.2⟩
 have d1 := dig_yes (p := p) (ed := 3) (ve := 4) (f := f) (u := u) ⟨rfl, rfl, hbl, by omega, by omega, by omega⟩
 have d2 := dig_yes (p := p) (ed := 3) (ve := 4) (f := f) (u := u) ⟨rfl, rfl, hbl', by omega, by omega, by omega⟩
 rw [e3l, List.length_set, d1, d2]
 refine ⟨rfl, by omega, hk0, hk1, rfl, by omega, hk0, hk1, by omega, rfl, by omega, rfl, by omega, hk0, hk1, by omega, rfl, by omega, rfl, by omega, rfl, by unfold InI64; omega, by decide, by unfold InI64; omega, by decide, by unfold InI64; omega, by unfold InI64; omega, by decide, by unfold InI64; omega, by decide, by unfold InI64; omega, by omega, by omega, by omega, rfl, by omega, rfl, by omega, ⟨g1, g2⟩, hp, by omega, by omega, hwf, hp, ?_⟩
 dsimp only
 rw [bne_iff_ne.2 (Ne.symm hdig)]
 rfl

end Go.Proofs.YtiplcokpckkopaaDoor
