/- The plain proofs. Written by a program (wip/tools/gen.py). -/
import Derived.Test.YtiplcokpckkopaaDoorPaperp
import Derived.Test.YtiplcokpckkopaaDoorPq
namespace Go.Proofs.YtiplcokpckkopaaDoor
open Go.Sy Go.RatLaw
set_option linter.unusedVariables false
set_option linter.unusedSimpArgs false
theorem d0T : (Ty.tb.d0 : Ty.tb.T) = false := rfl
theorem d0S : (ShT.d0 : ShT.T) = sh0 := rfl
theorem dle (n : Nat) (m : Nat) : decide ((n : Int) ≤ (m : Int)) = decide (n ≤ m) := decide_eq_decide.2 (by omega)
theorem p_zrat (n d : Int) : P_zrat n d := ⟨rfl, rfl⟩
theorem p_zfew (p : Int) (ms : List Ms) (l pages : List Bk) : P_zfew p ms l pages := by
  intro _ _
  unfold few27
  rw [show decide ((l.length : Int) ≤ 70) = decide (l.length ≤ 70) from dle _ 70, show decide ((pages.length : Int) ≤ 80) = decide (pages.length ≤ 80) from dle _ 80]
theorem p_zid (n : Int) : P_zid n := rfl
theorem p_zrid (n : Int) : P_zrid n := rfl
theorem p_zblk (p : Int) (ms : List Ms) (l : List Bk) : P_zblk p ms l := blocks_wid ms l
theorem p_zrblk (p : Int) (ms : List Ms) (l : List Bk) : P_zrblk p ms l := blocks_wid ms l
theorem pag_bad {l : List Bk} {many : Int} {x : Nat} (h : x < l.length) (he : pagFrom many 0 l = pagFrom many (lastP l x) (l.drop x)) (hb : ((l.getD x bk0).1 != lastP l x || decide ((l.getD x bk0).2 ≤ lastP l x) || decide ((l.getD x bk0).2 > many)) = true) : false = pagesB l many := by
  unfold pagesB
  rw [he, pag_step h]
  simp only [Bool.or_eq_true, bne_iff_ne, ne_eq, decide_eq_true_eq] at hb
  rcases hb with (hb | hb) | hb
  · rw [show decide ((l.getD x bk0).1 = lastP l x) = false from decide_eq_false hb]; simp
  · rw [show decide (lastP l x < (l.getD x bk0).2) = false from decide_eq_false (by omega)]; simp
  · rw [show decide ((l.getD x bk0).2 ≤ many) = false from decide_eq_false (by omega)]; simp
theorem pag_good {l : List Bk} {many : Int} {x : Nat} (h : x < l.length) (he : pagFrom many 0 l = pagFrom many (lastP l x) (l.drop x)) (hb : ((l.getD x bk0).1 != lastP l x || decide ((l.getD x bk0).2 ≤ lastP l x) || decide ((l.getD x bk0).2 > many)) = false) : pagFrom many 0 l = pagFrom many (lastP l (x + 1)) (l.drop (x + 1)) := by
  rw [he, pag_step h]
  simp only [Bool.or_eq_false_iff, bne_eq_false_iff_eq, decide_eq_false_iff_not] at hb
  rw [show decide ((l.getD x bk0).1 = lastP l x) = true from decide_eq_true hb.1.1, show decide (lastP l x < (l.getD x bk0).2) = true from decide_eq_true (by omega), show decide ((l.getD x bk0).2 ≤ many) = true from decide_eq_true (by omega)]
  simp
theorem pag_end {l : List Bk} {many : Int} (he : pagFrom many 0 l = pagFrom many (lastP l l.length) (l.drop l.length)) : (lastP l l.length == many && decide ((l.length : Int) ≤ 1000)) = pagesB l many := by
  unfold pagesB
  rw [he, List.drop_length, pagFrom, show decide ((l.length : Int) ≤ 1000) = decide (l.length ≤ 1000) from dle _ 1000]
  rfl
theorem p_zpag (l : List Bk) (many : Int) : P_zpag l many := by
  intro hlen
  refine ⟨⟨0, ⟨Nat.zero_le _, rfl⟩, (by first | rfl | trivial), (by first | rfl | trivial)⟩, fun x ⟨hx, he⟩ => ⟨fun hlt => ?_, fun hge _ => ?_⟩⟩
  · have hlt' : x < l.length := by have := of_decide_eq_true hlt; omega
    simp only [d0K, tn]
    exact ⟨by omega, by omega, fun hb => pag_bad hlt' he hb, fun hb => ⟨by unfold InI64; omega, x + 1, ⟨hlt', pag_good hlt' he hb⟩, by omega, (by first | rfl | trivial), (lastP_succ l x).symm, (by first | rfl | trivial), (by first | rfl | trivial), (by first | rfl | trivial), (by first | rfl | trivial)⟩⟩
  · have hx' : x = l.length := by have := of_decide_eq_false hge; omega
    subst hx'
    exact pag_end he
theorem p_zrpag (l : List Bk) (many : Int) : P_zrpag l many := by
  refine ⟨⟨0, ⟨Nat.zero_le _, rfl⟩, (by first | rfl | trivial), (by first | rfl | trivial)⟩, fun x ⟨hx, he⟩ hlen => ⟨fun hlt => ?_, fun hge _ => ?_⟩⟩
  · have hlt' : x < l.length := by have := of_decide_eq_true hlt; omega
    simp only [d0K, tn]
    exact ⟨by omega, by omega, fun _ => by omega, fun _ => by omega, fun hb => pag_bad hlt' he hb, fun hb => ⟨by omega, by omega, by unfold InI64; omega, x + 1, ⟨hlt', pag_good hlt' he hb⟩, by omega, (by first | rfl | trivial), (lastP_succ l x).symm, (by first | rfl | trivial), (by first | rfl | trivial)⟩⟩
  · have hx' : x = l.length := by have := of_decide_eq_false hge; omega
    subst hx'
    exact pag_end he
theorem tmod2 (x : Nat) : ((x : Int).tmod 2 == 0) = decide (x % 2 = 0) := by
  rw [Bool.eq_iff_iff, beq_iff_eq, decide_eq_true_eq, Int.tmod_eq_emod_of_nonneg (by omega)]; omega
theorem cnt_cnd (l : List Bk) (good : List Bool) (x : Nat) : ((x : Int).tmod 2 == 0 && decide ((x : Int) + 1 < l.length) && !good.getD (l.getD x bk0).2.toNat false) = decide (x % 2 = 0 ∧ x + 1 < l.length ∧ good.getD (l.getD x bk0).2.toNat false = false) := by
  rw [tmod2, show decide ((x : Int) + 1 < l.length) = decide (x + 1 < l.length) from decide_eq_decide.2 (by omega)]
  cases good.getD (l.getD x bk0).2.toNat false <;> simp
theorem p_zbad (l : List Bk) (good : List Bool) : P_zbad l good := by
  intro _
  refine ⟨fun h => ?_, fun h _ => ⟨fun h2 => ?_, fun h2 hl => ⟨⟨0, Nat.zero_le _, (by first | rfl | trivial), (by first | rfl | trivial)⟩, fun x hx => ⟨fun hlt => ?_, fun hge => ?_⟩⟩⟩⟩
  · have h' := of_decide_eq_true h
    unfold badS; rw [if_pos (by omega)]; exact ⟨rfl, rfl⟩
  · have h' := of_decide_eq_false h
    unfold badS; rw [if_neg (by omega), if_neg (by simpa using h2)]; exact ⟨rfl, rfl⟩
  · have hlt' : x < l.length := by have := of_decide_eq_true hlt; omega
    have hp : pagesB l good.length = true := by simpa using h2
    have hc := cnt_bd l good x
    have hpl := pages_len hp
    obtain ⟨g1, g2, g3, g4⟩ := pages_at hp hlt'
    simp only [d0K, d0T, tn, cnt_cnd]
    refine ⟨by omega, by omega, by decide, fun _ => by unfold InI64; omega, fun _ => ⟨fun hc => ?_, fun hc => ⟨by unfold InI64; omega, by unfold InI64; omega, x + 1, hlt', by omega, (by first | rfl | trivial), ?_, by (repeat' (first | rfl | trivial | apply And.intro))⟩, fun hc => ⟨by unfold InI64; omega, x + 1, hlt', by omega, (by first | rfl | trivial), ?_, by (repeat' (first | rfl | trivial | apply And.intro))⟩⟩⟩
    · rw [Bool.and_eq_true, decide_eq_true_eq] at hc
      exact ⟨by omega, g4 (by omega)⟩
    · rw [cntB, if_pos (of_decide_eq_true hc)]
    · rw [cntB, if_neg (of_decide_eq_false hc), Int.add_zero]
  · have hx' : x = l.length := by have := of_decide_eq_false hge; omega
    have h' := of_decide_eq_false h
    subst hx'
    unfold badS; rw [if_neg (by omega), if_pos (by simpa using h2)]; exact ⟨rfl, rfl⟩
theorem p_zidx (l : List Bool) (v : Bool) : P_zidx l v := by
  intro hlen
  refine ⟨⟨0, ⟨Nat.zero_le _, fun k hk => absurd hk (Nat.not_lt_zero _)⟩, (by first | rfl | trivial)⟩, fun x ⟨hx, hn⟩ => ⟨fun hlt => ?_, fun hge => ?_⟩⟩
  · have hlt' : x < l.length := by have := of_decide_eq_true hlt; omega
    simp only [d0T, tn]
    refine ⟨by omega, by omega, fun h => (idx_some false hlt' hn h).symm, fun h => ⟨by unfold InI64; omega, x + 1, ⟨hlt', fun k hk => ?_⟩, by omega, (by first | rfl | trivial), (by first | rfl | trivial), (by first | rfl | trivial), (by first | rfl | trivial)⟩⟩
    rcases Nat.lt_succ_iff_lt_or_eq.1 hk with hk | hk
    · exact hn k hk
    · rw [hk]; exact h
  · have hx' : x = l.length := by have := of_decide_eq_false hge; omega
    exact (idx_none false (fun k hk => hn k (by omega))).symm
theorem p_zcon (l : List Bool) (v : Bool) : P_zcon l v := idx_any _ _
theorem p_zlist (l : List Int) : P_zlist l := rfl
theorem p_zarepg (p : Int) (ms : List Ms) (l pages : List Bk) : P_zarepg p ms l pages := by
  refine ⟨fun h => ?_, fun h _ => ?_⟩
  · unfold arePB; rw [show blocksB ms l = false by simpa using h]; rfl
  · have hb : blocksB ms l = true := by simpa using h
    have hl := blk_len (l := l) (q := 0) (blocks_iff.1 hb).2.1 (by omega)
    refine ⟨rfl, by omega, by omega, ?_⟩
    unfold arePB badS
    rw [hb, List.length_replicate, if_neg (by omega), tn]
    split
    · rename_i h; rw [h]; rfl
    · rename_i h; rw [Bool.not_eq_true] at h; rw [h]; rfl
theorem p_zrarepg (p : Int) (ms : List Ms) (l pages : List Bk) : P_zrarepg p ms l pages := fun _ => rfl
theorem p_zrlists (p : Int) (ms : List Ms) (l : List Bk) (f u ed ve : Int) (ho : onOk ms l f u) : P_zrlists p ms l f u ed ve := by
  obtain ⟨h1, h2, h3, h4⟩ := page_len ho.1
  have hl4 := ho.2.1
  have hl := on_len ho
  refine ⟨⟨0, Nat.zero_le _, by omega, rfl, rfl⟩, fun x hx => ⟨fun hlt => ?_, fun hge => ?_⟩⟩
  · have hlt' : x < (onPage l f u).length := by have := of_decide_eq_true hlt; omega
    have e1 := page_get ho.1 hlt'
    have e2 : (f + (x : Int)).toNat - f.toNat = x := by omega
    have hb := ho.2.2 _ (memD bk0 hlt')
    have hto := to_len (p := p) (ed := ed) (ve := ve) ho x hx
    simp only [d0K, d0M, d0W, tn, e2, ← e1]
    obtain ⟨g1, g2, g3, g4, g5⟩ := hb
    refine ⟨by omega, by omega, g1, g2, by omega, by omega, by omega, by omega, (by first | rfl | trivial), by omega, fun hn => ⟨⟨0, Nat.zero_le _, rfl, rfl, ?_⟩, fun y hy _ => ⟨fun hlt2 => ?_, fun hge2 => ?_⟩⟩⟩
    · simp [listsIn]
    · have hy' : y < (notesM (atM ms ((onPage l f u).getD x bk0).1)).length := by
        have := of_decide_eq_true hlt2
        exact Int.ofNat_lt.1 this
      have hin := in_len (p := p) (ed := ed) (ve := ve) ho hlt' y
      refine ⟨by omega, of_decide_eq_true hlt2, (by first | rfl | trivial), by omega, by unfold InI64; omega, y + 1, hy', by omega, (by first | rfl | trivial), rfl, ?_⟩
      have e : (listsIn p ms l f u ed ve x y).length + (0 + 1) = (listsIn p ms l f u ed ve x (y + 1)).length := by simp [listsIn]
      rw [← e]; (repeat' (first | rfl | trivial | apply And.intro))
    · have hy' : y = (notesM (atM ms ((onPage l f u).getD x bk0).1)).length := by
        have h := of_decide_eq_false hge2
        have : ¬ y < (notesM (atM ms ((onPage l f u).getD x bk0).1)).length := fun hc => h (Int.ofNat_lt.2 hc)
        omega
      have e := in_full p ms l f u ed ve x
      rw [hy', e]
      exact ⟨by unfold InI64; omega, x + 1, hlt', by omega, by omega, rfl, by (repeat' (first | rfl | trivial | apply And.intro))⟩
  · have hx' : x = (onPage l f u).length := by have := of_decide_eq_false hge; omega
    rw [hx']; rfl
theorem p_zlists (p : Int) (ms : List Ms) (l : List Bk) (f u ed ve : Int) : P_zlists p ms l f u ed ve := by unfold P_zlists; (repeat' (first | rfl | trivial | apply And.intro))
theorem hisL_snoc (l : List (List Int)) (b : List Int) : hisL (l ++ [b]) = hisL l ++ [(b, ())] := by unfold hisL; simp
theorem unL_his (l : List (List Int)) : unL (hisL l) = l := by
  unfold unL hisL; rw [List.map_map]; exact List.map_id' l
theorem unL_snoc (l : List (List Int × Unit)) (x : List Int × Unit) : unL (l ++ [x]) = unL l ++ [x.1] := by unfold unL; simp
theorem p_zlists1 (p : Int) (ms : List Ms) (l : List Bk) (f u ed ve : Int) (go : Lp (List Int × Unit)) (ho : onOk ms l f u) (hok : ∀ k, go.ok ((hisL (listsS p ms l f u ed ve)).take k)) (hgo : ∀ h, go h = true) : P_zlists1 p ms l f u ed ve go := by
  have hgo' : ∀ h, go.1 h = true := hgo
  have hlive : ∀ (a : List (List Int)) (b : List Int), (∃ t, listsS p ms l f u ed ve = (a ++ [b]) ++ t) → liveX go (hisL a) (b, ()) := by
    rintro a b ⟨t, et⟩
    refine ⟨.inr (hgo _), ?_⟩
    show go.ok (hisL a ++ [(b, ())])
    rw [← hisL_snoc]
    have := hok (a ++ [b]).length
    rw [et] at this
    unfold hisL at this ⊢
    rwa [List.map_append, List.take_append_of_le_length (by simp), List.take_of_length_le (by simp)] at this
  obtain ⟨h1, h2, h3, h4⟩ := page_len ho.1
  have hl4 := ho.2.1
  have hl := on_len ho
  have eP : List.drop f.toNat (List.take u.toNat l) = onPage l f u := rfl
  have no : ∀ h, (!go.1 h) = true → False := fun h e => by rw [hgo'] at e; cases e
  refine ⟨hlive [] _ (to_pre p ms l f u ed ve (Nat.zero_le _)), fun h => (no _ h).elim, fun _ => ⟨h1, by omega, h3, fun _ => ⟨⟨0, Nat.zero_le _, rfl, rfl, rfl⟩, fun x hx => ⟨fun hlt => ?_, fun hge => ?_⟩⟩⟩⟩
  · have hlt' : x < (onPage l f u).length := by
      have h := of_decide_eq_true hlt
      exact Int.ofNat_lt.1 h
    obtain ⟨g1, g2, g3, g4, g5⟩ := ho.2.2 _ (memD bk0 hlt')
    simp only [d0K, d0M, d0W, tn, eP]
    refine ⟨by omega, by omega, g1, g2, fun hn => ⟨hlive _ (blkL ((onPage l f u).getD x bk0) (atM ms ((onPage l f u).getD x bk0).1)) (in_pre p ms l f u ed ve hlt' (Nat.zero_le _)), fun h => (no _ h).elim, fun _ _ => ⟨⟨0, Nat.zero_le _, (by first | rfl | trivial), ?_, (by first | rfl | trivial)⟩, fun y hy => ⟨fun hlt2 => ?_, fun hge2 => ?_⟩⟩⟩⟩
    · rw [listsIn, hisL_snoc]; rfl
    · have hy' : y < (notesM (atM ms ((onPage l f u).getD x bk0).1)).length := by
        have := of_decide_eq_true hlt2
        exact Int.ofNat_lt.1 this
      have hy2 : (y : Int) < 20000 := by omega
      refine ⟨by omega, of_decide_eq_true hlt2, hlive _ (noteL ((notesM (atM ms ((onPage l f u).getD x bk0).1)).getD y wr0)) (in_pre p ms l f u ed ve hlt' (y := y + 1) hy'), fun h => (no _ h).elim, fun _ => ⟨by unfold InI64; omega, y + 1, hy', by omega, (by first | rfl | trivial), (by first | rfl | trivial), (by first | rfl | trivial), (by first | rfl | trivial), (by first | rfl | trivial), (by first | rfl | trivial), (by first | rfl | trivial), (by first | rfl | trivial), (by first | rfl | trivial), ?_, by (repeat' (first | rfl | trivial | apply And.intro))⟩⟩
      rw [listsIn, hisL_snoc]; rfl
    · have hy' : y = (notesM (atM ms ((onPage l f u).getD x bk0).1)).length := by
        have h := of_decide_eq_false hge2
        have : ¬ y < (notesM (atM ms ((onPage l f u).getD x bk0).1)).length := fun hc => h (Int.ofNat_lt.2 hc)
        omega
      have e := in_full p ms l f u ed ve x
      rw [hy', e]
      exact ⟨by unfold InI64; omega, x + 1, hlt', by omega, (by first | rfl | trivial), (by first | rfl | trivial), (by first | rfl | trivial), (by first | rfl | trivial), rfl, by (repeat' (first | rfl | trivial | apply And.intro))⟩
  · have hx' : x = (onPage l f u).length := by
      have h := of_decide_eq_false hge
      have : ¬ x < (onPage l f u).length := fun hc => h (Int.ofNat_lt.2 hc)
      omega
    rw [hx']; (repeat' (first | rfl | trivial | apply And.intro))
theorem p_zdig (p : Int) (ms : List Ms) (l : List Bk) (f u ed ve : Int) (ho : onOk ms l f u) (hw : wfM ms) (hp : InI64 p) (he : InI64 ed) (hv : InI64 ve) : P_zdig p ms l f u ed ve := by
  refine ⟨⟨ho, fun k => ?_, fun _ => rfl⟩, (by first | rfl | trivial), trivial, ⟨(by first | rfl | trivial), (by first | rfl | trivial)⟩, fun hist _ z hz => ?_, fun _ => ⟨fun _ => ?_, trivial⟩⟩
  · rw [List.length_take]
    have := s_len (p := p) (ed := ed) (ve := ve) ho
    unfold hisL; rw [List.length_map]; omega
  · have : (hist ++ [z]).length ≤ 1000000000 := hz.2
    rw [List.length_append, List.length_singleton] at this
    exact ⟨by simp [unL], by omega, (by first | rfl | trivial), trivial, (unL_snoc hist z).symm, by simp, by (repeat' (first | rfl | trivial | apply And.intro))⟩
  · rw [unL_his]
    exact ⟨okL_of hw ho hp he hv, rfl⟩
theorem p_zpdig (p : Int) (ms : List Ms) (l : List Bk) (f u ed ve : Int) (hw : wfM ms) (hp : InI64 p) : P_zpdig p ms l f u ed ve := by
  refine fun _ => ⟨fun h => ?_, fun h => ?_⟩
  · rw [dig_no fun ⟨a, b, c, d, e, g⟩ => by rw [a, b, c] at h; simp at h; omega]; exact ⟨rfl, rfl⟩
  · simp only [Bool.or_eq_false_iff, Bool.not_eq_false', decide_eq_false_iff_not] at h
    obtain ⟨⟨⟨⟨⟨a, b⟩, c⟩, d⟩, e⟩, g⟩ := h
    have hc : idB ed = true ∧ idB ve = true ∧ blocksB ms l = true ∧ 0 ≤ f ∧ f < u ∧ u ≤ l.length := ⟨a, b, c, by omega, by omega, by omega⟩
    rw [dig_yes hc]
    exact ⟨onOk_of hw c (page_iff.2 hc.2.2.2), hw, hp, id_in a, id_in b, rfl, rfl⟩
theorem p_zrdig (p : Int) (ms : List Ms) (l : List Bk) (f u ed ve : Int) (hw : wfM ms) (hp : InI64 p) : P_zrdig p ms l f u ed ve := by
  refine fun _ => ⟨fun h => ?_, fun h => ?_⟩
  · rw [dig_no fun ⟨a, b, c, d, e, g⟩ => by rw [a, b, c] at h; simp at h; omega]; exact ⟨rfl, rfl⟩
  · simp only [Bool.or_eq_false_iff, Bool.not_eq_false', decide_eq_false_iff_not] at h
    obtain ⟨⟨⟨⟨⟨c, d⟩, e⟩, g⟩, a⟩, b⟩ := h
    have hc : idB ed = true ∧ idB ve = true ∧ blocksB ms l = true ∧ 0 ≤ f ∧ f < u ∧ u ≤ l.length := ⟨a, b, c, by omega, by omega, by omega⟩
    have ho := onOk_of hw c (page_iff.2 hc.2.2.2)
    rw [dig_yes hc]
    exact ⟨ho, okL_of hw ho hp (id_in a) (id_in b), rfl, rfl⟩
theorem p_zprint1 (i f u id p : Int) (ms : List Ms) (ed ve : Int) (l : List Bk) (h1 : onOk ms l f u) (h2 : wfM ms) (h3 : InI64 p) (h4 : InI64 ed) (h5 : InI64 ve) (h6 : InI64 (id + i)) (h7 : InI64 (i + 1)) : P_zprint1 i f u id p ms ed ve l :=
  ⟨h6, h7, h1, h2, h3, h4, h5, by (repeat' (first | rfl | trivial | apply And.intro))⟩
theorem p_zprint (p : Int) (ms : List Ms) (l pages : List Bk) (ed ve id : Int) (hw : wfM ms) (hp : InI64 p) : P_zprint p ms l pages ed ve id := by
  refine ⟨fun h => ?_, fun h _ => ?_⟩
  · rw [print_no fun ⟨a, b, c, d⟩ => by rw [a, b, c, d] at h; simp at h]; exact ⟨rfl, rfl⟩
  · obtain ⟨a, b, c, d⟩ := are_cnd h
    have hl := pages_len (are_iff.1 d).2
    have hi := id_iff.1 c
    refine ⟨by unfold InI64; omega, by unfold InI64; omega, fun h2 => ?_, fun h2 _ => ⟨⟨0, Nat.zero_le _, (by first | rfl | trivial), (by first | rfl | trivial), (by first | rfl | trivial)⟩, fun x hx => ⟨fun hlt => ?_, fun hge => ?_⟩⟩⟩
    · have := of_decide_eq_true h2
      rw [print_lim ⟨a, b, c, d⟩ (by omega)]; exact ⟨rfl, rfl⟩
    · have hlt' : x < pages.length := by have := of_decide_eq_true hlt; omega
      have hsl := sheets_len p ms l pages ed ve id x
      simp only [d0K, tn]
      refine ⟨by omega, by omega, ⟨are_on hw d hlt', hw, hp, id_in a, id_in b, by unfold InI64; omega, by unfold InI64; omega⟩, (by first | rfl | trivial), by omega, by unfold InI64; omega, x + 1, hlt', by omega, (by first | rfl | trivial), rfl, ?_⟩
      have e : (sheetsTo p ms l pages ed ve id x).length + (0 + 1) = (sheetsTo p ms l pages ed ve id (x + 1)).length := by simp [sheetsTo]
      rw [← e]; (repeat' (first | rfl | trivial | apply And.intro))
    · have hx' : x = pages.length := by have := of_decide_eq_false hge; omega
      have := of_decide_eq_false h2
      rw [print_yes ⟨a, b, c, d⟩ (by omega), hx']; exact ⟨rfl, rfl⟩
theorem p_zrprint (p : Int) (ms : List Ms) (l pages : List Bk) (ed ve id : Int) (hw : wfM ms) (hp : InI64 p) : P_zrprint p ms l pages ed ve id := by
  refine ⟨fun h => ?_, fun h _ => ?_⟩
  · rw [print_no fun ⟨a, b, c, d⟩ => by rw [a, b, c, d] at h; simp at h]; exact ⟨rfl, rfl⟩
  · obtain ⟨d, a, b, c⟩ := are_cnd h
    have hl := pages_len (are_iff.1 d).2
    have hi := id_iff.1 c
    refine ⟨by unfold InI64; omega, by unfold InI64; omega, fun h2 => ?_, fun h2 => ⟨⟨0, Nat.zero_le _, (by first | rfl | trivial), (by first | rfl | trivial), (by first | rfl | trivial)⟩, fun x hx _ => ⟨fun hlt => ?_, fun hge => ?_⟩⟩⟩
    · have := of_decide_eq_true h2
      rw [print_lim ⟨a, b, c, d⟩ (by omega)]; exact ⟨rfl, rfl⟩
    · have hlt' : x < pages.length := by have := of_decide_eq_true hlt; omega
      have hsl := sheets_len p ms l pages ed ve id x
      have ho := are_on hw d hlt'
      simp only [d0K, tn]
      refine ⟨by omega, by omega, ho, okL_of hw ho hp (id_in a) (id_in b), by unfold InI64; omega, by unfold InI64; omega, (by first | rfl | trivial), by omega, by unfold InI64; omega, x + 1, hlt', by omega, (by first | rfl | trivial), rfl, ?_⟩
      have e : (sheetsTo p ms l pages ed ve id x).length + (0 + 1) = (sheetsTo p ms l pages ed ve id (x + 1)).length := by simp [sheetsTo]
      rw [← e]; (repeat' (first | rfl | trivial | apply And.intro))
    · have hx' : x = pages.length := by have := of_decide_eq_false hge; omega
      have := of_decide_eq_false h2
      rw [print_yes ⟨a, b, c, d⟩ (by omega), hx']; exact ⟨rfl, rfl⟩
theorem p_zsame (l m : List Sh) : P_zsame l m := by
  refine fun hl hm => ⟨fun h => by unfold sameS; simp [len_ne h], fun h => ⟨⟨0, ⟨Nat.zero_le _, (by first | rfl | trivial)⟩, (by first | rfl | trivial)⟩, fun x ⟨hx, ht⟩ _ => ⟨fun hlt => ?_, fun hge => ?_⟩⟩⟩
  · have hlt' : x < l.length := by have := of_decide_eq_true hlt; omega
    have he := len_eq h
    simp only [d0S, tn]
    refine ⟨by omega, by omega, by omega, by omega, fun hn => ?_, fun hn => ⟨by unfold InI64; omega, x + 1, ⟨hlt', ?_⟩, by omega, (by first | rfl | trivial), (by first | rfl | trivial), (by first | rfl | trivial), (by first | rfl | trivial)⟩⟩
    · have : ¬ l = m := at_ne sh0 (x := x) (fun e => by rw [e] at hn; simp at hn)
      unfold sameS; simp [this]
    · simp only [Bool.not_eq_false', Bool.and_eq_true, beq_iff_eq] at hn
      exact same_at sh0 he hlt' ht (Prod.ext hn.1 (Prod.ext hn.2.1 (Prod.ext hn.2.2.1 (Prod.ext hn.2.2.2.1 (Prod.ext hn.2.2.2.2.1 hn.2.2.2.2.2)))))
  · have hx' : x = l.length := by have := of_decide_eq_false hge; omega
    have he := len_eq h
    rw [hx', List.take_length, he, List.take_length] at ht
    unfold sameS; simp [ht]
theorem any_cnd (b p c d e : Int) (n : Nat) : anyB [b != p, !idB c, !idB d, decide (e < 1), decide (e > (n : Int))] true = (b != p || !idB c || !idB d || decide (e < 1) || decide (e > (n : Int))) := by
  unfold anyB
  cases (b != p) <;> cases idB c <;> cases idB d <;> cases decide (e < 1) <;> cases decide (e > (n : Int)) <;> rfl
theorem right_cnd {b p c d e : Int} {n : Nat} (h : (b != p || !idB c || !idB d || decide (e < 1) || decide (e > (n : Int))) = false) : b = p ∧ idB c = true ∧ idB d = true ∧ 1 ≤ e ∧ e ≤ n := by
  simp only [Bool.or_eq_false_iff, Bool.not_eq_false', decide_eq_false_iff_not, bne_eq_false_iff_eq] at h
  exact ⟨h.1.1.1.1, h.1.1.1.2, h.1.1.2, by omega, by omega⟩
theorem right_not {b p c d e : Int} {n : Nat} (h : (b != p || !idB c || !idB d || decide (e < 1) || decide (e > (n : Int))) = true) : ¬ (b = p ∧ idB c = true ∧ idB d = true ∧ 1 ≤ e ∧ e ≤ n) := by
  rintro ⟨a, b', c', d', e'⟩
  rw [a, b', c'] at h
  simp at h
  omega
theorem p_zright (p : Int) (ms : List Ms) (l pages : List Bk) (a b c d e g : Int) (hw : wfM ms) (hp : InI64 p) : P_zright p ms l pages a b c d e g := by
  refine ⟨fun h => ?_, fun h _ => ?_⟩
  · unfold rightS; rw [if_neg (by simpa using h)]; exact ⟨rfl, rfl⟩
  · have h : arePB ms l pages = true := by simpa using h
    rw [any_cnd]
    refine ⟨fun h2 => ?_, fun h2 => ?_⟩
    · unfold rightS; rw [if_pos h, if_neg (right_not h2)]; exact ⟨rfl, rfl⟩
    · have hc := right_cnd h2
      have ho := are_on hw h (x := (e - 1).toNat) (by omega)
      have hl := pages_len (are_iff.1 h).2
      simp only [d0K]
      refine ⟨by unfold InI64; omega, by omega, by omega, ho, hw, hp, id_in hc.2.1, id_in hc.2.2.1, ?_⟩
      unfold rightS; rw [if_pos h, if_pos hc]; exact ⟨rfl, rfl⟩
theorem p_zrright (p : Int) (ms : List Ms) (l pages : List Bk) (a b c d e g : Int) (hw : wfM ms) (hp : InI64 p) : P_zrright p ms l pages a b c d e g := by
  refine ⟨fun h => ?_, fun h _ => ?_⟩
  · unfold rightS; rw [if_neg (by simpa using h)]; exact ⟨rfl, rfl⟩
  · have h : arePB ms l pages = true := by simpa using h
    refine ⟨fun h2 => ?_, fun h2 => ?_⟩
    · unfold rightS; rw [if_pos h, if_neg (right_not h2)]; exact ⟨rfl, rfl⟩
    · have hc := right_cnd h2
      have ho := are_on hw h (x := (e - 1).toNat) (by omega)
      have hl := pages_len (are_iff.1 h).2
      simp only [d0K]
      refine ⟨by unfold InI64; omega, by omega, by omega, ho, okL_of hw ho hp (id_in hc.2.1) (id_in hc.2.2.1), ?_⟩
      unfold rightS; rw [if_pos h, if_pos hc]; exact ⟨rfl, rfl⟩

end Go.Proofs.YtiplcokpckkopaaDoor
