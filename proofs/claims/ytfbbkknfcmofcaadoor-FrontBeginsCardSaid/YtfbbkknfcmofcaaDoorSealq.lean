/- The plain proofs. Written by a program (wip/tools/gen.py). -/
import Derived.Test.YtfbbkknfcmofcaaDoorSealp
namespace Go.Proofs.YtfbbkknfcmofcaaDoor
open Go.Sy Go.RatLaw
set_option linter.unusedVariables false
set_option linter.unusedSimpArgs false
theorem p_rin (n a b : Int) : P_rin n a b := rfl
theorem p_rID (n : Int) : P_rID n := rfl
theorem strB_len (q : ByteArray) : (strB q).length = q.size := by unfold strB; rw [List.length_map]; rfl
theorem any_get {p : Int → Bool} {l : List Int} {k : Nat} (hk : k < l.length) (h : p (l.getD k 0) = true) : l.any p = true := List.any_eq_true.2 ⟨_, memG 0 hk, h⟩
theorem any_no {p : Int → Bool} {l : List Int} (h : ∀ k, k < l.length → p (l.getD k 0) = false) : l.any p = false := by
  rw [List.any_eq_false]
  intro x hx
  obtain ⟨k, hk, e⟩ := List.mem_iff_getElem.1 hx
  have := h k hk
  rw [List.getD_eq_getElem?_getD, List.getElem?_eq_getElem hk, Option.getD_some, e] at this
  rw [this]; simp
theorem p_rin37 (n a b : Int) : P_rin37 n a b := rfl
theorem p_rEntry (t k a b c g : Int) : P_rEntry t k a b c g := by
  refine ⟨fun h => ?_, fun h0 => ⟨fun h => ?_, fun n1 => ⟨fun h => ?_, fun n2 => ⟨fun h => ?_, fun n3 => ⟨fun h => ?_, fun n4 => ⟨fun h => ?_, fun n5 => ?_⟩⟩⟩⟩⟩⟩
  · unfold entryB; rw [show rngB t 0 1000000000 = false by simpa using h]; rfl
  all_goals
    rw [Bool.not_eq_false'] at h0
    unfold entryB kindB
    rw [h0, Bool.true_and]
  · have h := eq_of_beq h; subst h; rw [if_pos rfl, beqD, beqD]
  · have h := eq_of_beq h; subst h; rw [if_neg (by decide), if_pos rfl, beqD, beqD]
  · have h := eq_of_beq h; subst h; rw [if_neg (by decide), if_neg (by decide), if_pos rfl, beqD, beqD, beqD]
  · have h := eq_of_beq h; subst h; rw [if_neg (by decide), if_neg (by decide), if_neg (by decide), if_pos rfl, beqD, beqD, beqD]
  · have h := eq_of_beq h; subst h; rw [if_neg (by decide), if_neg (by decide), if_neg (by decide), if_neg (by decide), if_pos rfl, beqD]
  · rw [if_neg (by simpa using n1), if_neg (by simpa using n2), if_neg (by simpa using n3), if_neg (by simpa using n4), if_neg (by simpa using n5)]
theorem p_kinds : P_kinds := by unfold P_kinds; rfl
def limOf (k : Int) : Option Lim := mget (α := Int) (β := Lim) (Ty.beq (.ti .i64)) k kMap
def lim0 : Lim := (((0, 0), ((0, 0), (0, 0))), false)
theorem lim_eq (k : Int) : limOf k = if k = 1 then some (((1, 1000000), ((1, 1000000), (0, 0))), false) else if k = 2 then some (((1, 1000000), ((0, 0), (0, 0))), true) else if k = 3 then some (((0, 1000), ((0, 0), (0, 0))), false) else if k = 4 then some (((0, 0), ((0, 0), (0, 0))), true) else if k = 5 then some (((1, 1000000), ((1, 20000), (1, 1000000))), false) else none := by
  have e : ∀ a b : Int, Ty.beq (.ti .i64) a b = decide (a = b) := fun a b => by
    show (a == b) = _
    exact beqD a b
  unfold limOf kMap
  simp only [mget, e, decide_eq_true_iff]
theorem entry_lim (t k a b c g : Int) : entryB t k a b c g = ((limOf k).isSome && rngB t 0 1000000000 && (((limOf k).getD lim0).2 || decide (g = 0)) && rngB a ((limOf k).getD lim0).1.1.1 ((limOf k).getD lim0).1.1.2 && rngB b ((limOf k).getD lim0).1.2.1.1 ((limOf k).getD lim0).1.2.1.2 && rngB c ((limOf k).getD lim0).1.2.2.1 ((limOf k).getD lim0).1.2.2.2) := by
  rw [lim_eq]
  unfold entryB kindB idB rngB
  rw [Bool.eq_iff_iff]
  by_cases h1 : k = 1
  · simp [h1]; omega
  · by_cases h2 : k = 2
    · simp [h2]; omega
    · by_cases h3 : k = 3
      · simp [h3]; omega
      · by_cases h4 : k = 4
        · simp [h4]; omega
        · by_cases h5 : k = 5
          · simp [h5]; omega
          · simp [h1, h2, h3, h4, h5]
theorem p_formed (t k a b c g : Int) : P_formed t k a b c g := by
  have hE := entry_lim t k a b c g
  unfold P_formed
  generalize hm : mget (Ty.ti IntKind.i64).beq k kMap = m
  have hm' : limOf k = m := hm
  rw [hm'] at hE
  generalize hL : m.getD ((((Ty.ti IntKind.i64).tp (Ty.ti IntKind.i64)).tp (((Ty.ti IntKind.i64).tp (Ty.ti IntKind.i64)).tp ((Ty.ti IntKind.i64).tp (Ty.ti IntKind.i64)))).tp Ty.tb).d0 = L
  have hL' : m.getD lim0 = L := hL
  rw [hL'] at hE
  clear hL hL' hm hm'
  rw [hE]
  have no : ∀ {x lo hi : Int}, (decide (x < lo) || decide (x > hi)) = true → rngB x lo hi = false := fun h => by
    unfold rngB
    rw [Bool.or_eq_true, decide_eq_true_iff, decide_eq_true_iff] at h
    rw [Bool.and_eq_false_iff, decide_eq_false_iff_not, decide_eq_false_iff_not]; omega
  have yes : ∀ {x lo hi : Int}, (decide (x < lo) || decide (x > hi)) = false → rngB x lo hi = true := fun h => by
    unfold rngB
    rw [Bool.or_eq_false_iff, decide_eq_false_iff_not, decide_eq_false_iff_not] at h
    rw [Bool.and_eq_true, decide_eq_true_iff, decide_eq_true_iff]; omega
  refine ⟨fun h => ?_, fun h => ⟨fun _ => ⟨by omega, by omega, by omega, by omega, by omega, by omega, fun _ => ⟨by omega, by omega⟩, fun _ => ⟨by omega, by omega⟩, fun ha => by rw [no ha]; simp, fun ha => ⟨by unfold InI64; omega,
    fun _ => ⟨by omega, by omega, by omega, by omega, by omega, by omega, fun _ => ⟨by omega, by omega⟩, fun _ => ⟨by omega, by omega⟩, fun hb => by rw [no hb]; simp, fun hb => ⟨by unfold InI64; omega,
    fun _ => ⟨by omega, by omega, by omega, by omega, by omega, by omega, fun _ => ⟨by omega, by omega⟩, fun _ => ⟨by omega, by omega⟩, fun hc => by rw [no hc]; simp, fun hc => ⟨by unfold InI64; omega, fun h => absurd h (by decide), fun _ => ?_⟩⟩,
    fun h => absurd h (by decide)⟩⟩, fun h => absurd h (by decide)⟩⟩, fun h => absurd h (by decide)⟩⟩
  · rw [eq_comm, Bool.eq_false_iff]
    intro hh
    simp only [Bool.and_eq_true] at hh
    obtain ⟨⟨⟨⟨⟨h1, h2⟩, h3⟩, _⟩, _⟩, _⟩ := hh
    unfold rngB at h2
    rw [Bool.and_eq_true, decide_eq_true_iff, decide_eq_true_iff] at h2
    rw [h1, decide_eq_false (show ¬ t < 0 by omega), decide_eq_false (show ¬ t > 1000000000 by omega)] at h
    rw [Bool.or_eq_true, decide_eq_true_iff] at h3
    rcases h3 with h3 | h3
    · rw [h3] at h; simp at h
    · rw [h3] at h; simp at h
  · simp only [Bool.or_eq_false_iff, Bool.not_eq_false', decide_eq_false_iff_not, Bool.and_eq_false_iff, Bool.not_eq_false'] at h
    obtain ⟨⟨⟨h1, h2⟩, h3⟩, h4⟩ := h
    have ht : rngB t 0 1000000000 = true := by unfold rngB; rw [Bool.and_eq_true, decide_eq_true_iff, decide_eq_true_iff]; omega
    have hg : (L.2 || decide (g = 0)) = true := by
      rcases h4 with h4 | h4
      · rw [h4]; rfl
      · rw [show g = 0 by simpa using h4]; simp
    rw [h1, ht, hg, yes ha, yes hb, yes hc]; rfl
theorem hi_eq {g : Int} (h0 : 0 ≤ g) (h1 : g < 18446744073709551616) : shrW .u64 g 32 = hiD g := by
  unfold shrW hiD
  rw [show (2 : Int) ^ (min (32 : Int).toNat IntKind.u64.bits) = 4294967296 from rfl, Int.fdiv_eq_ediv_of_nonneg _ (by omega)]
theorem lo_eq {g : Int} (h0 : 0 ≤ g) (h1 : g < 18446744073709551616) : andW .u64 g 4294967295 = loD g := by
  unfold andW loD
  have e : (BitVec.ofInt IntKind.u64.bits g &&& BitVec.ofInt IntKind.u64.bits 4294967295).toNat = g.toNat % 4294967296 := by
    rw [BitVec.toNat_and, BitVec.toNat_ofInt, BitVec.toNat_ofInt]
    have e1 : (g % ((2 ^ IntKind.u64.bits : Nat) : Int)).toNat = g.toNat := by
      rw [show ((2 ^ IntKind.u64.bits : Nat) : Int) = 18446744073709551616 from rfl, Int.emod_eq_of_lt h0 h1]
    have e2 : ((4294967295 : Int) % ((2 ^ IntKind.u64.bits : Nat) : Int)).toNat = 2 ^ 32 - 1 := by decide
    rw [e1, e2, Nat.and_two_pow_sub_one_eq_mod]
  rw [e, wrap_u64]
  omega
theorem E6d0 : (E6T.d0 : E6T.T) = en0 := rfl
theorem lists_succ (s : Int) {l : List En} {k : Nat} (h : k < l.length) : listsE s (l.take (k + 1)) = listsE s (l.take k) ++ [intsE (l.getD k en0)] := by
  unfold listsE; rw [takeG en0 h, List.map_append]; rfl
theorem lists_len (s : Int) (l : List En) (k : Nat) (h : k ≤ l.length) : (List.map intsE (List.take k l)).length = k := by rw [List.length_map, List.length_take]; omega
theorem inE_at {l : List En} (h : inE l) {k : Nat} (hk : k < l.length) : 0 ≤ (l.getD k en0).2.2.2.2.2 ∧ (l.getD k en0).2.2.2.2.2 < 18446744073709551616 := (h _ (memG en0 hk)).2.2.2.2.2
theorem hi_lo {g : Int} (h0 : 0 ≤ g) (h1 : g < 18446744073709551616) : 0 ≤ hiD g ∧ hiD g < 4294967296 ∧ 0 ≤ loD g ∧ loD g < 4294967296 := by unfold hiD loD; omega
theorem lists_ok {s : Int} {l : List En} (hs : InI64 s) (hl : inE l) : okL (listsE s l) := by
  intro x hx
  rcases List.mem_cons.1 hx with rfl | hx
  · exact ⟨fun n hn => by rw [List.mem_singleton.1 hn]; exact hs, by simp⟩
  · obtain ⟨e, he, rfl⟩ := List.mem_map.1 hx
    obtain ⟨h1, h2, h3, h4, h5, h6, h7⟩ := hl e he
    have := hi_lo h6 h7
    refine ⟨fun n hn => ?_, by simp [intsE]⟩
    simp only [intsE, List.mem_cons, List.not_mem_nil, or_false] at hn
    rcases hn with rfl | rfl | rfl | rfl | rfl | rfl | rfl <;> first | assumption | (unfold InI64; omega)
theorem chainE_ne {s : Int} {l : List En} (h : l ≠ []) : chainE s l = chainS (listsE s l) := by unfold chainE; rw [if_neg h]
theorem len_nil {α : Type} {l : List α} (h : ((l.length : Int) == 0) = true) : l = [] := by
  have := eq_of_beq h
  exact List.length_eq_zero_iff.1 (by omega)
theorem len_ne {α : Type} {l : List α} (h : ((l.length : Int) == 0) = false) : l ≠ [] := fun e => by subst e; simp at h
theorem p_bChain (s : Int) (l : List En) (h : Int) (hs : InI64 s) (hl : inE l) (hn : l.length ≤ 1000000) : P_bChain s l h := by
  intro _
  refine ⟨fun h0 => by rw [len_nil h0]; rfl, fun h0 _ => ⟨⟨0, Nat.zero_le _, rfl, rfl, rfl⟩, fun k hk => ⟨fun hlt => ?_, fun hge => ?_⟩⟩⟩
  · have hlt' : k < l.length := by have := of_decide_eq_true hlt; omega
    simp only [tnG, E6d0, lists_len s l k hk]
    have hg := inE_at hl hlt'
    have hh := hi_lo hg.1 hg.2
    rw [hi_eq hg.1 hg.2, lo_eq hg.1 hg.2]
    refine ⟨by omega, by omega, by omega, by unfold InI64; omega, by unfold InI64; omega, (by first | rfl | trivial), by omega, by unfold InI64; omega, k + 1, by omega, by omega, by omega, by rw [lists_succ s hlt']; rfl, (by first | rfl | trivial), (by first | rfl | trivial), (by first | rfl | trivial), (by first | rfl | trivial), (by first | rfl | trivial), (by first | rfl | trivial), (by first | rfl | trivial), by rw [lists_len s l (k + 1) (by omega)], by (repeat' (first | rfl | trivial | apply And.intro))⟩
  · have hge' : k = l.length := by have := of_decide_eq_false hge; omega
    rw [hge', List.take_length, chainE_ne (len_ne h0)]
    exact ⟨lists_ok hs hl, rfl⟩
theorem p_sValid (s : Int) (l : List En) (h : Int) (hs : InI64 s) (hl : inE l) : P_sValid s l h := ⟨hs, hl, rfl⟩
theorem p_rInts (t k a b c g : Int) (h : 0 ≤ g ∧ g < 18446744073709551616) : P_rInts t k a b c g := by
  have e1 : IntKind.u64.wrap (g.tdiv 4294967296) = hiD g := by
    rw [wrap_u64, Int.tdiv_eq_ediv_of_nonneg h.1]; unfold hiD; omega
  have e2 : g.tmod 4294967296 = loD g := by rw [Int.tmod_eq_emod_of_nonneg h.1]; rfl
  have := hi_lo h.1 h.2
  unfold P_rInts
  rw [e1, e2]
  exact ⟨by decide, by unfold InI64; omega, by decide, by unfold InI64; omega, rfl⟩
theorem lastE_succ {l : List En} {k : Nat} : lastE l (k + 1) = (l.getD k en0).1 := by simp [lastE]
theorem ents_step {l : List En} {k : Nat} (h : k < l.length) : entsFrom (lastE l k) (l.drop k) = (entB (l.getD k en0) && decide (lastE l k ≤ (l.getD k en0).1) && entsFrom (lastE l (k + 1)) (l.drop (k + 1))) := by
  rw [dropG en0 h, entsFrom, lastE_succ]
theorem ents_end {l : List En} {k : Nat} (h : ¬ k < l.length) : entsFrom (lastE l k) (l.drop k) = true := by
  rw [List.drop_eq_nil_of_le (by omega)]; rfl
theorem ent_time {e : En} (h : entB e = true) : 0 ≤ e.1 := by
  unfold entB entryB rngB at h
  simp only [Bool.and_eq_true, decide_eq_true_iff] at h
  exact h.1.1
theorem ent_cond {l : List En} {k : Nat} : (!entB (l.getD k en0) || decide ((k : Int) > 0) && decide ((l.getD k en0).1 < (l.getD ((k : Int) - 1).toNat en0).1)) = !(entB (l.getD k en0) && decide (lastE l k ≤ (l.getD k en0).1)) := by
  by_cases he : entB (l.getD k en0) = true
  · rw [he]
    cases k with
    | zero =>
      have := ent_time he
      unfold lastE
      rw [if_pos rfl, decide_eq_true this, decide_eq_false (show ¬ (((0 : Nat) : Int) > 0) by omega)]; rfl
    | succ k =>
      rw [lastE_succ, show (((k + 1 : Nat) : Int) - 1).toNat = k by omega, decide_eq_true (show ((k + 1 : Nat) : Int) > 0 by omega)]
      by_cases hq : (l.getD (k + 1) en0).1 < (l.getD k en0).1
      · rw [decide_eq_true hq, decide_eq_false (show ¬ (l.getD k en0).1 ≤ (l.getD (k + 1) en0).1 by omega)]; rfl
      · rw [decide_eq_false hq, decide_eq_true (show (l.getD k en0).1 ≤ (l.getD (k + 1) en0).1 by omega)]; rfl
  · simp only [Bool.not_eq_true] at he; rw [he]; rfl
theorem log_no {s : Int} {l : List En} {h : Int} (e : entsFrom 0 l = false) : logB s l h = false := by unfold logB; rw [e]; simp
theorem log_yes {s : Int} {l : List En} {h : Int} (h1 : idB s = true) (h2 : l.length ≤ 5000) (h3 : entsFrom 0 l = true) : logB s l h = decide (h = chainE s l) := by unfold logB; rw [h1, h3, decide_eq_true h2]; rfl
theorem id_cond (s : Int) : (decide (s < 1) || decide (s > 1000000)) = !idB s := by
  unfold idB rngB; rw [Bool.eq_iff_iff]; simp only [Bool.or_eq_true, decide_eq_true_iff, Bool.not_eq_true', Bool.and_eq_false_iff, decide_eq_false_iff_not]; omega
theorem p_right (s : Int) (l : List En) (h : Int) (hs : InI64 s) (hl : inE l) : P_right s l h := by
  unfold P_right
  rw [id_cond]
  intro _
  refine ⟨fun h0 => ?_, fun h0 _ => ⟨⟨0, ⟨Nat.zero_le _, rfl⟩, rfl⟩, fun k ⟨hk, he⟩ => ⟨fun hlt => ?_, fun hge => ?_⟩⟩⟩
  · rw [eq_comm, Bool.eq_false_iff]
    intro hh
    unfold logB at hh
    simp only [Bool.and_eq_true, decide_eq_true_iff] at hh
    rw [hh.1.1.1, decide_eq_false (by omega)] at h0
    simp at h0
  · have hlt' : k < l.length := by have := of_decide_eq_true hlt; omega
    simp only [Bool.or_eq_false_iff, decide_eq_false_iff_not] at h0
    simp only [tnG, E6d0]
    have ec : ∀ e : En, entryB e.1 e.2.1 e.2.2.1 e.2.2.2.1 e.2.2.2.2.1 e.2.2.2.2.2 = entB e := fun _ => rfl
    simp only [ec]
    rw [ent_cond]
    have hb : l.length ≤ 5000 := by omega
    refine ⟨by omega, by omega, fun _ => by unfold InI64; omega, fun q => by have := of_decide_eq_true q.1; omega, fun hbad => ?_, fun hgood => ⟨by unfold InI64; omega, k + 1, ⟨by omega, ?_⟩, by omega, by omega, by (repeat' (first | rfl | trivial | apply And.intro))⟩⟩
    · rw [Bool.not_eq_true'] at hbad
      rw [log_no (by rw [he, ents_step hlt', hbad]; rfl)]
    · rw [Bool.not_eq_false'] at hgood
      rw [he, ents_step hlt', hgood]; rfl
  · have hge' : ¬ k < l.length := by have := of_decide_eq_false hge; omega
    simp only [Bool.or_eq_false_iff, decide_eq_false_iff_not, Bool.not_eq_false'] at h0
    refine ⟨hs, hl, by omega, ?_⟩
    rw [log_yes h0.1 (by omega) (by rw [he, ents_end hge']), beqD]
theorem p_rValidL (s : Int) (l : List En) (h : Int) (hs : InI64 s) (hl : inE l) : P_rValidL s l h := by
  intro _
  refine ⟨fun h0 => ?_, fun h0 => ⟨⟨0, ⟨Nat.zero_le _, rfl⟩, rfl⟩, fun k ⟨hk, he⟩ _ => ⟨fun hlt => ?_, fun hge => ?_⟩⟩⟩
  · rw [eq_comm, Bool.eq_false_iff]
    intro hh
    unfold logB at hh
    simp only [Bool.and_eq_true, decide_eq_true_iff] at hh
    rw [hh.1.1.1, decide_eq_false (by omega)] at h0
    simp at h0
  · have hlt' : k < l.length := by have := of_decide_eq_true hlt; omega
    simp only [Bool.or_eq_false_iff, decide_eq_false_iff_not] at h0
    simp only [tnG, E6d0]
    have ec : ∀ e : En, entryB e.1 e.2.1 e.2.2.1 e.2.2.2.1 e.2.2.2.2.1 e.2.2.2.2.2 = entB e := fun _ => rfl
    simp only [ec]
    rw [ent_cond]
    have hb : l.length ≤ 5000 := by omega
    refine ⟨by omega, by omega, fun _ => ⟨by omega, by omega⟩, fun _ => by unfold InI64; omega, fun q => by have := of_decide_eq_true q.1; omega, fun hbad => ?_, fun hgood => ⟨by unfold InI64; omega, k + 1, ⟨by omega, ?_⟩, by omega, by omega, by (repeat' (first | rfl | trivial | apply And.intro))⟩⟩
    · rw [Bool.not_eq_true'] at hbad
      rw [log_no (by rw [he, ents_step hlt', hbad]; rfl)]
    · rw [Bool.not_eq_false'] at hgood
      rw [he, ents_step hlt', hgood]; rfl
  · have hge' : ¬ k < l.length := by have := of_decide_eq_false hge; omega
    simp only [Bool.or_eq_false_iff, decide_eq_false_iff_not, Bool.not_eq_false'] at h0
    refine ⟨hs, hl, by omega, ?_⟩
    rw [log_yes h0.1 (by omega) (by rw [he, ents_end hge']), beqD]
theorem p_rChainE (s : Int) (l : List En) (hs : InI64 s) (hl : inE l) (hn : l.length ≤ 1000000) : P_rChainE s l := by
  intro _
  refine ⟨fun h0 => by rw [len_nil h0]; rfl, fun h0 => ⟨(by first | rfl | trivial), by decide, ⟨0, Nat.zero_le _, rfl, rfl, rfl⟩, fun k hk _ => ⟨fun hlt => ?_, fun hge => ?_⟩⟩⟩
  · have hlt' : k < l.length := by have := of_decide_eq_true hlt; omega
    simp only [tnG, E6d0, lists_len s l k hk]
    have hg := inE_at hl hlt'
    refine ⟨by omega, by omega, hg, (by first | rfl | trivial), by omega, by unfold InI64; omega, k + 1, by omega, by omega, by omega, by rw [lists_succ s hlt']; rfl, (by first | rfl | trivial), (by first | rfl | trivial), (by first | rfl | trivial), (by first | rfl | trivial), by rw [lists_len s l (k + 1) (by omega)], by (repeat' (first | rfl | trivial | apply And.intro))⟩
  · have hge' : k = l.length := by have := of_decide_eq_false hge; omega
    rw [hge', List.take_length, chainE_ne (len_ne h0)]
    exact ⟨lists_ok hs hl, rfl⟩
theorem eq6 (e f : En) : (e.1 == f.1 && (e.2.1 == f.2.1 && (e.2.2.1 == f.2.2.1 && (e.2.2.2.1 == f.2.2.2.1 && (e.2.2.2.2.1 == f.2.2.2.2.1 && e.2.2.2.2.2 == f.2.2.2.2.2))))) = decide (e = f) := by
  obtain ⟨a, b, c, d, x, y⟩ := e
  obtain ⟨a', b', c', d', x', y'⟩ := f
  rw [Bool.eq_iff_iff]
  simp only [Bool.and_eq_true, beq_iff_eq, decide_eq_true_iff, Prod.mk.injEq]
theorem not_dec_t {p : Prop} [Decidable p] (h : (!decide p) = true) : ¬ p := by simpa using h
theorem not_dec_f {p : Prop} [Decidable p] (h : (!decide p) = false) : p := by simpa using h
theorem p_eqE (l m : List En) : P_eqE l m := by
  intro _ _
  refine ⟨fun h => ?_, fun h _ => ⟨⟨0, ⟨Nat.zero_le _, rfl⟩, rfl⟩, fun k ⟨hk, he⟩ => ⟨fun hlt => ?_, fun hge => ?_⟩⟩⟩
  · unfold sameE
    rw [decide_eq_false]
    intro e; subst e; simp at h
  · have hlt' : k < l.length := by have := of_decide_eq_true hlt; omega
    have hm : l.length = m.length := by simp at h; omega
    simp only [tnG, E6d0]
    rw [eq6]
    refine ⟨by omega, by omega, by omega, by omega, fun hb => ?_, fun hg => ⟨by unfold InI64; omega, k + 1, ⟨by omega, ?_⟩, by omega, by omega, by (repeat' (first | rfl | trivial | apply And.intro))⟩⟩
    · have hb := not_dec_t hb
      unfold sameE
      rw [decide_eq_false]
      intro e; subst e; exact hb rfl
    · rw [takeG en0 hlt', takeG en0 (show k < m.length by omega), he, not_dec_f hg]
  · have hge' : k = l.length := by have := of_decide_eq_false hge; omega
    have hm : l.length = m.length := by simp at h; omega
    rw [hge', List.take_length, hm, List.take_length] at he
    unfold sameE
    rw [decide_eq_true he]
theorem p_clN1 : P_clN1 := ⟨fun _ => ⟨rfl, rfl⟩, (fun h => by cases h)⟩
theorem p_clN2 (l : List En) (h : l.length ≤ 5000) : P_clN2 l := ⟨(fun h => by cases h), fun _ => ⟨rfl, by omega, by omega, rfl⟩⟩
theorem idB_i {n : Int} (h : idB n = true) : InI64 n := by
  unfold idB rngB at h
  rw [Bool.and_eq_true, decide_eq_true_iff, decide_eq_true_iff] at h
  unfold InI64; omega
theorem rngB_i {n lo hi : Int} (h : rngB n lo hi = true) : lo ≤ n ∧ n ≤ hi := by
  unfold rngB at h
  rw [Bool.and_eq_true, decide_eq_true_iff, decide_eq_true_iff] at h
  exact h
theorem ent_in {t k a b c g : Int} (h : entryB t k a b c g = true) : InI64 t ∧ InI64 k ∧ InI64 a ∧ InI64 b ∧ InI64 c := by
  unfold entryB at h
  rw [Bool.and_eq_true] at h
  obtain ⟨ht, h⟩ := h
  have ht := rngB_i ht
  refine ⟨by unfold InI64; omega, ?_⟩
  unfold kindB idB rngB at h
  unfold InI64
  split at h
  · simp only [Bool.and_eq_true, decide_eq_true_iff] at h; omega
  split at h
  · simp only [Bool.and_eq_true, decide_eq_true_iff] at h; omega
  split at h
  · simp only [Bool.and_eq_true, decide_eq_true_iff] at h; omega
  split at h
  · simp only [Bool.and_eq_true, decide_eq_true_iff] at h; omega
  split at h
  · simp only [Bool.and_eq_true, decide_eq_true_iff] at h; omega
  · cases h
theorem inE_app {l : List En} {t k a b c g : Int} (hl : inE l) (h : entryB t k a b c g = true) (hg : 0 ≤ g ∧ g < 18446744073709551616) : inE (l ++ [(t, k, a, b, c, g)]) := by
  intro e he
  rcases List.mem_append.1 he with he | he
  · exact hl e he
  · rw [List.mem_singleton.1 he]
    have := ent_in h
    exact ⟨this.1, this.2.1, this.2.2.1, this.2.2.2.1, this.2.2.2.2, hg⟩
theorem app_no {s : Int} {l : List En} {h t k a b c g : Int} (e : (!logB s l h || !entryB t k a b c g) = true) : appS s l h (t, k, a, b, c, g) = ((0, ([], 0)), 1) := by
  unfold appS entB
  rw [if_neg]
  intro q
  rw [Bool.and_eq_true] at q
  rw [q.1, q.2] at e
  cases e
theorem app_yes {s : Int} {l : List En} {h t k a b c g : Int} (e : (!logB s l h || !entryB t k a b c g) = false) : logB s l h = true ∧ entryB t k a b c g = true := by
  rw [Bool.or_eq_false_iff, Bool.not_eq_false', Bool.not_eq_false'] at e; exact e
theorem app_if {s : Int} {l : List En} {h t k a b c g : Int} (e : logB s l h = true ∧ entryB t k a b c g = true) : appS s l h (t, k, a, b, c, g) = if l.length = 5000 then ((0, ([], 0)), 2) else if 0 < l.length ∧ t < lastE l l.length then ((0, ([], 0)), 6) else ((s, (l ++ [(t, k, a, b, c, g)], chainE s (l ++ [(t, k, a, b, c, g)]))), 0) := by
  unfold appS entB
  rw [if_pos (by rw [Bool.and_eq_true]; exact e)]
theorem log_len {s : Int} {l : List En} {h : Int} (e : logB s l h = true) : l.length ≤ 5000 := by
  unfold logB at e
  simp only [Bool.and_eq_true, decide_eq_true_iff] at e
  exact e.1.1.2
theorem last_cond {l : List En} {t : Int} : ((decide ((l.length : Int) > 0) && decide (t < (l.getD ((l.length : Int) - 1).toNat en0).1)) = true) ↔ (0 < l.length ∧ t < lastE l l.length) := by
  rw [Bool.and_eq_true, decide_eq_true_iff, decide_eq_true_iff]
  constructor
  · intro ⟨h1, h2⟩
    refine ⟨by omega, ?_⟩
    unfold lastE
    rw [if_neg (by omega)]
    rw [show ((l.length : Int) - 1).toNat = l.length - 1 by omega] at h2
    exact h2
  · intro ⟨h1, h2⟩
    refine ⟨by omega, ?_⟩
    unfold lastE at h2
    rw [if_neg (by omega)] at h2
    rw [show ((l.length : Int) - 1).toNat = l.length - 1 by omega]
    exact h2
theorem p_sAppend (s : Int) (l : List En) (h t k a b c g : Int) (hs : InI64 s) (hl : inE l) (_ht : InI64 t) (hg : 0 ≤ g ∧ g < 18446744073709551616) : P_sAppend s l h t k a b c g := by
  intro _
  refine ⟨hs, hl, fun e => by rw [app_no e]; exact ⟨rfl, rfl, rfl, rfl⟩, fun e => ?_⟩
  have hy := app_yes e
  rw [app_if hy]
  simp only [E6d0]
  have hn := log_len hy.1
  refine ⟨fun q => ?_, fun q => ⟨fun _ => by unfold InI64; omega, fun q => by have := of_decide_eq_true q; omega, fun q2 => ?_, fun q2 => ?_⟩⟩
  · rw [if_pos (by have := eq_of_beq q; omega)]; exact ⟨rfl, rfl, rfl, rfl⟩
  · have q' : ¬ l.length = 5000 := by simp at q; omega
    rw [if_neg q', if_pos (last_cond.1 q2)]; exact ⟨rfl, rfl, rfl, rfl⟩
  · have q' : ¬ l.length = 5000 := by simp at q; omega
    rw [if_neg q', if_neg (fun x => absurd (q2.symm.trans (last_cond.2 x)) (by decide))]
    refine ⟨hn, by (repeat' (first | rfl | trivial | apply And.intro)), by omega, by simp, hs, inE_app hl hy.2 hg, by simp; omega, by simp, rfl, rfl, rfl, rfl⟩
theorem beg_no {s : Int} {l : List En} {h s' : Int} {l' : List En} {h' : Int} (e : (!logB s l h || !logB s' l' h') = true) : begS s l h s' l' h' = (false, 1) := by
  unfold begS
  rw [if_neg]
  intro q
  rw [Bool.and_eq_true] at q
  rw [q.1, q.2] at e
  cases e
theorem beg_yes {s : Int} {l : List En} {h s' : Int} {l' : List En} {h' : Int} (e : (!logB s l h || !logB s' l' h') = false) : begS s l h s' l' h' = (startsB s l s' l', 0) := by
  rw [Bool.or_eq_false_iff, Bool.not_eq_false', Bool.not_eq_false'] at e
  unfold begS
  rw [if_pos (by rw [e.1, e.2]; rfl)]
theorem p_sBegins (s : Int) (l : List En) (h s' : Int) (l' : List En) (h' : Int) (hs : InI64 s) (hl : inE l) (hs' : InI64 s') (hl' : inE l') : P_sBegins s l h s' l' h' := by
  refine ⟨hs, hl, fun _ => ⟨hs', hl'⟩, fun e => by rw [beg_no e]; exact ⟨rfl, rfl⟩, fun e _ => ⟨fun q => ?_, fun _ => ?_⟩⟩
  · simp at q; omega
  · rw [beg_yes e]
    refine ⟨?_, rfl⟩
    unfold startsB sameE
    rw [beqD, show ((l.length : Int)).toNat = l.length by omega, show (List.drop (Int.toNat 0) (List.take l.length l')) = List.take l.length l' from rfl]
    congr 2
    rw [Bool.eq_iff_iff, decide_eq_true_iff, decide_eq_true_iff]; omega
theorem p_rFewE (s : Int) (l : List En) (h : Int) : P_rFewE s l h := by
  intro _
  rw [Bool.eq_iff_iff, decide_eq_true_iff, decide_eq_true_iff]; omega
theorem mark_text {id kind y p d s ver note val : Int} {q : ByteArray} (h : markB id kind y p d s ver note val q = true) : q.size ≤ 200 := by
  unfold markB textB at h
  simp only [Bool.and_eq_true, decide_eq_true_iff] at h
  exact h.2.1
theorem rngB_in {n lo hi : Int} (h : rngB n lo hi = true) (h1 : -1000000000 ≤ lo) (h2 : hi ≤ 1000000000) : InI64 n := by
  have := rngB_i h
  unfold InI64; omega
theorem by_in {y p d s : Int} (h : byB y p d s = true) : InI64 y ∧ InI64 p ∧ InI64 d ∧ InI64 s := by
  unfold byB readerB idB rngB at h
  unfold InI64
  split at h
  · simp only [Bool.and_eq_true, decide_eq_true_iff] at h; omega
  split at h
  · simp only [Bool.and_eq_true, decide_eq_true_iff] at h; omega
  split at h
  · simp only [Bool.and_eq_true, decide_eq_true_iff] at h; omega
  split at h
  · simp only [Bool.and_eq_true, decide_eq_true_iff] at h; omega
  · cases h
theorem mark_in {id kind y p d s ver note val x : Int} {q : ByteArray} (h : markB id kind y p d s ver note val q = true) (hx : secretB x = true) : allI [x, id, kind, y, p, d, s, ver, note, val] := by
  unfold markB at h
  simp only [Bool.and_eq_true] at h
  obtain ⟨⟨⟨⟨⟨⟨h1, h2⟩, h3⟩, h4⟩, h5⟩, h6⟩, _⟩ := h
  obtain ⟨y1, y2, y3, y4⟩ := by_in h1
  have hv : InI64 val := rngB_in h6 (by omega) (by split <;> omega)
  have hk : InI64 kind := rngB_in h5 (by omega) (by omega)
  have hx : InI64 x := rngB_in hx (by omega) (by omega)
  have i1 := idB_i h2
  have i2 := idB_i h3
  have i3 := idB_i h4
  intro n hn
  simp only [List.mem_cons, List.not_mem_nil, or_false] at hn
  rcases hn with rfl | rfl | rfl | rfl | rfl | rfl | rfl | rfl | rfl | rfl <;> assumption
theorem sec_cond (m : Bool) (x : Int) : (m || decide (x < 1) || decide (x > 1000000000)) = (m || !secretB x) := by
  unfold secretB rngB
  rw [Bool.eq_iff_iff]
  simp only [Bool.or_eq_true, decide_eq_true_iff, Bool.not_eq_true', Bool.and_eq_false_iff, decide_eq_false_iff_not]
  constructor
  · rintro ((h | h) | h)
    · exact .inl h
    · right; left; omega
    · right; right; omega
  · rintro (h | h | h)
    · exact .inl (.inl h)
    · left; right; omega
    · right; omega
theorem seal_no {id kind y p d s ver note val x : Int} {q : ByteArray} (e : (!markB id kind y p d s ver note val q || !secretB x) = true) : sealS id kind y p d s ver note val q x = (0, 1) := by
  unfold sealS
  rw [if_neg]
  intro q
  rw [Bool.and_eq_true] at q
  rw [q.1, q.2] at e
  cases e
theorem seal_yes {id kind y p d s ver note val x : Int} {q : ByteArray} (e : (!markB id kind y p d s ver note val q || !secretB x) = false) : markB id kind y p d s ver note val q = true ∧ secretB x = true ∧ sealS id kind y p d s ver note val q x = (sealN id kind y p d s ver note val q x, 0) := by
  rw [Bool.or_eq_false_iff, Bool.not_eq_false', Bool.not_eq_false'] at e
  refine ⟨e.1, e.2, ?_⟩
  unfold sealS
  rw [if_pos (by rw [e.1, e.2]; rfl)]
end Go.Proofs.YtfbbkknfcmofcaaDoor
