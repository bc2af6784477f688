import Derived.Test.YtcklbglladijlaaLay
import Derived.Shelf.RegionOpenPlain
import Derived.WalkKit
import Derived.Deep.LoopGhost
import Derived.Deep.RegionLaw
import Derived.Lib.Walk
import Derived.Sort.WalkB12
import Derived.Lib.SliceRun
import Derived.Lib.SlicesDelete
namespace Go.Proofs.Ytcklbglladijlaa
open Go.Sy Go.Lib Go.Sort Go.RowKit
set_option linter.unusedVariables false
theorem some_sets (b : Nat) : ∀ (vs : List Value) (o : Nat) (w : World) (x : Addr), (w.cell? x).isSome = true → ((w.setCells b o vs).cell? x).isSome = true
 | [], _, _, _, h => h
 | v :: r, o, w, x, h => some_sets b r (o + 1) _ x (by
  by_cases e : x = ⟨b, o, none⟩
  ·subst e
   have := World.cell?_setCells_in b [v] o w (fun j hj => by simp at hj; subst hj; exact h) 0 (by simp)
   simp only [World.setCells, Nat.add_zero] at this
   rw [this]; rfl
  ·rw [World.cell?_setCell_other _ _ _ _ (fun h => e h.symm)]; exact h)
theorem run_clear3 {P : Program} (w : World) (t e ty : TypeId) (z : Value) (ht : P.underlying t = some (.slice e)) (hv : ∀ w, (zeroValue e).run P w = .ok z w) (hz : z.cells = #[.int .i64 0, .int .i64 0, .int .i64 0]) (b o c : Nat)
  (hc : ∀ j, j < 3 → (w.cell? ⟨b, o + j, none⟩).isSome = true) (hf : ∀ j, j < 3 → w.frozen? ⟨b, o + j, none⟩ = false) :
  (Builtin.clear_ #[t] ty #[.slice (some ⟨b, o, none⟩) 1 c]).run P w = .ok (.tuple #[]) (w.setCells b o ([.int .i64 0, .int .i64 0, .int .i64 0])) := by
 have hzc : (Builtin.zeroCells z.cells 1).toList = [.int .i64 0, .int .i64 0, .int .i64 0] := by
  rw [hz]
  simp [Builtin.zeroCells]
  apply List.ext_getElem
  ·simp
  ·intro i h1 h2
   simp at h2
   rcases i with _ | _ | _ | i
   ·simp
   ·simp
   ·simp
   ·omega
 have hst := run_storeCells_cells (P := P) b o ([.int .i64 0, .int .i64 0, .int .i64 0]) 0 w (by simpa using hc) (by simpa using hf) (by intro v hv'; simp at hv'; subst hv'; rfl)
 simp only [Nat.add_zero] at hst
 simp [Builtin.clear_, run_underlying ht, hv, hzc, hst]
set_option linter.unusedSimpArgs false
set_option maxHeartbeats 4000000 in
set_option maxRecDepth 1000000 in
theorem del_run {P : Program} {f : FuncId} (hf : P.funcs[f]? = some Try.f74) (blk n cap i j : Nat) (w : World) (news : List Value) (hij : i < j) (hjn : j ≤ n) (hj1 : Hid (j = i + 1)) (hn : n ≤ cap) (hm : cap ≤ 9223372036854775807)
  (hnews : Hid (news.length = (n - j) * 3)) (A : Addr) (hA : (if cap = j then some (⟨blk, 0, none⟩ : Addr) else some ⟨blk, j * 3, none⟩) = some A)
  (hsrc : Hid (∀ t u, news[t]? = some u → w.drew.cell? (A.add t) = some u))
  (hone : Hid (∀ u ∈ news, u.oneCell' = true))
  (hcell : Hid (∀ j, j < n * 3 → (w.cell? ⟨blk, j, none⟩).isSome = true ∧ w.frozen? ⟨blk, j, none⟩ = false))
  (t26 : P.underlying 36 = some (.slice 67)) (t3 : P.underlying 3 = some (.int .i64)) (z32 : ∀ w, (Go.sizeOf 67).run P w = .ok 3 w) (z26 : ∀ w, (Go.sizeOf 36).run P w = .ok 1 w) (z3 : ∀ w, (Go.sizeOf 3).run P w = .ok 1 w)
  (i0 : TypeInfo) (hi0 : P.info? 67 = some i0) (hz3 : i0.size = 3) (z : Value) (v32 : ∀ w, (zeroValue 67).run P w = .ok z w) (hz : z.cells = #[.int .i64 0, .int .i64 0, .int .i64 0]) (mixed : P.follows .mixedOrders = true) :
  Calls P f #[.slice (some ⟨blk, 0, none⟩) n cap, .int .i64 i, .int .i64 j] w fun e w' => e = .returned (.slice (some ⟨blk, 0, none⟩) (n - 1) cap) ∧
   w' = (w.drew.setCells blk (i * 3) news).setCells blk ((n - 1) * 3) ([.int .i64 0, .int .i64 0, .int .i64 0]) := by
 have hic : i ≤ cap := by omega
 have hjc : j ≤ cap := by omega
 have hnt : Try.f74.ntmps = 33 := rfl
 obtain ⟨W1, hW1⟩ : ∃ W1, W1 = w.drew.setCells blk (0 + i * 3) news := ⟨_, rfl⟩
 have hW : Hid (W1 = w.drew.setCells blk (0 + i * 3) news) := hW1
 have hspare : Hid (∀ j, j < news.length → (w.drew.cell? ⟨blk, 0 + i * 3 + j, none⟩).isSome = true ∧ w.drew.frozen? ⟨blk, 0 + i * 3 + j, none⟩ = false) := fun t hj => by
  have := hcell (i * 3 + t) (by rw [hnews] at hj; have := hj1.out; omega)
  rw [Nat.zero_add]
  exact this
 have hcl : ∀ ty, (Builtin.clear_ #[36] ty #[.slice (some ⟨blk, (i + (n - j)) * 3, none⟩) (n - (i + (n - j))) (cap - (i + (n - j)))]).run P W1 = .ok (.tuple #[]) (W1.setCells blk ((i + (n - j)) * 3) ([.int .i64 0, .int .i64 0, .int .i64 0])) := fun ty => by
  have e1 : n - (i + (n - j)) = 1 := by have := hj1.out; omega
  have hh : ∀ t, t < 3 → (W1.cell? ⟨blk, (i + (n - j)) * 3 + t, none⟩).isSome = true ∧ W1.frozen? ⟨blk, (i + (n - j)) * 3 + t, none⟩ = false := fun t ht => by
   have := hcell ((i + (n - j)) * 3 + t) (by omega)
   rw [hW1]
   exact ⟨some_sets _ _ _ _ _ this.1, by rw [World.frozen?_setCells]; exact this.2⟩
  rw [e1]
  exact run_clear3 W1 36 67 ty z t26 v32 hz blk _ _ (fun j hj => (hh j hj).1) fun j hj => (hh j hj).2
 clear hW1
 go_enter hf, hnt
 unfold Try.f74
 try dsimp only [Option.getD, bodyPost]
 go_wp2_with fail
 go_region_law_o (refine step_append_room rfl (.tmp 22) (.tmp 25) 36 rfl 67 i0 3 t26 hi0 hz3 blk 0 i cap (by simp [Act.eval, Act.put]) A (n - j) (cap - j) news (by simp [Act.eval, Act.put]) hnews.out hsrc.out hone.out (by omega) hspare.out ?_; rw [← hW.out])
 go_wp2
 go_ret
 refine ⟨by rw [show n - 1 = i + (n - j) by have := hj1.out; omega]; rfl, ?_⟩
 rw [show n - 1 = i + (n - j) by have := hj1.out; omega, hW.out, Nat.zero_add]
end Go.Proofs.Ytcklbglladijlaa
