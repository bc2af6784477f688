/- The library's decimal numerals in this program: the layings of the library's contract (written by the kit's tools), and strconv.Itoa as a contract of this proof. -/
import Derived.Shelf.LaysM
import Derived.Shelf.Strconv.Itoa3
import Derived.Test.YtiejdafjjneaeaaDoorLay
set_option linter.unusedSimpArgs false
set_option linter.unusedVariables false
namespace Go.Proofs
open Go.Shelf
def Tryd.laysM171_ren : Go.Shelf.Ren := ⟨fun | 171 => 20 | 243 => 24 | 246 => 25 | 283 => 26 | 284 => 27 | 285 => 28 | 286 => 29 | 129 => 31 | 317 => 30 | 318 => 32 | 319 => 33 | 320 => 34 | 337 => 35 | 338 => 36 | n => n, fun | 3 => 3 | 9 => 9 | 2 => 2 | 4 => 4 | 171 => 48 | 0 => 0 | 53 => 23 | 37 => 22 | 5 => 5 | 173 => 51 | 212 => 55 | 51 => 56 | 20 => 20 | 213 => 57 | 46 => 59 | 232 => 62 | 233 => 63 | n => n, fun | 17 => 0 | 18 => 1 | 19 => 2 | n => n⟩
theorem Tryd.laysM171 : Go.Proofs.LaysM.n171 Tryd.prog Tryd.laysM171_ren := {
  mixed := by kernel_rfl
  f129 := Tryd.func31.trans (congrArg some (by kernel_rfl))
  f171 := Tryd.func20.trans (congrArg some (by kernel_rfl))
  f243 := Tryd.func24.trans (congrArg some (by kernel_rfl))
  f246 := Tryd.func25.trans (congrArg some (by kernel_rfl))
  f283 := Tryd.func26.trans (congrArg some (by kernel_rfl))
  f284 := Tryd.func27.trans (congrArg some (by kernel_rfl))
  f285 := Tryd.func28.trans (congrArg some (by kernel_rfl))
  f286 := Tryd.func29.trans (congrArg some (by kernel_rfl))
  f317 := Tryd.func30.trans (congrArg some (by kernel_rfl))
  f318 := Tryd.func32.trans (congrArg some (by kernel_rfl))
  f319 := Tryd.func33.trans (congrArg some (by kernel_rfl))
  f320 := Tryd.func34.trans (congrArg some (by kernel_rfl))
  f337 := Tryd.func35.trans (congrArg some (by kernel_rfl))
  f338 := Tryd.func36.trans (congrArg some (by kernel_rfl))
  t0 := Tryd.underlying0
  a0 := Tryd.isAgg0
  z0 := Tryd.sizeOf0
  v0 := Tryd.zeroValue0
  t2 := Tryd.underlying2
  a2 := Tryd.isAgg2
  z2 := Tryd.sizeOf2
  v2 := Tryd.zeroValue2
  t3 := Tryd.underlying3
  a3 := Tryd.isAgg3
  z3 := Tryd.sizeOf3
  v3 := Tryd.zeroValue3
  t4 := Tryd.underlying4
  a4 := Tryd.isAgg4
  z4 := Tryd.sizeOf4
  v4 := Tryd.zeroValue4
  t5 := Tryd.underlying5
  a5 := Tryd.isAgg5
  z5 := Tryd.sizeOf5
  v5 := Tryd.zeroValue5
  t9 := Tryd.underlying9
  a9 := Tryd.isAgg9
  z9 := Tryd.sizeOf9
  v9 := Tryd.zeroValue9
  t20 := Tryd.underlying20
  a20 := Tryd.isAgg20
  z20 := Tryd.sizeOf20
  v20 := Tryd.zeroValue20
  t37 := Tryd.underlying22
  a37 := Tryd.isAgg22
  z37 := Tryd.sizeOf22
  v37 := Tryd.zeroValue22
  t46 := Tryd.underlying59
  a46 := Tryd.isAgg59
  z46 := Tryd.sizeOf59
  v46 := Tryd.zeroValue59
  t51 := Tryd.underlying56
  a51 := Tryd.isAgg56
  z51 := Tryd.sizeOf56
  v51 := Tryd.zeroValue56
  t53 := Tryd.underlying23
  a53 := Tryd.isAgg23
  z53 := Tryd.sizeOf23
  v53 := Tryd.zeroValue23
  t171 := Tryd.underlying48
  a171 := Tryd.isAgg48
  z171 := Tryd.sizeOf48
  v171 := Tryd.zeroValue48
  t173 := Tryd.underlying51
  a173 := Tryd.isAgg51
  z173 := Tryd.sizeOf51
  v173 := Tryd.zeroValue51
  t212 := Tryd.underlying55
  a212 := Tryd.isAgg55
  z212 := Tryd.sizeOf55
  v212 := Tryd.zeroValue55
  t213 := Tryd.underlying57
  a213 := Tryd.isAgg57
  z213 := Tryd.sizeOf57
  t232 := Tryd.underlying62
  a232 := Tryd.isAgg62
  z232 := Tryd.sizeOf62
  v232 := Tryd.zeroValue62
  t233 := Tryd.underlying63
  a233 := Tryd.isAgg63
  z233 := Tryd.sizeOf63
  v233 := Tryd.zeroValue63
  g17 := by kernel_rfl
  g18 := by kernel_rfl
  g19 := by kernel_rfl
  i0 := by kernel_rfl
  i2 := by kernel_rfl
  i3 := by kernel_rfl
  i4 := by kernel_rfl
  i5 := by kernel_rfl
  i9 := by kernel_rfl
  i20 := by kernel_rfl
  i37 := by kernel_rfl
  i46 := by kernel_rfl
  i51 := by kernel_rfl
  i53 := by kernel_rfl
  i171 := by kernel_rfl
  i173 := by kernel_rfl
  i212 := by kernel_rfl
  i232 := by kernel_rfl
  i233 := by kernel_rfl
  m17 := by kernel_rfl
  m18 := by kernel_rfl
  m19 := by kernel_rfl }
end Go.Proofs
namespace Go.Proofs.YtiejdafjjneaeaaDoor
open Go.Sy Go.Sort
theorem tabName_eq : tabName = String.append (String.append "internal" (String.singleton (Char.ofNat 47))) "strconv.uint64pow10" := rfl
theorem tab_cells : tabCells = (Lib.pow10Tab.map fun z => Value.int .u64 z).toArray := by
  unfold tabCells Lib.pow10Tab
  simp
theorem tab_is {P : Program} {w : World} {M : CM} (h : GInv P w M) (hs : (P.globalNamed tabName).isSome = true) : Lib.TabIs P w tabName .u64 Lib.pow10Tab := by
  obtain ⟨g, hg⟩ := Option.isSome_iff_exists.1 hs
  obtain ⟨⟨e, fz, h1⟩, _⟩ := h g hg
  unfold Lib.TabIs World.var?
  rw [hg]
  simp only [Option.bind_some, h1, tab_cells]
theorem fr_grow (w : World) (k : Nat) (os : Array Obj) : Fr (fun _ => False) w (grow (w.drewN k) os) := by
  have h : (w.drewN k).heap = w.heap := by simp [World.drewN]
  refine ⟨rfl, rfl, rfl, by simp [grow, h], fun j hj _ => ?_⟩
  simp only [grow, h]
  rw [Array.getElem?_append_left hj]
def c_itoa : PCon
  | [.one (.d (.lit (.int .i64 n)))] => some ([InI64 n], .t (.one (.d (.lit (.string ⟨(Lib.itoa n).toArray⟩)))))
  | _ => none
theorem ok20 : FnOk Tryd.prog 20 (CE.pu c_itoa).con := by
  refine fnOk_lib c_itoa (enters Tryd.func20 (c := Tryd.f20.body.getD .skip) (by kernel_rfl) (by kernel_rfl)) fun args cs r h hcs w M β D vals hg hargs => ?_
  unfold c_itoa at h
  split at h
  · rename_i n
    injection h with h; injection h with h1 h2
    subst h1 h2
    have hn : InI64 n := hcs _ (.head _)
    obtain ⟨v, hv, hx⟩ := hargs.one_left
    subst hv
    obtain rfl := VT.int hx
    refine (Any.strconv_Itoa Tryd.laysM171 n hn.1 hn.2 w (tab_is hg (by kernel_rfl))).mono fun e w' ⟨he, k, os, hw⟩ => ⟨_, he, ?_, VT.lit rfl⟩
    rw [hw]
    exact fr_grow w k os
  · cases h
end Go.Proofs.YtiejdafjjneaeaaDoor
