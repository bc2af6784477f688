/- The library's decimal numerals in this program: the layings of the library's contract (written by the kit's tools), and strconv.Itoa as a contract of this proof. -/
import Derived.Shelf.LaysM
import Derived.Shelf.Strconv.Itoa3
import Derived.Test.YtiplcokpckkopaaDoorLay
set_option linter.unusedSimpArgs false
set_option linter.unusedVariables false
namespace Go.Proofs
open Go.Shelf
def Tryd.laysM171_ren : Go.Shelf.Ren := ⟨fun | 171 => 63 | 243 => 69 | 246 => 71 | 283 => 74 | 284 => 75 | 285 => 76 | 286 => 77 | 129 => 79 | 317 => 78 | 318 => 80 | 319 => 81 | 320 => 82 | 337 => 83 | 338 => 84 | n => n, fun | 3 => 3 | 9 => 9 | 2 => 2 | 4 => 4 | 171 => 113 | 0 => 0 | 53 => 29 | 37 => 95 | 5 => 5 | 173 => 116 | 212 => 119 | 51 => 120 | 20 => 20 | 213 => 121 | 46 => 122 | 232 => 125 | 233 => 126 | n => n, fun | 17 => 0 | 18 => 1 | 19 => 2 | n => n⟩
theorem Tryd.laysM171 : Go.Proofs.LaysM.n171 Tryd.prog Tryd.laysM171_ren := {
 mixed := by kernel_rfl
 f129 := Tryd.func79.trans (congrArg some (by kernel_rfl))
 f171 := Tryd.func63.trans (congrArg some (by kernel_rfl))
 f243 := Tryd.func69.trans (congrArg some (by kernel_rfl))
 f246 := Tryd.func71.trans (congrArg some (by kernel_rfl))
 f283 := Tryd.func74.trans (congrArg some (by kernel_rfl))
 f284 := Tryd.func75.trans (congrArg some (by kernel_rfl))
 f285 := Tryd.func76.trans (congrArg some (by kernel_rfl))
 f286 := Tryd.func77.trans (congrArg some (by kernel_rfl))
 f317 := Tryd.func78.trans (congrArg some (by kernel_rfl))
 f318 := Tryd.func80.trans (congrArg some (by kernel_rfl))
 f319 := Tryd.func81.trans (congrArg some (by kernel_rfl))
 f320 := Tryd.func82.trans (congrArg some (by kernel_rfl))
 f337 := Tryd.func83.trans (congrArg some (by kernel_rfl))
 f338 := Tryd.func84.trans (congrArg some (by kernel_rfl))
 t0 := Tryd.underlying0
 a0 := Tryd.isAgg0
 z0 := Tryd.sizeOf0
 v0 := Tryd.zeroValue0
 t2 := Tryd.underlying2
 a2 := Tryd.isAgg2
 z2 := Tryd.sizeOf2
 v2 := Tryd.zeroValue2
 t3 := Tryd.underlying3
 a3 := Tryd.isAgg3
 z3 := Tryd.sizeOf3
 v3 := Tryd.zeroValue3
 t4 := Tryd.underlying4
 a4 := Tryd.isAgg4
 z4 := Tryd.sizeOf4
 v4 := Tryd.zeroValue4
 t5 := Tryd.underlying5
 a5 := Tryd.isAgg5
 z5 := Tryd.sizeOf5
 v5 := Tryd.zeroValue5
 t9 := Tryd.underlying9
 a9 := Tryd.isAgg9
 z9 := Tryd.sizeOf9
 v9 := Tryd.zeroValue9
 t20 := Tryd.underlying20
 a20 := Tryd.isAgg20
 z20 := Tryd.sizeOf20
 v20 := Tryd.zeroValue20
 t37 := Tryd.underlying95
 a37 := Tryd.isAgg95
 z37 := Tryd.sizeOf95
 v37 := Tryd.zeroValue95
 t46 := Tryd.underlying122
 a46 := Tryd.isAgg122
 z46 := Tryd.sizeOf122
 v46 := Tryd.zeroValue122
 t51 := Tryd.underlying120
 a51 := Tryd.isAgg120
 z51 := Tryd.sizeOf120
 v51 := Tryd.zeroValue120
 t53 := Tryd.underlying29
 a53 := Tryd.isAgg29
 z53 := Tryd.sizeOf29
 v53 := Tryd.zeroValue29
 t171 := Tryd.underlying113
 a171 := Tryd.isAgg113
 z171 := Tryd.sizeOf113
 v171 := Tryd.zeroValue113
 t173 := Tryd.underlying116
 a173 := Tryd.isAgg116
 z173 := Tryd.sizeOf116
 v173 := Tryd.zeroValue116
 t212 := Tryd.underlying119
 a212 := Tryd.isAgg119
 z212 := Tryd.sizeOf119
 v212 := Tryd.zeroValue119
 t213 := Tryd.underlying121
 a213 := Tryd.isAgg121
 z213 := Tryd.sizeOf121
 t232 := Tryd.underlying125
 a232 := Tryd.isAgg125
 z232 := Tryd.sizeOf125
 v232 := Tryd.zeroValue125
 t233 := Tryd.underlying126
 a233 := Tryd.isAgg126
 z233 := Tryd.sizeOf126
 v233 := Tryd.zeroValue126
 g17 := by kernel_rfl
 g18 := by kernel_rfl
 g19 := by kernel_rfl
 i0 := by kernel_rfl
 i2 := by kernel_rfl
 i3 := by kernel_rfl
 i4 := by kernel_rfl
 i5 := by kernel_rfl
 i9 := by kernel_rfl
 i20 := by kernel_rfl
 i37 := by kernel_rfl
 i46 := by kernel_rfl
 i51 := by kernel_rfl
 i53 := by kernel_rfl
 i171 := by kernel_rfl
 i173 := by kernel_rfl
 i212 := by kernel_rfl
 i232 := by kernel_rfl
 i233 := by kernel_rfl
 m17 := by kernel_rfl
 m18 := by kernel_rfl
 m19 := by kernel_rfl }
end Go.Proofs
namespace Go.Proofs.YtiplcokpckkopaaDoor
open Go.Sy Go.Sort
theorem tabName_eq : tabName = String.append (String.append "internal" (String.singleton (Char.ofNat 47))) "strconv.uint64pow10" := rfl
theorem tab_cells : tabCells = (Lib.pow10Tab.map fun z => Value.int .u64 z).toArray := by
 unfold tabCells Lib.pow10Tab
 simp
theorem tab_is {P : Program} {w : World} {M : CM} (h : GInv P w M) (hs : (P.globalNamed tabName).isSome = true) : Lib.TabIs P w tabName .u64 Lib.pow10Tab := by
 obtain ⟨g, hg⟩ := Option.isSome_iff_exists.1 hs
 obtain ⟨⟨e, fz, h1⟩, _⟩ := h g hg
 unfold Lib.TabIs World.var?
 rw [hg]
 simp only [Option.bind_some, h1, tab_cells]
theorem fr_grow (w : World) (k : Nat) (os : Array Obj) : Fr (fun _ => False) w (grow (w.drewN k) os) := by
 have h : (w.drewN k).heap = w.heap := by simp [World.drewN]
 refine ⟨rfl, rfl, rfl, by simp [grow, h], fun j hj _ => ?_⟩
 simp only [grow, h]
 rw [Array.getElem?_append_left hj]
def c_itoa : PCon
 | [.one (.d (.lit (.int .i64 n)))] => some ([InI64 n], .t (.one (.d (.lit (.string ⟨(Lib.itoa n).toArray⟩)))))
 | _ => none
theorem ok63 : FnOk Tryd.prog 63 (CE.pu c_itoa).con := by
 refine fnOk_lib c_itoa (enters Tryd.func63 (c := Tryd.f63.body.getD .skip) (by kernel_rfl) (by kernel_rfl)) fun args cs r h hcs w M β D vals hg hargs => ?_
 unfold c_itoa at h
 split at h
 ·rename_i n
  injection h with h; injection h with h1 h2
  subst h1 h2
  have hn : InI64 n := hcs _ (.head _)
  obtain ⟨v, hv, hx⟩ := hargs.one_left
  subst hv
  obtain rfl := VT.int hx
  refine (Any.strconv_Itoa Tryd.laysM171 n hn.1 hn.2 w (tab_is hg (by kernel_rfl))).mono fun e w' ⟨he, k, os, hw⟩ => ⟨_, he, ?_, VT.lit rfl⟩
  rw [hw]
  exact fr_grow w k os
 ·cases h
end Go.Proofs.YtiplcokpckkopaaDoor
