/- The tables of the library's that the rows list: what the list gives, and a world that holds them. -/
import Derived.Test.YtiplcokpckkopaaDoorCards
import Derived.Test.YtiplcokpckkopaaDoorTie
import Derived.Test.YtiplcokpckkopaaDoorIt
import Derived.Test.YtiplcokpckkopaaDoorSyZ
import Derived.Lib.SmallJoins
import Derived.SizedLaws
import Derived.Deep.DeepHandedRow
import Derived.Lib.LaidTab
import Derived.Stop.LaidErr
set_option linter.unusedSimpArgs false
set_option linter.unusedVariables false
namespace Go.Proofs.YtiplcokpckkopaaDoor
open Go.Sy Go.ChangeShapes Go.WideShapes Go.ChangeAt Go.RowKit
theorem tb_own : ownKnob Tryd.prog.godebug = none := by kernel_rfl
theorem tb_laidOut : laidOutB Tryd.prog = true := by kernel_rfl
theorem tb_data : (Rows.laid_internal_strconv_uint64pow10 : DataW Unit) = Lib.tabData .u64 Lib.pow10Tab := by kernel_rfl
theorem tb_of (W : World) (h : laidMetH Tryd.prog Rows.paperMatchesReferenceRow.laid W) : Tabs Tryd.prog W := by
 have h0 : laidMet Tryd.prog Rows.paperMatchesReferenceRow.laid W := h
 have h1 := (laidMet.tail (laidMet.tail h0))
 have h2 : Lib.TabIs Tryd.prog W _ .u64 Lib.pow10Tab := Lib.tabIs_of_head (rest := []) (g := 0) (t := 119) (e := 29) (n := 20) (by kernel_rfl) (by kernel_rfl) (by kernel_rfl) (by kernel_rfl) (by kernel_rfl) (by kernel_rfl) (tb_data ▸ h1)
 intro g hg
 obtain rfl : 0 = g := Option.some.inj ((show Tryd.prog.globalNamed tabName = some 0 by kernel_rfl).symm.trans hg)
 unfold Lib.TabIs World.var? at h2
 rw [show Tryd.prog.globalNamed _ = some 0 from (by kernel_rfl)] at h2
 simp only [Option.bind_some] at h2
 split at h2
 ·rename_i cs e fz hh
  injection h2 with h2
  exact ⟨e, fz, by rw [hh, h2, tab_cells]⟩
 ·cases h2
def tbCells : DataW Unit → Array Value
 | .agg l => (l.map fun x => match x with
  | .lit (.int k n) => Value.int k n
  | _ => undef).toArray
 | _ => #[]
def tbLay (P : Program) (laid : List (String × DataW Unit)) (h : Array Obj) : Array Obj := laid.foldl (fun h x => match P.globalNamed x.1 with
 | some g => h.modify g fun o => match o with
  | .cells _ t fz => .cells (tbCells x.2) t fz
  | o => o
 | none => h) h
noncomputable def tbWorld (os : Os) : World :=
 { World.holding Tryd.prog os ⟨#[], #[], []⟩ with heap := tbLay Tryd.prog Rows.paperMatchesReferenceRow.laid (World.holding Tryd.prog os ⟨#[], #[], []⟩).heap }
end Go.Proofs.YtiplcokpckkopaaDoor
