/- The layouts of this seat's types, each proved by closed facts off the loaded program. Written by a program (wip/tools/lay.py). -/
import Derived.Test.YtpdgmlkagfeglaaSyX
import Derived.Test.YtpdgmlkagfeglaaProg
namespace Go.Proofs.Ytpdgmlkagfeglaa
open Go.Sy
set_option linter.unusedVariables false
-- func()
abbrev y1 : Lay := { zero := [.lit .nilFunc] }
theorem lay1 : LayOk Try.prog 1 y1 := layFn (d := (Try.prog.underlying 1).getD .bool) (by kernel_rfl) (by kernel_rfl) (by kernel_rfl)
-- int64
abbrev y2 : Lay := { zero := [.lit (.int .i64 0)], kind := some .i64 }
theorem lay2 : LayOk Try.prog 2 y2 := layInt .i64 (by kernel_rfl) (by kernel_rfl)
-- int
abbrev y3 : Lay := { zero := [.lit (.int .i64 0)], kind := some .i64 }
theorem lay3 : LayOk Try.prog 3 y3 := layInt .i64 (by kernel_rfl) (by kernel_rfl)
-- bool
abbrev y4 : Lay := { zero := [.lit (.bool false)], eqs := some [.b] }
theorem lay4 : LayOk Try.prog 4 y4 := layBool (by kernel_rfl) (by kernel_rfl) (by kernel_rfl)
-- uint8
abbrev y5 : Lay := { zero := [.lit (.int .u8 0)], kind := some .u8 }
theorem lay5 : LayOk Try.prog 5 y5 := layInt .u8 (by kernel_rfl) (by kernel_rfl)
-- string
abbrev y9 : Lay := { zero := [.lit (.string ByteArray.empty)], sk := 1 }
theorem lay9 : LayOk Try.prog 9 y9 := laySk 1 (layStr (by kernel_rfl) (by kernel_rfl)) (sk1 (by kernel_rfl))
-- uintptr
abbrev y12 : Lay := { zero := [.lit (.int .u64 0)], kind := some .u64 }
theorem lay12 : LayOk Try.prog 12 y12 := layInt .u64 (by kernel_rfl) (by kernel_rfl)
-- int32
abbrev y21 : Lay := { zero := [.lit (.int .i32 0)], kind := some .i32 }
theorem lay21 : LayOk Try.prog 21 y21 := layInt .i32 (by kernel_rfl) (by kernel_rfl)
-- []api.Repeat
abbrev y22 : Lay := { zero := [.sl (.tp (.ti .i64) (.tp (.ti .i64) (.ti .i64))) []], el := some 3, ety := some (.tp (.ti .i64) (.tp (.ti .i64) (.ti .i64)), 54, 24) }
theorem lay22 : LayOk Try.prog 22 y22 := laySlice 54 (.tp (.ti .i64) (.tp (.ti .i64) (.ti .i64))) 24 (by kernel_rfl) (by kernel_rfl) (by kernel_rfl) (by decide) (by decide)
-- []api.Ending
abbrev y23 : Lay := { zero := [.sl (.tp (.ti .i64) (.tp (.ti .i64) (.ti .i64))) []], el := some 3, ety := some (.tp (.ti .i64) (.tp (.ti .i64) (.ti .i64)), 75, 24) }
theorem lay23 : LayOk Try.prog 23 y23 := laySlice 75 (.tp (.ti .i64) (.tp (.ti .i64) (.ti .i64))) 24 (by kernel_rfl) (by kernel_rfl) (by kernel_rfl) (by decide) (by decide)
-- struct { At int; To int; Fine int }
abbrev y24 : Lay := { size := 3, agg := true, zero := [.lit (.int .i64 0), .lit (.int .i64 0), .lit (.int .i64 0)], fs := [(0, 1), (1, 1), (2, 1)], eqs := some [.i, .i, .i] }
theorem lay24 : LayOk Try.prog 24 y24 := layStruct (zs := [.int .i64 0, .int .i64 0, .int .i64 0]) (by kernel_rfl) rfl (by kernel_rfl) (by kernel_rfl) (by decide) (fun ks h => by injection h with h; subst h; exact ⟨by kernel_rfl, by kernel_rfl⟩)
-- api.Jump
abbrev y25 : Lay := { size := 3, agg := true, zero := [.lit (.int .i64 0), .lit (.int .i64 0), .lit (.int .i64 0)], fs := [(0, 1), (1, 1), (2, 1)], eqs := some [.i, .i, .i] }
theorem lay25 : LayOk Try.prog 25 y25 := layStruct (zs := [.int .i64 0, .int .i64 0, .int .i64 0]) (by kernel_rfl) rfl (by kernel_rfl) (by kernel_rfl) (by decide) (fun ks h => by injection h with h; subst h; exact ⟨by kernel_rfl, by kernel_rfl⟩)
-- []api.Cut
abbrev y26 : Lay := { zero := [.sl (.tp (.ti .i64) (.tp (.ti .i64) (.ti .i64))) []], el := some 3, ety := some (.tp (.ti .i64) (.tp (.ti .i64) (.ti .i64)), 32, 24) }
theorem lay26 : LayOk Try.prog 26 y26 := laySlice 32 (.tp (.ti .i64) (.tp (.ti .i64) (.ti .i64))) 24 (by kernel_rfl) (by kernel_rfl) (by kernel_rfl) (by decide) (by decide)
-- struct { Bars int; Repeats []api.Repeat; Endings []api.Ending; Jump api.Jump; Cuts []api.Cut }
abbrev y27 : Lay := { size := 7, agg := true, zero := [.lit (.int .i64 0), nilS, nilS, .lit (.int .i64 0), .lit (.int .i64 0), .lit (.int .i64 0), nilS], fs := [(0, 1), (1, 1), (2, 1), (3, 3), (6, 1)], eqs := none, cv := [(1, (.tp (.ti .i64) (.tp (.ti .i64) (.ti .i64)), (54, false))), (2, (.tp (.ti .i64) (.tp (.ti .i64) (.ti .i64)), (75, false))), (6, (.tp (.ti .i64) (.tp (.ti .i64) (.ti .i64)), (32, false)))], cz := [(1, .tp (.ti .i64) (.tp (.ti .i64) (.ti .i64))), (2, .tp (.ti .i64) (.tp (.ti .i64) (.ti .i64))), (6, .tp (.ti .i64) (.tp (.ti .i64) (.ti .i64)))] }
theorem lay27 : LayOk Try.prog 27 y27 := layStruct (zs := [.int .i64 0, .slice none 0 0, .slice none 0 0, .int .i64 0, .int .i64 0, .int .i64 0, .slice none 0 0]) (by kernel_rfl) rfl (by kernel_rfl) (by kernel_rfl) (by decide) (fun ks h => by cases h)
-- api.Form
abbrev y28 : Lay := { size := 7, agg := true, zero := [.lit (.int .i64 0), nilS, nilS, .lit (.int .i64 0), .lit (.int .i64 0), .lit (.int .i64 0), nilS], fs := [(0, 1), (1, 1), (2, 1), (3, 3), (6, 1)], eqs := none, cv := [(1, (.tp (.ti .i64) (.tp (.ti .i64) (.ti .i64)), (54, false))), (2, (.tp (.ti .i64) (.tp (.ti .i64) (.ti .i64)), (75, false))), (6, (.tp (.ti .i64) (.tp (.ti .i64) (.ti .i64)), (32, false)))], cz := [(1, .tp (.ti .i64) (.tp (.ti .i64) (.ti .i64))), (2, .tp (.ti .i64) (.tp (.ti .i64) (.ti .i64))), (6, .tp (.ti .i64) (.tp (.ti .i64) (.ti .i64)))] }
theorem lay28 : LayOk Try.prog 28 y28 := layStruct (zs := [.int .i64 0, .slice none 0 0, .slice none 0 0, .int .i64 0, .int .i64 0, .int .i64 0, .slice none 0 0]) (by kernel_rfl) rfl (by kernel_rfl) (by kernel_rfl) (by decide) (fun ks h => by cases h)
-- struct { Bar int; Pass int }
abbrev y29 : Lay := { size := 2, agg := true, zero := [.lit (.int .i64 0), .lit (.int .i64 0)], fs := [(0, 1), (1, 1)], eqs := some [.i, .i] }
theorem lay29 : LayOk Try.prog 29 y29 := layStruct (zs := [.int .i64 0, .int .i64 0]) (by kernel_rfl) rfl (by kernel_rfl) (by kernel_rfl) (by decide) (fun ks h => by injection h with h; subst h; exact ⟨by kernel_rfl, by kernel_rfl⟩)
-- api.Visit
abbrev y30 : Lay := { size := 2, agg := true, zero := [.lit (.int .i64 0), .lit (.int .i64 0)], fs := [(0, 1), (1, 1)], eqs := some [.i, .i] }
theorem lay30 : LayOk Try.prog 30 y30 := layStruct (zs := [.int .i64 0, .int .i64 0]) (by kernel_rfl) rfl (by kernel_rfl) (by kernel_rfl) (by decide) (fun ks h => by injection h with h; subst h; exact ⟨by kernel_rfl, by kernel_rfl⟩)
-- struct { From int; Until int; Pass int }
abbrev y31 : Lay := { size := 3, agg := true, zero := [.lit (.int .i64 0), .lit (.int .i64 0), .lit (.int .i64 0)], fs := [(0, 1), (1, 1), (2, 1)], eqs := some [.i, .i, .i] }
theorem lay31 : LayOk Try.prog 31 y31 := layStruct (zs := [.int .i64 0, .int .i64 0, .int .i64 0]) (by kernel_rfl) rfl (by kernel_rfl) (by kernel_rfl) (by decide) (fun ks h => by injection h with h; subst h; exact ⟨by kernel_rfl, by kernel_rfl⟩)
-- api.Cut
abbrev y32 : Lay := { size := 3, agg := true, zero := [.lit (.int .i64 0), .lit (.int .i64 0), .lit (.int .i64 0)], fs := [(0, 1), (1, 1), (2, 1)], eqs := some [.i, .i, .i] }
theorem lay32 : LayOk Try.prog 32 y32 := layStruct (zs := [.int .i64 0, .int .i64 0, .int .i64 0]) (by kernel_rfl) rfl (by kernel_rfl) (by kernel_rfl) (by decide) (fun ks h => by injection h with h; subst h; exact ⟨by kernel_rfl, by kernel_rfl⟩)
-- func() bool
abbrev y33 : Lay := { zero := [.lit .nilFunc] }
theorem lay33 : LayOk Try.prog 33 y33 := layFn (d := (Try.prog.underlying 33).getD .bool) (by kernel_rfl) (by kernel_rfl) (by kernel_rfl)
-- func(api.Form) bool
abbrev y34 : Lay := { zero := [.lit .nilFunc] }
theorem lay34 : LayOk Try.prog 34 y34 := layFn (d := (Try.prog.underlying 34).getD .bool) (by kernel_rfl) (by kernel_rfl) (by kernel_rfl)
-- []api.Visit
abbrev y35 : Lay := { zero := [.sl (.tp (.ti .i64) (.ti .i64)) []], el := some 2, ety := some (.tp (.ti .i64) (.ti .i64), 30, 16) }
theorem lay35 : LayOk Try.prog 35 y35 := laySlice 30 (.tp (.ti .i64) (.ti .i64)) 16 (by kernel_rfl) (by kernel_rfl) (by kernel_rfl) (by decide) (by decide)
-- api.Errno
abbrev y36 : Lay := { zero := [.lit (.int .i64 0)], kind := some .i64 }
theorem lay36 : LayOk Try.prog 36 y36 := layInt .i64 (by kernel_rfl) (by kernel_rfl)
-- func(api.Form) ([]api.Visit, api.Errno)
abbrev y38 : Lay := { zero := [.lit .nilFunc] }
theorem lay38 : LayOk Try.prog 38 y38 := layFn (d := (Try.prog.underlying 38).getD .bool) (by kernel_rfl) (by kernel_rfl) (by kernel_rfl)
-- func([]api.Visit, []api.Visit) bool
abbrev y39 : Lay := { zero := [.lit .nilFunc] }
theorem lay39 : LayOk Try.prog 39 y39 := layFn (d := (Try.prog.underlying 39).getD .bool) (by kernel_rfl) (by kernel_rfl) (by kernel_rfl)
-- func(api.Form, api.Visit) (int, bool, api.Errno)
abbrev y41 : Lay := { zero := [.lit .nilFunc] }
theorem lay41 : LayOk Try.prog 41 y41 := layFn (d := (Try.prog.underlying 41).getD .bool) (by kernel_rfl) (by kernel_rfl) (by kernel_rfl)
-- func(api.Form, api.Cut) (api.Form, api.Errno)
abbrev y43 : Lay := { zero := [.lit .nilFunc] }
theorem lay43 : LayOk Try.prog 43 y43 := layFn (d := (Try.prog.underlying 43).getD .bool) (by kernel_rfl) (by kernel_rfl) (by kernel_rfl)
-- func(api.Form, api.Form) bool
abbrev y44 : Lay := { zero := [.lit .nilFunc] }
theorem lay44 : LayOk Try.prog 44 y44 := layFn (d := (Try.prog.underlying 44).getD .bool) (by kernel_rfl) (by kernel_rfl) (by kernel_rfl)
-- func(api.Form, int, int) (api.Form, api.Errno)
abbrev y45 : Lay := { zero := [.lit .nilFunc] }
theorem lay45 : LayOk Try.prog 45 y45 := layFn (d := (Try.prog.underlying 45).getD .bool) (by kernel_rfl) (by kernel_rfl) (by kernel_rfl)
-- func(api.Form, api.Visit, api.Cut, int, int) bool
abbrev y46 : Lay := { zero := [.lit .nilFunc] }
theorem lay46 : LayOk Try.prog 46 y46 := layFn (d := (Try.prog.underlying 46).getD .bool) (by kernel_rfl) (by kernel_rfl) (by kernel_rfl)
-- map[int]int
abbrev y47 : Lay := { zero := [.lit (.map none)], mpt := some (.ti .i64, .ti .i64) }
theorem lay47 : LayOk Try.prog 47 y47 := layMap 3 3 (.ti .i64) (.ti .i64) (.int .i64 0) (by kernel_rfl) (by kernel_rfl) (by kernel_rfl) (by kernel_rfl) (by kernel_rfl) (by kernel_rfl) (by kernel_rfl) (fun h => by cases h) (fun _ => rfl)
-- func(api.Form, int, int) bool
abbrev y48 : Lay := { zero := [.lit .nilFunc] }
theorem lay48 : LayOk Try.prog 48 y48 := layFn (d := (Try.prog.underlying 48).getD .bool) (by kernel_rfl) (by kernel_rfl) (by kernel_rfl)
-- func([]api.Visit, api.Cut) []api.Visit
abbrev y49 : Lay := { zero := [.lit .nilFunc] }
theorem lay49 : LayOk Try.prog 49 y49 := layFn (d := (Try.prog.underlying 49).getD .bool) (by kernel_rfl) (by kernel_rfl) (by kernel_rfl)
-- func(api.Form, api.Cut, api.Cut) bool
abbrev y50 : Lay := { zero := [.lit .nilFunc] }
theorem lay50 : LayOk Try.prog 50 y50 := layFn (d := (Try.prog.underlying 50).getD .bool) (by kernel_rfl) (by kernel_rfl) (by kernel_rfl)
-- uint16
abbrev y51 : Lay := { zero := [.lit (.int .u16 0)], kind := some .u16 }
theorem lay51 : LayOk Try.prog 51 y51 := layInt .u16 (by kernel_rfl) (by kernel_rfl)
-- func(api.Form, uint16, api.Visit) bool
abbrev y52 : Lay := { zero := [.lit .nilFunc] }
theorem lay52 : LayOk Try.prog 52 y52 := layFn (d := (Try.prog.underlying 52).getD .bool) (by kernel_rfl) (by kernel_rfl) (by kernel_rfl)
-- struct { From int; Until int; Times int }
abbrev y53 : Lay := { size := 3, agg := true, zero := [.lit (.int .i64 0), .lit (.int .i64 0), .lit (.int .i64 0)], fs := [(0, 1), (1, 1), (2, 1)], eqs := some [.i, .i, .i] }
theorem lay53 : LayOk Try.prog 53 y53 := layStruct (zs := [.int .i64 0, .int .i64 0, .int .i64 0]) (by kernel_rfl) rfl (by kernel_rfl) (by kernel_rfl) (by decide) (fun ks h => by injection h with h; subst h; exact ⟨by kernel_rfl, by kernel_rfl⟩)
-- api.Repeat
abbrev y54 : Lay := { size := 3, agg := true, zero := [.lit (.int .i64 0), .lit (.int .i64 0), .lit (.int .i64 0)], fs := [(0, 1), (1, 1), (2, 1)], eqs := some [.i, .i, .i] }
theorem lay54 : LayOk Try.prog 54 y54 := layStruct (zs := [.int .i64 0, .int .i64 0, .int .i64 0]) (by kernel_rfl) rfl (by kernel_rfl) (by kernel_rfl) (by decide) (fun ks h => by injection h with h; subst h; exact ⟨by kernel_rfl, by kernel_rfl⟩)
-- func() api.Form
abbrev y55 : Lay := { zero := [.lit .nilFunc] }
theorem lay55 : LayOk Try.prog 55 y55 := layFn (d := (Try.prog.underlying 55).getD .bool) (by kernel_rfl) (by kernel_rfl) (by kernel_rfl)
-- func([]int, []int) bool
abbrev y56 : Lay := { zero := [.lit .nilFunc] }
theorem lay56 : LayOk Try.prog 56 y56 := layFn (d := (Try.prog.underlying 56).getD .bool) (by kernel_rfl) (by kernel_rfl) (by kernel_rfl)
-- []int
abbrev y57 : Lay := { zero := [.sl (.ti .i64) []], el := some 1, ety := some (.ti .i64, 3, 8) }
theorem lay57 : LayOk Try.prog 57 y57 := laySlice 3 (.ti .i64) 8 (by kernel_rfl) (by kernel_rfl) (by kernel_rfl) (by decide) (by decide)
-- func([]api.Visit) []int
abbrev y58 : Lay := { zero := [.lit .nilFunc] }
theorem lay58 : LayOk Try.prog 58 y58 := layFn (d := (Try.prog.underlying 58).getD .bool) (by kernel_rfl) (by kernel_rfl) (by kernel_rfl)
-- func(func(api.Visit) bool)
abbrev y59 : Lay := { zero := [.lit .nilFunc] }
theorem lay59 : LayOk Try.prog 59 y59 := layFn (d := (Try.prog.underlying 59).getD .bool) (by kernel_rfl) (by kernel_rfl) (by kernel_rfl)
-- iter.Seq[partbook.api.Visit]
abbrev y60 : Lay := { zero := [.lit .nilFunc] }
theorem lay60 : LayOk Try.prog 60 y60 := layFn (d := (Try.prog.underlying 60).getD .bool) (by kernel_rfl) (by kernel_rfl) (by kernel_rfl)
-- struct { api.Form }
abbrev y61 : Lay := { size := 7, agg := true, zero := [.lit (.int .i64 0), nilS, nilS, .lit (.int .i64 0), .lit (.int .i64 0), .lit (.int .i64 0), nilS], fs := [(0, 7)], eqs := none, cv := [(1, (.tp (.ti .i64) (.tp (.ti .i64) (.ti .i64)), (54, false))), (2, (.tp (.ti .i64) (.tp (.ti .i64) (.ti .i64)), (75, false))), (6, (.tp (.ti .i64) (.tp (.ti .i64) (.ti .i64)), (32, false)))], cz := [(1, .tp (.ti .i64) (.tp (.ti .i64) (.ti .i64))), (2, .tp (.ti .i64) (.tp (.ti .i64) (.ti .i64))), (6, .tp (.ti .i64) (.tp (.ti .i64) (.ti .i64)))] }
theorem lay61 : LayOk Try.prog 61 y61 := layStruct (zs := [.int .i64 0, .slice none 0 0, .slice none 0 0, .int .i64 0, .int .i64 0, .int .i64 0, .slice none 0 0]) (by kernel_rfl) rfl (by kernel_rfl) (by kernel_rfl) (by decide) (fun ks h => by cases h)
-- reprise.order
abbrev y62 : Lay := { size := 7, agg := true, zero := [.lit (.int .i64 0), nilS, nilS, .lit (.int .i64 0), .lit (.int .i64 0), .lit (.int .i64 0), nilS], fs := [(0, 7)], eqs := none, cv := [(1, (.tp (.ti .i64) (.tp (.ti .i64) (.ti .i64)), (54, false))), (2, (.tp (.ti .i64) (.tp (.ti .i64) (.ti .i64)), (75, false))), (6, (.tp (.ti .i64) (.tp (.ti .i64) (.ti .i64)), (32, false)))], cz := [(1, .tp (.ti .i64) (.tp (.ti .i64) (.ti .i64))), (2, .tp (.ti .i64) (.tp (.ti .i64) (.ti .i64))), (6, .tp (.ti .i64) (.tp (.ti .i64) (.ti .i64)))] }
theorem lay62 : LayOk Try.prog 62 y62 := layStruct (zs := [.int .i64 0, .slice none 0 0, .slice none 0 0, .int .i64 0, .int .i64 0, .int .i64 0, .slice none 0 0]) (by kernel_rfl) rfl (by kernel_rfl) (by kernel_rfl) (by decide) (fun ks h => by cases h)
-- func() iter.Seq[partbook.api.Visit]
abbrev y63 : Lay := { zero := [.lit .nilFunc] }
theorem lay63 : LayOk Try.prog 63 y63 := layFn (d := (Try.prog.underlying 63).getD .bool) (by kernel_rfl) (by kernel_rfl) (by kernel_rfl)
-- func(api.Cut) bool
abbrev y64 : Lay := { zero := [.lit .nilFunc] }
theorem lay64 : LayOk Try.prog 64 y64 := layFn (d := (Try.prog.underlying 64).getD .bool) (by kernel_rfl) (by kernel_rfl) (by kernel_rfl)
-- func([]api.Cut, func(api.Cut) bool) bool
abbrev y65 : Lay := { zero := [.lit .nilFunc] }
theorem lay65 : LayOk Try.prog 65 y65 := layFn (d := (Try.prog.underlying 65).getD .bool) (by kernel_rfl) (by kernel_rfl) (by kernel_rfl)
-- func(api.Form) []api.Visit
abbrev y66 : Lay := { zero := [.lit .nilFunc] }
theorem lay66 : LayOk Try.prog 66 y66 := layFn (d := (Try.prog.underlying 66).getD .bool) (by kernel_rfl) (by kernel_rfl) (by kernel_rfl)
-- func(api.Cut, api.Visit) bool
abbrev y67 : Lay := { zero := [.lit .nilFunc] }
theorem lay67 : LayOk Try.prog 67 y67 := layFn (d := (Try.prog.underlying 67).getD .bool) (by kernel_rfl) (by kernel_rfl) (by kernel_rfl)
-- func([]api.Repeat, int) bool
abbrev y68 : Lay := { zero := [.lit .nilFunc] }
theorem lay68 : LayOk Try.prog 68 y68 := layFn (d := (Try.prog.underlying 68).getD .bool) (by kernel_rfl) (by kernel_rfl) (by kernel_rfl)
-- func(api.Form, api.Cut) bool
abbrev y69 : Lay := { zero := [.lit .nilFunc] }
theorem lay69 : LayOk Try.prog 69 y69 := layFn (d := (Try.prog.underlying 69).getD .bool) (by kernel_rfl) (by kernel_rfl) (by kernel_rfl)
-- func([]api.Cut, api.Cut) int
abbrev y70 : Lay := { zero := [.lit .nilFunc] }
theorem lay70 : LayOk Try.prog 70 y70 := layFn (d := (Try.prog.underlying 70).getD .bool) (by kernel_rfl) (by kernel_rfl) (by kernel_rfl)
-- func(api.Form) []int
abbrev y71 : Lay := { zero := [.lit .nilFunc] }
theorem lay71 : LayOk Try.prog 71 y71 := layFn (d := (Try.prog.underlying 71).getD .bool) (by kernel_rfl) (by kernel_rfl) (by kernel_rfl)
-- func([]api.Visit, api.Visit) int
abbrev y72 : Lay := { zero := [.lit .nilFunc] }
theorem lay72 : LayOk Try.prog 72 y72 := layFn (d := (Try.prog.underlying 72).getD .bool) (by kernel_rfl) (by kernel_rfl) (by kernel_rfl)
-- func([]api.Cut, api.Cut) bool
abbrev y73 : Lay := { zero := [.lit .nilFunc] }
theorem lay73 : LayOk Try.prog 73 y73 := layFn (d := (Try.prog.underlying 73).getD .bool) (by kernel_rfl) (by kernel_rfl) (by kernel_rfl)
-- func(api.Form) api.Form
abbrev y74 : Lay := { zero := [.lit .nilFunc] }
theorem lay74 : LayOk Try.prog 74 y74 := layFn (d := (Try.prog.underlying 74).getD .bool) (by kernel_rfl) (by kernel_rfl) (by kernel_rfl)
-- api.Ending
abbrev y75 : Lay := { size := 3, agg := true, zero := [.lit (.int .i64 0), .lit (.int .i64 0), .lit (.int .i64 0)], fs := [(0, 1), (1, 1), (2, 1)], eqs := some [.i, .i, .i] }
theorem lay75 : LayOk Try.prog 75 y75 := layStruct (zs := [.int .i64 0, .int .i64 0, .int .i64 0]) (by kernel_rfl) rfl (by kernel_rfl) (by kernel_rfl) (by decide) (fun ks h => by injection h with h; subst h; exact ⟨by kernel_rfl, by kernel_rfl⟩)
-- func([]api.Cut, int, int) []api.Cut
abbrev y76 : Lay := { zero := [.lit .nilFunc] }
theorem lay76 : LayOk Try.prog 76 y76 := layFn (d := (Try.prog.underlying 76).getD .bool) (by kernel_rfl) (by kernel_rfl) (by kernel_rfl)
-- func(api.Visit) bool
abbrev y77 : Lay := { zero := [.lit .nilFunc] }
theorem lay77 : LayOk Try.prog 77 y77 := layFn (d := (Try.prog.underlying 77).getD .bool) (by kernel_rfl) (by kernel_rfl) (by kernel_rfl)
-- func(int) bool
abbrev y78 : Lay := { zero := [.lit .nilFunc] }
theorem lay78 : LayOk Try.prog 78 y78 := layFn (d := (Try.prog.underlying 78).getD .bool) (by kernel_rfl) (by kernel_rfl) (by kernel_rfl)
-- func(func(int) bool)
abbrev y79 : Lay := { zero := [.lit .nilFunc] }
theorem lay79 : LayOk Try.prog 79 y79 := layFn (d := (Try.prog.underlying 79).getD .bool) (by kernel_rfl) (by kernel_rfl) (by kernel_rfl)
-- iter.Seq[int]
abbrev y80 : Lay := { zero := [.lit .nilFunc] }
theorem lay80 : LayOk Try.prog 80 y80 := layFn (d := (Try.prog.underlying 80).getD .bool) (by kernel_rfl) (by kernel_rfl) (by kernel_rfl)
-- func(int, int, bool) iter.Seq[int]
abbrev y81 : Lay := { zero := [.lit .nilFunc] }
theorem lay81 : LayOk Try.prog 81 y81 := layFn (d := (Try.prog.underlying 81).getD .bool) (by kernel_rfl) (by kernel_rfl) (by kernel_rfl)
-- func([]api.Cut, func(api.Cut) bool) int
abbrev y82 : Lay := { zero := [.lit .nilFunc] }
theorem lay82 : LayOk Try.prog 82 y82 := layFn (d := (Try.prog.underlying 82).getD .bool) (by kernel_rfl) (by kernel_rfl) (by kernel_rfl)
-- func([]api.Repeat, func(api.Repeat) bool) bool
abbrev y83 : Lay := { zero := [.lit .nilFunc] }
theorem lay83 : LayOk Try.prog 83 y83 := layFn (d := (Try.prog.underlying 83).getD .bool) (by kernel_rfl) (by kernel_rfl) (by kernel_rfl)
-- func(api.Repeat) bool
abbrev y84 : Lay := { zero := [.lit .nilFunc] }
theorem lay84 : LayOk Try.prog 84 y84 := layFn (d := (Try.prog.underlying 84).getD .bool) (by kernel_rfl) (by kernel_rfl) (by kernel_rfl)
-- map[api.Cut]bool
abbrev y85 : Lay := { zero := [.lit (.map none)], mpt := some (.tp (.ti .i64) (.tp (.ti .i64) (.ti .i64)), .tb) }
theorem lay85 : LayOk Try.prog 85 y85 := layMap 32 4 (.tp (.ti .i64) (.tp (.ti .i64) (.ti .i64))) (.tb) (.bool false) (by kernel_rfl) (by kernel_rfl) (by kernel_rfl) (by kernel_rfl) (by kernel_rfl) (by kernel_rfl) (by kernel_rfl) (fun h => by cases h) (fun _ => rfl)
-- func([]api.Repeat, int, int) bool
abbrev y86 : Lay := { zero := [.lit .nilFunc] }
theorem lay86 : LayOk Try.prog 86 y86 := layFn (d := (Try.prog.underlying 86).getD .bool) (by kernel_rfl) (by kernel_rfl) (by kernel_rfl)
-- func(api.Form, int, int, bool) []int
abbrev y87 : Lay := { zero := [.lit .nilFunc] }
theorem lay87 : LayOk Try.prog 87 y87 := layFn (d := (Try.prog.underlying 87).getD .bool) (by kernel_rfl) (by kernel_rfl) (by kernel_rfl)
-- func([]api.Repeat) []api.Repeat
abbrev y88 : Lay := { zero := [.lit .nilFunc] }
theorem lay88 : LayOk Try.prog 88 y88 := layFn (d := (Try.prog.underlying 88).getD .bool) (by kernel_rfl) (by kernel_rfl) (by kernel_rfl)
-- func([]api.Ending) []api.Ending
abbrev y89 : Lay := { zero := [.lit .nilFunc] }
theorem lay89 : LayOk Try.prog 89 y89 := layFn (d := (Try.prog.underlying 89).getD .bool) (by kernel_rfl) (by kernel_rfl) (by kernel_rfl)
-- func([]api.Cut) []api.Cut
abbrev y90 : Lay := { zero := [.lit .nilFunc] }
theorem lay90 : LayOk Try.prog 90 y90 := layFn (d := (Try.prog.underlying 90).getD .bool) (by kernel_rfl) (by kernel_rfl) (by kernel_rfl)
-- func([]api.Repeat, func(api.Repeat) bool) int
abbrev y91 : Lay := { zero := [.lit .nilFunc] }
theorem lay91 : LayOk Try.prog 91 y91 := layFn (d := (Try.prog.underlying 91).getD .bool) (by kernel_rfl) (by kernel_rfl) (by kernel_rfl)
-- func(int, int) bool
abbrev y92 : Lay := { zero := [.lit .nilFunc] }
theorem lay92 : LayOk Try.prog 92 y92 := layFn (d := (Try.prog.underlying 92).getD .bool) (by kernel_rfl) (by kernel_rfl) (by kernel_rfl)
-- func(api.Form, int) int
abbrev y93 : Lay := { zero := [.lit .nilFunc] }
theorem lay93 : LayOk Try.prog 93 y93 := layFn (d := (Try.prog.underlying 93).getD .bool) (by kernel_rfl) (by kernel_rfl) (by kernel_rfl)
-- func([]api.Ending, func(api.Ending) bool) bool
abbrev y94 : Lay := { zero := [.lit .nilFunc] }
theorem lay94 : LayOk Try.prog 94 y94 := layFn (d := (Try.prog.underlying 94).getD .bool) (by kernel_rfl) (by kernel_rfl) (by kernel_rfl)
-- func(api.Ending) bool
abbrev y95 : Lay := { zero := [.lit .nilFunc] }
theorem lay95 : LayOk Try.prog 95 y95 := layFn (d := (Try.prog.underlying 95).getD .bool) (by kernel_rfl) (by kernel_rfl) (by kernel_rfl)
-- func([]api.Ending, func(api.Ending) bool) int
abbrev y96 : Lay := { zero := [.lit .nilFunc] }
theorem lay96 : LayOk Try.prog 96 y96 := layFn (d := (Try.prog.underlying 96).getD .bool) (by kernel_rfl) (by kernel_rfl) (by kernel_rfl)
-- func() string
abbrev y97 : Lay := { zero := [.lit .nilFunc] }
theorem lay97 : LayOk Try.prog 97 y97 := layFn (d := (Try.prog.underlying 97).getD .bool) (by kernel_rfl) (by kernel_rfl) (by kernel_rfl)
-- func() int
abbrev y103 : Lay := { zero := [.lit .nilFunc] }
theorem lay103 : LayOk Try.prog 103 y103 := layFn (d := (Try.prog.underlying 103).getD .bool) (by kernel_rfl) (by kernel_rfl) (by kernel_rfl)
-- uint32
abbrev y104 : Lay := { zero := [.lit (.int .u32 0)], kind := some .u32 }
theorem lay104 : LayOk Try.prog 104 y104 := layInt .u32 (by kernel_rfl) (by kernel_rfl)
-- func(unsafe.Pointer, unsafe.Pointer) bool
abbrev y107 : Lay := { zero := [.lit .nilFunc] }
theorem lay107 : LayOk Try.prog 107 y107 := layFn (d := (Try.prog.underlying 107).getD .bool) (by kernel_rfl) (by kernel_rfl) (by kernel_rfl)
-- *uint8
abbrev y108 : Lay := { zero := [.lit (.pointer none)] }
theorem lay108 : LayOk Try.prog 108 y108 := layOne (d := (Try.prog.underlying 108).getD .bool) (z := .pointer none) (k := none) (by kernel_rfl) (by kernel_rfl) (by kernel_rfl) (fun _ _ => .lit rfl) (fun q h => by cases h)
def L0 : Nat → Option Lay := Sy.look [(1, y1), (2, y2), (3, y3), (4, y4), (5, y5), (9, y9), (12, y12), (21, y21), (22, y22), (23, y23), (24, y24), (25, y25), (26, y26), (27, y27), (28, y28), (29, y29), (30, y30), (31, y31), (32, y32), (33, y33), (34, y34), (35, y35), (36, y36), (38, y38), (39, y39), (41, y41), (43, y43), (44, y44), (45, y45), (46, y46), (47, y47), (48, y48), (49, y49), (50, y50), (51, y51), (52, y52), (53, y53), (54, y54), (55, y55), (56, y56), (57, y57), (58, y58), (59, y59), (60, y60), (61, y61), (62, y62), (63, y63), (64, y64), (65, y65), (66, y66), (67, y67), (68, y68), (69, y69), (70, y70), (71, y71), (72, y72), (73, y73), (74, y74), (75, y75), (76, y76), (77, y77), (78, y78), (79, y79), (80, y80), (81, y81), (82, y82), (83, y83), (84, y84), (85, y85), (86, y86), (87, y87), (88, y88), (89, y89), (90, y90), (91, y91), (92, y92), (93, y93), (94, y94), (95, y95), (96, y96), (97, y97), (103, y103), (104, y104), (107, y107), (108, y108)]
theorem L0_ok : LOk Try.prog L0 := by
  refine look_ok fun q hq => ?_
  simp only [List.mem_cons, List.not_mem_nil, or_false] at hq
  rcases hq with rfl | rfl | rfl | rfl | rfl | rfl | rfl | rfl | rfl | rfl | rfl | rfl | rfl | rfl | rfl | rfl | rfl | rfl | rfl | rfl | rfl | rfl | rfl | rfl | rfl | rfl | rfl | rfl | rfl | rfl | rfl | rfl | rfl | rfl | rfl | rfl | rfl | rfl | rfl | rfl | rfl | rfl | rfl | rfl | rfl | rfl | rfl | rfl | rfl | rfl | rfl | rfl | rfl | rfl | rfl | rfl | rfl | rfl | rfl | rfl | rfl | rfl | rfl | rfl | rfl | rfl | rfl | rfl | rfl | rfl | rfl | rfl | rfl | rfl | rfl | rfl | rfl | rfl | rfl | rfl | rfl | rfl | rfl | rfl | rfl
  · exact lay1
  · exact lay2
  · exact lay3
  · exact lay4
  · exact lay5
  · exact lay9
  · exact lay12
  · exact lay21
  · exact lay22
  · exact lay23
  · exact lay24
  · exact lay25
  · exact lay26
  · exact lay27
  · exact lay28
  · exact lay29
  · exact lay30
  · exact lay31
  · exact lay32
  · exact lay33
  · exact lay34
  · exact lay35
  · exact lay36
  · exact lay38
  · exact lay39
  · exact lay41
  · exact lay43
  · exact lay44
  · exact lay45
  · exact lay46
  · exact lay47
  · exact lay48
  · exact lay49
  · exact lay50
  · exact lay51
  · exact lay52
  · exact lay53
  · exact lay54
  · exact lay55
  · exact lay56
  · exact lay57
  · exact lay58
  · exact lay59
  · exact lay60
  · exact lay61
  · exact lay62
  · exact lay63
  · exact lay64
  · exact lay65
  · exact lay66
  · exact lay67
  · exact lay68
  · exact lay69
  · exact lay70
  · exact lay71
  · exact lay72
  · exact lay73
  · exact lay74
  · exact lay75
  · exact lay76
  · exact lay77
  · exact lay78
  · exact lay79
  · exact lay80
  · exact lay81
  · exact lay82
  · exact lay83
  · exact lay84
  · exact lay85
  · exact lay86
  · exact lay87
  · exact lay88
  · exact lay89
  · exact lay90
  · exact lay91
  · exact lay92
  · exact lay93
  · exact lay94
  · exact lay95
  · exact lay96
  · exact lay97
  · exact lay103
  · exact lay104
  · exact lay107
  · exact lay108
def LV (os vs : List Nat) (wr : Bool) : Nat → Option Lay := LVar L0 os vs wr
theorem LV_ok (os vs : List Nat) (wr : Bool) : LOk Try.prog (LV os vs wr) := LVar_ok L0_ok os vs wr
def L : Nat → Option Lay := LV [] [] false
theorem L_ok : LOk Try.prog L := LV_ok [] [] false
theorem mixed : Try.prog.follows .mixedOrders = true := by kernel_rfl
end Go.Proofs.Ytpdgmlkagfeglaa
