/- The layouts of this seat's types, each proved by closed facts off the loaded program. Written by a program (wip/tools/lay.py). -/
import Derived.Test.YtjghgdccaakfmaaSyX
import Derived.Test.YtjghgdccaakfmaaProg
namespace Go.Proofs.Ytjghgdccaakfmaa
open Go.Sy
set_option linter.unusedVariables false
-- func()
abbrev y1 : Lay := { zero := [.lit .nilFunc] }
theorem lay1 : LayOk Try.prog 1 y1 := layFn (d := (Try.prog.underlying 1).getD .bool) (by kernel_rfl) (by kernel_rfl) (by kernel_rfl)
-- int64
abbrev y2 : Lay := { zero := [.lit (.int .i64 0)], kind := some .i64 }
theorem lay2 : LayOk Try.prog 2 y2 := layInt .i64 (by kernel_rfl) (by kernel_rfl)
-- int
abbrev y3 : Lay := { zero := [.lit (.int .i64 0)], kind := some .i64 }
theorem lay3 : LayOk Try.prog 3 y3 := layInt .i64 (by kernel_rfl) (by kernel_rfl)
-- bool
abbrev y4 : Lay := { zero := [.lit (.bool false)], eqs := some [.b] }
theorem lay4 : LayOk Try.prog 4 y4 := layBool (by kernel_rfl) (by kernel_rfl) (by kernel_rfl)
-- uint8
abbrev y5 : Lay := { zero := [.lit (.int .u8 0)], kind := some .u8 }
theorem lay5 : LayOk Try.prog 5 y5 := layInt .u8 (by kernel_rfl) (by kernel_rfl)
-- string
abbrev y9 : Lay := { zero := [.lit (.string ByteArray.empty)], sk := 1 }
theorem lay9 : LayOk Try.prog 9 y9 := laySk 1 (layStr (by kernel_rfl) (by kernel_rfl)) (sk1 (by kernel_rfl))
-- uintptr
abbrev y12 : Lay := { zero := [.lit (.int .u64 0)], kind := some .u64 }
theorem lay12 : LayOk Try.prog 12 y12 := layInt .u64 (by kernel_rfl) (by kernel_rfl)
-- int32
abbrev y21 : Lay := { zero := [.lit (.int .i32 0)], kind := some .i32 }
theorem lay21 : LayOk Try.prog 21 y21 := layInt .i32 (by kernel_rfl) (by kernel_rfl)
-- []api.Bar
abbrev y22 : Lay := { zero := [.sl (.tp (.ti .i64) (.tp (.tp (.ti .i64) (.ti .i64)) (.ti .i64))) []], el := some 4, ety := some (.tp (.ti .i64) (.tp (.tp (.ti .i64) (.ti .i64)) (.ti .i64)), 66, 32) }
theorem lay22 : LayOk Try.prog 22 y22 := laySlice 66 (.tp (.ti .i64) (.tp (.tp (.ti .i64) (.ti .i64)) (.ti .i64))) 32 (by kernel_rfl) (by kernel_rfl) (by kernel_rfl) (by decide) (by decide)
-- []api.Tempo
abbrev y23 : Lay := { zero := [.sl (.tp (.ti .i64) (.tp (.ti .i64) (.ti .i64))) []], el := some 3, ety := some (.tp (.ti .i64) (.tp (.ti .i64) (.ti .i64)), 50, 24) }
theorem lay23 : LayOk Try.prog 23 y23 := laySlice 50 (.tp (.ti .i64) (.tp (.ti .i64) (.ti .i64))) 24 (by kernel_rfl) (by kernel_rfl) (by kernel_rfl) (by decide) (by decide)
-- struct { N int; D int }
abbrev y24 : Lay := { size := 2, agg := true, zero := [.lit (.int .i64 0), .lit (.int .i64 0)], fs := [(0, 1), (1, 1)], eqs := some [.i, .i] }
theorem lay24 : LayOk Try.prog 24 y24 := layStruct (zs := [.int .i64 0, .int .i64 0]) (by kernel_rfl) rfl (by kernel_rfl) (by kernel_rfl) (by decide) (fun ks h => by injection h with h; subst h; exact ⟨by kernel_rfl, by kernel_rfl⟩)
-- api.Rat
abbrev y25 : Lay := { size := 2, agg := true, zero := [.lit (.int .i64 0), .lit (.int .i64 0)], fs := [(0, 1), (1, 1)], eqs := some [.i, .i] }
theorem lay25 : LayOk Try.prog 25 y25 := layStruct (zs := [.int .i64 0, .int .i64 0]) (by kernel_rfl) rfl (by kernel_rfl) (by kernel_rfl) (by decide) (fun ks h => by injection h with h; subst h; exact ⟨by kernel_rfl, by kernel_rfl⟩)
-- struct { Bar int; At api.Rat }
abbrev y26 : Lay := { size := 3, agg := true, zero := [.lit (.int .i64 0), .lit (.int .i64 0), .lit (.int .i64 0)], fs := [(0, 1), (1, 2)], eqs := some [.i, .i, .i] }
theorem lay26 : LayOk Try.prog 26 y26 := layStruct (zs := [.int .i64 0, .int .i64 0, .int .i64 0]) (by kernel_rfl) rfl (by kernel_rfl) (by kernel_rfl) (by decide) (fun ks h => by injection h with h; subst h; exact ⟨by kernel_rfl, by kernel_rfl⟩)
-- api.Position
abbrev y27 : Lay := { size := 3, agg := true, zero := [.lit (.int .i64 0), .lit (.int .i64 0), .lit (.int .i64 0)], fs := [(0, 1), (1, 2)], eqs := some [.i, .i, .i] }
theorem lay27 : LayOk Try.prog 27 y27 := layStruct (zs := [.int .i64 0, .int .i64 0, .int .i64 0]) (by kernel_rfl) rfl (by kernel_rfl) (by kernel_rfl) (by decide) (fun ks h => by injection h with h; subst h; exact ⟨by kernel_rfl, by kernel_rfl⟩)
-- []api.Repeat
abbrev y28 : Lay := { zero := [.sl (.tp (.ti .i64) (.tp (.ti .i64) (.ti .i64))) []], el := some 3, ety := some (.tp (.ti .i64) (.tp (.ti .i64) (.ti .i64)), 68, 24) }
theorem lay28 : LayOk Try.prog 28 y28 := laySlice 68 (.tp (.ti .i64) (.tp (.ti .i64) (.ti .i64))) 24 (by kernel_rfl) (by kernel_rfl) (by kernel_rfl) (by decide) (by decide)
-- []api.Ending
abbrev y29 : Lay := { zero := [.sl (.tp (.ti .i64) (.tp (.ti .i64) (.ti .i64))) []], el := some 3, ety := some (.tp (.ti .i64) (.tp (.ti .i64) (.ti .i64)), 127, 24) }
theorem lay29 : LayOk Try.prog 29 y29 := laySlice 127 (.tp (.ti .i64) (.tp (.ti .i64) (.ti .i64))) 24 (by kernel_rfl) (by kernel_rfl) (by kernel_rfl) (by decide) (by decide)
-- struct { At int; To int; Fine int }
abbrev y30 : Lay := { size := 3, agg := true, zero := [.lit (.int .i64 0), .lit (.int .i64 0), .lit (.int .i64 0)], fs := [(0, 1), (1, 1), (2, 1)], eqs := some [.i, .i, .i] }
theorem lay30 : LayOk Try.prog 30 y30 := layStruct (zs := [.int .i64 0, .int .i64 0, .int .i64 0]) (by kernel_rfl) rfl (by kernel_rfl) (by kernel_rfl) (by decide) (fun ks h => by injection h with h; subst h; exact ⟨by kernel_rfl, by kernel_rfl⟩)
-- api.Jump
abbrev y31 : Lay := { size := 3, agg := true, zero := [.lit (.int .i64 0), .lit (.int .i64 0), .lit (.int .i64 0)], fs := [(0, 1), (1, 1), (2, 1)], eqs := some [.i, .i, .i] }
theorem lay31 : LayOk Try.prog 31 y31 := layStruct (zs := [.int .i64 0, .int .i64 0, .int .i64 0]) (by kernel_rfl) rfl (by kernel_rfl) (by kernel_rfl) (by decide) (fun ks h => by injection h with h; subst h; exact ⟨by kernel_rfl, by kernel_rfl⟩)
-- []api.Cut
abbrev y32 : Lay := { zero := [.sl (.tp (.ti .i64) (.tp (.ti .i64) (.ti .i64))) []], el := some 3, ety := some (.tp (.ti .i64) (.tp (.ti .i64) (.ti .i64)), 95, 24) }
theorem lay32 : LayOk Try.prog 32 y32 := laySlice 95 (.tp (.ti .i64) (.tp (.ti .i64) (.ti .i64))) 24 (by kernel_rfl) (by kernel_rfl) (by kernel_rfl) (by decide) (by decide)
-- struct { Bars int; Repeats []api.Repeat; Endings []api.Ending; Jump api.Jump; Cuts []api.Cut }
abbrev y33 : Lay := { size := 7, agg := true, zero := [.lit (.int .i64 0), nilS, nilS, .lit (.int .i64 0), .lit (.int .i64 0), .lit (.int .i64 0), nilS], fs := [(0, 1), (1, 1), (2, 1), (3, 3), (6, 1)], eqs := none, cv := [(1, (.tp (.ti .i64) (.tp (.ti .i64) (.ti .i64)), (68, false))), (2, (.tp (.ti .i64) (.tp (.ti .i64) (.ti .i64)), (127, false))), (6, (.tp (.ti .i64) (.tp (.ti .i64) (.ti .i64)), (95, false)))], cz := [(1, .tp (.ti .i64) (.tp (.ti .i64) (.ti .i64))), (2, .tp (.ti .i64) (.tp (.ti .i64) (.ti .i64))), (6, .tp (.ti .i64) (.tp (.ti .i64) (.ti .i64)))] }
theorem lay33 : LayOk Try.prog 33 y33 := layStruct (zs := [.int .i64 0, .slice none 0 0, .slice none 0 0, .int .i64 0, .int .i64 0, .int .i64 0, .slice none 0 0]) (by kernel_rfl) rfl (by kernel_rfl) (by kernel_rfl) (by decide) (fun ks h => by cases h)
-- api.Form
abbrev y34 : Lay := { size := 7, agg := true, zero := [.lit (.int .i64 0), nilS, nilS, .lit (.int .i64 0), .lit (.int .i64 0), .lit (.int .i64 0), nilS], fs := [(0, 1), (1, 1), (2, 1), (3, 3), (6, 1)], eqs := none, cv := [(1, (.tp (.ti .i64) (.tp (.ti .i64) (.ti .i64)), (68, false))), (2, (.tp (.ti .i64) (.tp (.ti .i64) (.ti .i64)), (127, false))), (6, (.tp (.ti .i64) (.tp (.ti .i64) (.ti .i64)), (95, false)))], cz := [(1, .tp (.ti .i64) (.tp (.ti .i64) (.ti .i64))), (2, .tp (.ti .i64) (.tp (.ti .i64) (.ti .i64))), (6, .tp (.ti .i64) (.tp (.ti .i64) (.ti .i64)))] }
theorem lay34 : LayOk Try.prog 34 y34 := layStruct (zs := [.int .i64 0, .slice none 0 0, .slice none 0 0, .int .i64 0, .int .i64 0, .int .i64 0, .slice none 0 0]) (by kernel_rfl) rfl (by kernel_rfl) (by kernel_rfl) (by decide) (fun ks h => by cases h)
-- func() bool
abbrev y35 : Lay := { zero := [.lit .nilFunc] }
theorem lay35 : LayOk Try.prog 35 y35 := layFn (d := (Try.prog.underlying 35).getD .bool) (by kernel_rfl) (by kernel_rfl) (by kernel_rfl)
-- func([]api.Bar, []api.Tempo, api.Form) bool
abbrev y36 : Lay := { zero := [.lit .nilFunc] }
theorem lay36 : LayOk Try.prog 36 y36 := layFn (d := (Try.prog.underlying 36).getD .bool) (by kernel_rfl) (by kernel_rfl) (by kernel_rfl)
-- api.Errno
abbrev y37 : Lay := { zero := [.lit (.int .i64 0)], kind := some .i64 }
theorem lay37 : LayOk Try.prog 37 y37 := layInt .i64 (by kernel_rfl) (by kernel_rfl)
-- func([]api.Bar, []api.Tempo, int) (api.Rat, api.Errno)
abbrev y39 : Lay := { zero := [.lit .nilFunc] }
theorem lay39 : LayOk Try.prog 39 y39 := layFn (d := (Try.prog.underlying 39).getD .bool) (by kernel_rfl) (by kernel_rfl) (by kernel_rfl)
-- func([]api.Bar, []api.Tempo) bool
abbrev y40 : Lay := { zero := [.lit .nilFunc] }
theorem lay40 : LayOk Try.prog 40 y40 := layFn (d := (Try.prog.underlying 40).getD .bool) (by kernel_rfl) (by kernel_rfl) (by kernel_rfl)
-- func([]api.Bar, []api.Tempo, api.Position, api.Position) (api.Rat, api.Errno)
abbrev y41 : Lay := { zero := [.lit .nilFunc] }
theorem lay41 : LayOk Try.prog 41 y41 := layFn (d := (Try.prog.underlying 41).getD .bool) (by kernel_rfl) (by kernel_rfl) (by kernel_rfl)
-- func([]api.Bar, []api.Tempo, api.Form, int, int) (api.Rat, api.Errno)
abbrev y42 : Lay := { zero := [.lit .nilFunc] }
theorem lay42 : LayOk Try.prog 42 y42 := layFn (d := (Try.prog.underlying 42).getD .bool) (by kernel_rfl) (by kernel_rfl) (by kernel_rfl)
-- func([]api.Bar, []api.Tempo, int, api.Position, api.Position, api.Form, int, int) bool
abbrev y43 : Lay := { zero := [.lit .nilFunc] }
theorem lay43 : LayOk Try.prog 43 y43 := layFn (d := (Try.prog.underlying 43).getD .bool) (by kernel_rfl) (by kernel_rfl) (by kernel_rfl)
-- func([]api.Bar, api.Position) bool
abbrev y44 : Lay := { zero := [.lit .nilFunc] }
theorem lay44 : LayOk Try.prog 44 y44 := layFn (d := (Try.prog.underlying 44).getD .bool) (by kernel_rfl) (by kernel_rfl) (by kernel_rfl)
-- func(int, int) api.Rat
abbrev y45 : Lay := { zero := [.lit .nilFunc] }
theorem lay45 : LayOk Try.prog 45 y45 := layFn (d := (Try.prog.underlying 45).getD .bool) (by kernel_rfl) (by kernel_rfl) (by kernel_rfl)
-- func(api.Rat, api.Rat) (api.Rat, api.Errno)
abbrev y46 : Lay := { zero := [.lit .nilFunc] }
theorem lay46 : LayOk Try.prog 46 y46 := layFn (d := (Try.prog.underlying 46).getD .bool) (by kernel_rfl) (by kernel_rfl) (by kernel_rfl)
-- func([]api.Bar, []api.Tempo, api.Position, api.Position, api.Position) bool
abbrev y47 : Lay := { zero := [.lit .nilFunc] }
theorem lay47 : LayOk Try.prog 47 y47 := layFn (d := (Try.prog.underlying 47).getD .bool) (by kernel_rfl) (by kernel_rfl) (by kernel_rfl)
-- func([]api.Bar, []api.Tempo, uint8, uint8) bool
abbrev y48 : Lay := { zero := [.lit .nilFunc] }
theorem lay48 : LayOk Try.prog 48 y48 := layFn (d := (Try.prog.underlying 48).getD .bool) (by kernel_rfl) (by kernel_rfl) (by kernel_rfl)
-- struct { Bar int; Quarter api.Rat }
abbrev y49 : Lay := { size := 3, agg := true, zero := [.lit (.int .i64 0), .lit (.int .i64 0), .lit (.int .i64 0)], fs := [(0, 1), (1, 2)], eqs := some [.i, .i, .i] }
theorem lay49 : LayOk Try.prog 49 y49 := layStruct (zs := [.int .i64 0, .int .i64 0, .int .i64 0]) (by kernel_rfl) rfl (by kernel_rfl) (by kernel_rfl) (by decide) (fun ks h => by injection h with h; subst h; exact ⟨by kernel_rfl, by kernel_rfl⟩)
-- api.Tempo
abbrev y50 : Lay := { size := 3, agg := true, zero := [.lit (.int .i64 0), .lit (.int .i64 0), .lit (.int .i64 0)], fs := [(0, 1), (1, 2)], eqs := some [.i, .i, .i] }
theorem lay50 : LayOk Try.prog 50 y50 := layStruct (zs := [.int .i64 0, .int .i64 0, .int .i64 0]) (by kernel_rfl) rfl (by kernel_rfl) (by kernel_rfl) (by decide) (fun ks h => by injection h with h; subst h; exact ⟨by kernel_rfl, by kernel_rfl⟩)
-- func(api.Rat) bool
abbrev y51 : Lay := { zero := [.lit .nilFunc] }
theorem lay51 : LayOk Try.prog 51 y51 := layFn (d := (Try.prog.underlying 51).getD .bool) (by kernel_rfl) (by kernel_rfl) (by kernel_rfl)
-- func([]api.Bar, []api.Tempo, uint8, api.Rat, api.Position) bool
abbrev y52 : Lay := { zero := [.lit .nilFunc] }
theorem lay52 : LayOk Try.prog 52 y52 := layFn (d := (Try.prog.underlying 52).getD .bool) (by kernel_rfl) (by kernel_rfl) (by kernel_rfl)
-- func([]api.Bar, api.Position) (api.Rat, api.Errno)
abbrev y53 : Lay := { zero := [.lit .nilFunc] }
theorem lay53 : LayOk Try.prog 53 y53 := layFn (d := (Try.prog.underlying 53).getD .bool) (by kernel_rfl) (by kernel_rfl) (by kernel_rfl)
-- func([]api.Bar, api.Tempo, api.Position, api.Position) bool
abbrev y54 : Lay := { zero := [.lit .nilFunc] }
theorem lay54 : LayOk Try.prog 54 y54 := layFn (d := (Try.prog.underlying 54).getD .bool) (by kernel_rfl) (by kernel_rfl) (by kernel_rfl)
-- uint16
abbrev y55 : Lay := { zero := [.lit (.int .u16 0)], kind := some .u16 }
theorem lay55 : LayOk Try.prog 55 y55 := layInt .u16 (by kernel_rfl) (by kernel_rfl)
-- func(api.Form) bool
abbrev y56 : Lay := { zero := [.lit .nilFunc] }
theorem lay56 : LayOk Try.prog 56 y56 := layFn (d := (Try.prog.underlying 56).getD .bool) (by kernel_rfl) (by kernel_rfl) (by kernel_rfl)
-- []api.Visit
abbrev y57 : Lay := { zero := [.sl (.tp (.ti .i64) (.ti .i64)) []], el := some 2, ety := some (.tp (.ti .i64) (.ti .i64), 61, 16) }
theorem lay57 : LayOk Try.prog 57 y57 := laySlice 61 (.tp (.ti .i64) (.ti .i64)) 16 (by kernel_rfl) (by kernel_rfl) (by kernel_rfl) (by decide) (by decide)
-- func(api.Form) ([]api.Visit, api.Errno)
abbrev y59 : Lay := { zero := [.lit .nilFunc] }
theorem lay59 : LayOk Try.prog 59 y59 := layFn (d := (Try.prog.underlying 59).getD .bool) (by kernel_rfl) (by kernel_rfl) (by kernel_rfl)
-- struct { Bar int; Pass int }
abbrev y60 : Lay := { size := 2, agg := true, zero := [.lit (.int .i64 0), .lit (.int .i64 0)], fs := [(0, 1), (1, 1)], eqs := some [.i, .i] }
theorem lay60 : LayOk Try.prog 60 y60 := layStruct (zs := [.int .i64 0, .int .i64 0]) (by kernel_rfl) rfl (by kernel_rfl) (by kernel_rfl) (by decide) (fun ks h => by injection h with h; subst h; exact ⟨by kernel_rfl, by kernel_rfl⟩)
-- api.Visit
abbrev y61 : Lay := { size := 2, agg := true, zero := [.lit (.int .i64 0), .lit (.int .i64 0)], fs := [(0, 1), (1, 1)], eqs := some [.i, .i] }
theorem lay61 : LayOk Try.prog 61 y61 := layStruct (zs := [.int .i64 0, .int .i64 0]) (by kernel_rfl) rfl (by kernel_rfl) (by kernel_rfl) (by decide) (fun ks h => by injection h with h; subst h; exact ⟨by kernel_rfl, by kernel_rfl⟩)
-- func([]api.Rat) (api.Rat, api.Errno)
abbrev y62 : Lay := { zero := [.lit .nilFunc] }
theorem lay62 : LayOk Try.prog 62 y62 := layFn (d := (Try.prog.underlying 62).getD .bool) (by kernel_rfl) (by kernel_rfl) (by kernel_rfl)
-- []api.Rat
abbrev y63 : Lay := { zero := [.sl (.tp (.ti .i64) (.ti .i64)) []], el := some 2, ety := some (.tp (.ti .i64) (.ti .i64), 25, 16) }
theorem lay63 : LayOk Try.prog 63 y63 := laySlice 25 (.tp (.ti .i64) (.ti .i64)) 16 (by kernel_rfl) (by kernel_rfl) (by kernel_rfl) (by decide) (by decide)
-- func([]api.Bar, []api.Tempo, api.Form, uint16) bool
abbrev y64 : Lay := { zero := [.lit .nilFunc] }
theorem lay64 : LayOk Try.prog 64 y64 := layFn (d := (Try.prog.underlying 64).getD .bool) (by kernel_rfl) (by kernel_rfl) (by kernel_rfl)
-- struct { ID int; Length api.Rat; Key int }
abbrev y65 : Lay := { size := 4, agg := true, zero := [.lit (.int .i64 0), .lit (.int .i64 0), .lit (.int .i64 0), .lit (.int .i64 0)], fs := [(0, 1), (1, 2), (3, 1)], eqs := some [.i, .i, .i, .i] }
theorem lay65 : LayOk Try.prog 65 y65 := layStruct (zs := [.int .i64 0, .int .i64 0, .int .i64 0, .int .i64 0]) (by kernel_rfl) rfl (by kernel_rfl) (by kernel_rfl) (by decide) (fun ks h => by injection h with h; subst h; exact ⟨by kernel_rfl, by kernel_rfl⟩)
-- api.Bar
abbrev y66 : Lay := { size := 4, agg := true, zero := [.lit (.int .i64 0), .lit (.int .i64 0), .lit (.int .i64 0), .lit (.int .i64 0)], fs := [(0, 1), (1, 2), (3, 1)], eqs := some [.i, .i, .i, .i] }
theorem lay66 : LayOk Try.prog 66 y66 := layStruct (zs := [.int .i64 0, .int .i64 0, .int .i64 0, .int .i64 0]) (by kernel_rfl) rfl (by kernel_rfl) (by kernel_rfl) (by decide) (fun ks h => by injection h with h; subst h; exact ⟨by kernel_rfl, by kernel_rfl⟩)
-- struct { From int; Until int; Times int }
abbrev y67 : Lay := { size := 3, agg := true, zero := [.lit (.int .i64 0), .lit (.int .i64 0), .lit (.int .i64 0)], fs := [(0, 1), (1, 1), (2, 1)], eqs := some [.i, .i, .i] }
theorem lay67 : LayOk Try.prog 67 y67 := layStruct (zs := [.int .i64 0, .int .i64 0, .int .i64 0]) (by kernel_rfl) rfl (by kernel_rfl) (by kernel_rfl) (by decide) (fun ks h => by injection h with h; subst h; exact ⟨by kernel_rfl, by kernel_rfl⟩)
-- api.Repeat
abbrev y68 : Lay := { size := 3, agg := true, zero := [.lit (.int .i64 0), .lit (.int .i64 0), .lit (.int .i64 0)], fs := [(0, 1), (1, 1), (2, 1)], eqs := some [.i, .i, .i] }
theorem lay68 : LayOk Try.prog 68 y68 := layStruct (zs := [.int .i64 0, .int .i64 0, .int .i64 0]) (by kernel_rfl) rfl (by kernel_rfl) (by kernel_rfl) (by decide) (fun ks h => by injection h with h; subst h; exact ⟨by kernel_rfl, by kernel_rfl⟩)
-- func([]api.Tempo, int) api.Rat
abbrev y69 : Lay := { zero := [.lit .nilFunc] }
theorem lay69 : LayOk Try.prog 69 y69 := layFn (d := (Try.prog.underlying 69).getD .bool) (by kernel_rfl) (by kernel_rfl) (by kernel_rfl)
-- func([]api.Bar) bool
abbrev y70 : Lay := { zero := [.lit .nilFunc] }
theorem lay70 : LayOk Try.prog 70 y70 := layFn (d := (Try.prog.underlying 70).getD .bool) (by kernel_rfl) (by kernel_rfl) (by kernel_rfl)
-- func(api.Rat) int
abbrev y71 : Lay := { zero := [.lit .nilFunc] }
theorem lay71 : LayOk Try.prog 71 y71 := layFn (d := (Try.prog.underlying 71).getD .bool) (by kernel_rfl) (by kernel_rfl) (by kernel_rfl)
-- func(api.Position, api.Position) bool
abbrev y72 : Lay := { zero := [.lit .nilFunc] }
theorem lay72 : LayOk Try.prog 72 y72 := layFn (d := (Try.prog.underlying 72).getD .bool) (by kernel_rfl) (by kernel_rfl) (by kernel_rfl)
-- *tempo.clock
abbrev y73 : Lay := { zero := [.lit (.pointer none)] }
theorem lay73 : LayOk Try.prog 73 y73 := layOne (d := (Try.prog.underlying 73).getD .bool) (z := .pointer none) (k := none) (by kernel_rfl) (by kernel_rfl) (by kernel_rfl) (fun _ _ => .lit rfl) (fun q h => by cases h)
-- struct { n int }
abbrev y74 : Lay := { size := 1, agg := true, zero := [.lit (.int .i64 0)], fs := [(0, 1)], eqs := some [.i] }
theorem lay74 : LayOk Try.prog 74 y74 := layStruct (zs := [.int .i64 0]) (by kernel_rfl) rfl (by kernel_rfl) (by kernel_rfl) (by decide) (fun ks h => by injection h with h; subst h; exact ⟨by kernel_rfl, by kernel_rfl⟩)
-- tempo.counter
abbrev y75 : Lay := { size := 1, agg := true, zero := [.lit (.int .i64 0)], fs := [(0, 1)], eqs := some [.i] }
theorem lay75 : LayOk Try.prog 75 y75 := layStruct (zs := [.int .i64 0]) (by kernel_rfl) rfl (by kernel_rfl) (by kernel_rfl) (by decide) (fun ks h => by injection h with h; subst h; exact ⟨by kernel_rfl, by kernel_rfl⟩)
-- struct { tempo.counter; tempos []api.Tempo }
abbrev y76 : Lay := { size := 2, agg := true, zero := [.lit (.int .i64 0), nilS], fs := [(0, 1), (1, 1)], eqs := none, cv := [(1, (.tp (.ti .i64) (.tp (.ti .i64) (.ti .i64)), (50, false)))], cz := [(1, .tp (.ti .i64) (.tp (.ti .i64) (.ti .i64)))] }
theorem lay76 : LayOk Try.prog 76 y76 := layStruct (zs := [.int .i64 0, .slice none 0 0]) (by kernel_rfl) rfl (by kernel_rfl) (by kernel_rfl) (by decide) (fun ks h => by cases h)
-- tempo.clock
abbrev y77 : Lay := { size := 2, agg := true, zero := [.lit (.int .i64 0), nilS], fs := [(0, 1), (1, 1)], eqs := none, cv := [(1, (.tp (.ti .i64) (.tp (.ti .i64) (.ti .i64)), (50, false)))], cz := [(1, .tp (.ti .i64) (.tp (.ti .i64) (.ti .i64)))] }
theorem lay77 : LayOk Try.prog 77 y77 := layStruct (zs := [.int .i64 0, .slice none 0 0]) (by kernel_rfl) rfl (by kernel_rfl) (by kernel_rfl) (by decide) (fun ks h => by cases h)
-- func(int, api.Rat, int)
abbrev y78 : Lay := { zero := [.lit .nilFunc] }
theorem lay78 : LayOk Try.prog 78 y78 := layFn (d := (Try.prog.underlying 78).getD .bool) (by kernel_rfl) (by kernel_rfl) (by kernel_rfl)
-- func() (api.Rat, api.Errno)
abbrev y79 : Lay := { zero := [.lit .nilFunc] }
theorem lay79 : LayOk Try.prog 79 y79 := layFn (d := (Try.prog.underlying 79).getD .bool) (by kernel_rfl) (by kernel_rfl) (by kernel_rfl)
-- func([]api.Tempo, int, int) int
abbrev y80 : Lay := { zero := [.lit .nilFunc] }
theorem lay80 : LayOk Try.prog 80 y80 := layFn (d := (Try.prog.underlying 80).getD .bool) (by kernel_rfl) (by kernel_rfl) (by kernel_rfl)
-- func(int, int) (api.Rat, api.Errno)
abbrev y81 : Lay := { zero := [.lit .nilFunc] }
theorem lay81 : LayOk Try.prog 81 y81 := layFn (d := (Try.prog.underlying 81).getD .bool) (by kernel_rfl) (by kernel_rfl) (by kernel_rfl)
-- func(api.Rat, api.Rat, func() ratio.fraction) (api.Rat, api.Errno)
abbrev y82 : Lay := { zero := [.lit .nilFunc] }
theorem lay82 : LayOk Try.prog 82 y82 := layFn (d := (Try.prog.underlying 82).getD .bool) (by kernel_rfl) (by kernel_rfl) (by kernel_rfl)
-- struct { n int; d int }
abbrev y83 : Lay := { size := 2, agg := true, zero := [.lit (.int .i64 0), .lit (.int .i64 0)], fs := [(0, 1), (1, 1)], eqs := some [.i, .i] }
theorem lay83 : LayOk Try.prog 83 y83 := layStruct (zs := [.int .i64 0, .int .i64 0]) (by kernel_rfl) rfl (by kernel_rfl) (by kernel_rfl) (by decide) (fun ks h => by injection h with h; subst h; exact ⟨by kernel_rfl, by kernel_rfl⟩)
-- ratio.fraction
abbrev y84 : Lay := { size := 2, agg := true, zero := [.lit (.int .i64 0), .lit (.int .i64 0)], fs := [(0, 1), (1, 1)], eqs := some [.i, .i] }
theorem lay84 : LayOk Try.prog 84 y84 := layStruct (zs := [.int .i64 0, .int .i64 0]) (by kernel_rfl) rfl (by kernel_rfl) (by kernel_rfl) (by decide) (fun ks h => by injection h with h; subst h; exact ⟨by kernel_rfl, by kernel_rfl⟩)
-- func() ratio.fraction
abbrev y85 : Lay := { zero := [.lit .nilFunc] }
theorem lay85 : LayOk Try.prog 85 y85 := layFn (d := (Try.prog.underlying 85).getD .bool) (by kernel_rfl) (by kernel_rfl) (by kernel_rfl)
-- func(int, int) int
abbrev y86 : Lay := { zero := [.lit .nilFunc] }
theorem lay86 : LayOk Try.prog 86 y86 := layFn (d := (Try.prog.underlying 86).getD .bool) (by kernel_rfl) (by kernel_rfl) (by kernel_rfl)
-- func(int) int
abbrev y87 : Lay := { zero := [.lit .nilFunc] }
theorem lay87 : LayOk Try.prog 87 y87 := layFn (d := (Try.prog.underlying 87).getD .bool) (by kernel_rfl) (by kernel_rfl) (by kernel_rfl)
-- func([]api.Bar, int) api.Rat
abbrev y88 : Lay := { zero := [.lit .nilFunc] }
theorem lay88 : LayOk Try.prog 88 y88 := layFn (d := (Try.prog.underlying 88).getD .bool) (by kernel_rfl) (by kernel_rfl) (by kernel_rfl)
-- func(func(api.Visit) bool)
abbrev y89 : Lay := { zero := [.lit .nilFunc] }
theorem lay89 : LayOk Try.prog 89 y89 := layFn (d := (Try.prog.underlying 89).getD .bool) (by kernel_rfl) (by kernel_rfl) (by kernel_rfl)
-- iter.Seq[partbook.api.Visit]
abbrev y90 : Lay := { zero := [.lit .nilFunc] }
theorem lay90 : LayOk Try.prog 90 y90 := layFn (d := (Try.prog.underlying 90).getD .bool) (by kernel_rfl) (by kernel_rfl) (by kernel_rfl)
-- struct { api.Form }
abbrev y91 : Lay := { size := 7, agg := true, zero := [.lit (.int .i64 0), nilS, nilS, .lit (.int .i64 0), .lit (.int .i64 0), .lit (.int .i64 0), nilS], fs := [(0, 7)], eqs := none, cv := [(1, (.tp (.ti .i64) (.tp (.ti .i64) (.ti .i64)), (68, false))), (2, (.tp (.ti .i64) (.tp (.ti .i64) (.ti .i64)), (127, false))), (6, (.tp (.ti .i64) (.tp (.ti .i64) (.ti .i64)), (95, false)))], cz := [(1, .tp (.ti .i64) (.tp (.ti .i64) (.ti .i64))), (2, .tp (.ti .i64) (.tp (.ti .i64) (.ti .i64))), (6, .tp (.ti .i64) (.tp (.ti .i64) (.ti .i64)))] }
theorem lay91 : LayOk Try.prog 91 y91 := layStruct (zs := [.int .i64 0, .slice none 0 0, .slice none 0 0, .int .i64 0, .int .i64 0, .int .i64 0, .slice none 0 0]) (by kernel_rfl) rfl (by kernel_rfl) (by kernel_rfl) (by decide) (fun ks h => by cases h)
-- reprise.order
abbrev y92 : Lay := { size := 7, agg := true, zero := [.lit (.int .i64 0), nilS, nilS, .lit (.int .i64 0), .lit (.int .i64 0), .lit (.int .i64 0), nilS], fs := [(0, 7)], eqs := none, cv := [(1, (.tp (.ti .i64) (.tp (.ti .i64) (.ti .i64)), (68, false))), (2, (.tp (.ti .i64) (.tp (.ti .i64) (.ti .i64)), (127, false))), (6, (.tp (.ti .i64) (.tp (.ti .i64) (.ti .i64)), (95, false)))], cz := [(1, .tp (.ti .i64) (.tp (.ti .i64) (.ti .i64))), (2, .tp (.ti .i64) (.tp (.ti .i64) (.ti .i64))), (6, .tp (.ti .i64) (.tp (.ti .i64) (.ti .i64)))] }
theorem lay92 : LayOk Try.prog 92 y92 := layStruct (zs := [.int .i64 0, .slice none 0 0, .slice none 0 0, .int .i64 0, .int .i64 0, .int .i64 0, .slice none 0 0]) (by kernel_rfl) rfl (by kernel_rfl) (by kernel_rfl) (by decide) (fun ks h => by cases h)
-- func() iter.Seq[partbook.api.Visit]
abbrev y93 : Lay := { zero := [.lit .nilFunc] }
theorem lay93 : LayOk Try.prog 93 y93 := layFn (d := (Try.prog.underlying 93).getD .bool) (by kernel_rfl) (by kernel_rfl) (by kernel_rfl)
-- struct { From int; Until int; Pass int }
abbrev y94 : Lay := { size := 3, agg := true, zero := [.lit (.int .i64 0), .lit (.int .i64 0), .lit (.int .i64 0)], fs := [(0, 1), (1, 1), (2, 1)], eqs := some [.i, .i, .i] }
theorem lay94 : LayOk Try.prog 94 y94 := layStruct (zs := [.int .i64 0, .int .i64 0, .int .i64 0]) (by kernel_rfl) rfl (by kernel_rfl) (by kernel_rfl) (by decide) (fun ks h => by injection h with h; subst h; exact ⟨by kernel_rfl, by kernel_rfl⟩)
-- api.Cut
abbrev y95 : Lay := { size := 3, agg := true, zero := [.lit (.int .i64 0), .lit (.int .i64 0), .lit (.int .i64 0)], fs := [(0, 1), (1, 1), (2, 1)], eqs := some [.i, .i, .i] }
theorem lay95 : LayOk Try.prog 95 y95 := layStruct (zs := [.int .i64 0, .int .i64 0, .int .i64 0]) (by kernel_rfl) rfl (by kernel_rfl) (by kernel_rfl) (by decide) (fun ks h => by injection h with h; subst h; exact ⟨by kernel_rfl, by kernel_rfl⟩)
-- func(api.Cut) bool
abbrev y96 : Lay := { zero := [.lit .nilFunc] }
theorem lay96 : LayOk Try.prog 96 y96 := layFn (d := (Try.prog.underlying 96).getD .bool) (by kernel_rfl) (by kernel_rfl) (by kernel_rfl)
-- func([]api.Cut, func(api.Cut) bool) bool
abbrev y97 : Lay := { zero := [.lit .nilFunc] }
theorem lay97 : LayOk Try.prog 97 y97 := layFn (d := (Try.prog.underlying 97).getD .bool) (by kernel_rfl) (by kernel_rfl) (by kernel_rfl)
-- func([]api.Rat, api.Rat, func(api.Rat, api.Rat) (api.Rat, api.Errno)) (api.Rat, api.Errno)
abbrev y98 : Lay := { zero := [.lit .nilFunc] }
theorem lay98 : LayOk Try.prog 98 y98 := layFn (d := (Try.prog.underlying 98).getD .bool) (by kernel_rfl) (by kernel_rfl) (by kernel_rfl)
-- func(int, func(int) bool) int
abbrev y99 : Lay := { zero := [.lit .nilFunc] }
theorem lay99 : LayOk Try.prog 99 y99 := layFn (d := (Try.prog.underlying 99).getD .bool) (by kernel_rfl) (by kernel_rfl) (by kernel_rfl)
-- func(int) bool
abbrev y100 : Lay := { zero := [.lit .nilFunc] }
theorem lay100 : LayOk Try.prog 100 y100 := layFn (d := (Try.prog.underlying 100).getD .bool) (by kernel_rfl) (by kernel_rfl) (by kernel_rfl)
-- map[int]bool
abbrev y101 : Lay := { zero := [.lit (.map none)], mpt := some (.ti .i64, .tb) }
theorem lay101 : LayOk Try.prog 101 y101 := layMap 3 4 (.ti .i64) (.tb) (.bool false) (by kernel_rfl) (by kernel_rfl) (by kernel_rfl) (by kernel_rfl) (by kernel_rfl) (by kernel_rfl) (by kernel_rfl) (fun h => by cases h) (fun _ => rfl)
-- func(api.Rat, api.Rat) bool
abbrev y102 : Lay := { zero := [.lit .nilFunc] }
theorem lay102 : LayOk Try.prog 102 y102 := layFn (d := (Try.prog.underlying 102).getD .bool) (by kernel_rfl) (by kernel_rfl) (by kernel_rfl)
-- func(api.Rat, api.Rat) (int, api.Errno)
abbrev y104 : Lay := { zero := [.lit .nilFunc] }
theorem lay104 : LayOk Try.prog 104 y104 := layFn (d := (Try.prog.underlying 104).getD .bool) (by kernel_rfl) (by kernel_rfl) (by kernel_rfl)
-- func(int, api.Rat)
abbrev y105 : Lay := { zero := [.lit .nilFunc] }
theorem lay105 : LayOk Try.prog 105 y105 := layFn (d := (Try.prog.underlying 105).getD .bool) (by kernel_rfl) (by kernel_rfl) (by kernel_rfl)
-- func(api.Form) []api.Visit
abbrev y106 : Lay := { zero := [.lit .nilFunc] }
theorem lay106 : LayOk Try.prog 106 y106 := layFn (d := (Try.prog.underlying 106).getD .bool) (by kernel_rfl) (by kernel_rfl) (by kernel_rfl)
-- func(api.Cut, api.Visit) bool
abbrev y107 : Lay := { zero := [.lit .nilFunc] }
theorem lay107 : LayOk Try.prog 107 y107 := layFn (d := (Try.prog.underlying 107).getD .bool) (by kernel_rfl) (by kernel_rfl) (by kernel_rfl)
-- func() api.Rat
abbrev y108 : Lay := { zero := [.lit .nilFunc] }
theorem lay108 : LayOk Try.prog 108 y108 := layFn (d := (Try.prog.underlying 108).getD .bool) (by kernel_rfl) (by kernel_rfl) (by kernel_rfl)
-- func(func(int, api.Rat) bool)
abbrev y109 : Lay := { zero := [.lit .nilFunc] }
theorem lay109 : LayOk Try.prog 109 y109 := layFn (d := (Try.prog.underlying 109).getD .bool) (by kernel_rfl) (by kernel_rfl) (by kernel_rfl)
-- iter.Seq2[int,partbook.api.Rat]
abbrev y110 : Lay := { zero := [.lit .nilFunc] }
theorem lay110 : LayOk Try.prog 110 y110 := layFn (d := (Try.prog.underlying 110).getD .bool) (by kernel_rfl) (by kernel_rfl) (by kernel_rfl)
-- func([]api.Bar) iter.Seq2[int,partbook.api.Rat]
abbrev y111 : Lay := { zero := [.lit .nilFunc] }
theorem lay111 : LayOk Try.prog 111 y111 := layFn (d := (Try.prog.underlying 111).getD .bool) (by kernel_rfl) (by kernel_rfl) (by kernel_rfl)
-- func(api.Visit) bool
abbrev y112 : Lay := { zero := [.lit .nilFunc] }
theorem lay112 : LayOk Try.prog 112 y112 := layFn (d := (Try.prog.underlying 112).getD .bool) (by kernel_rfl) (by kernel_rfl) (by kernel_rfl)
-- map[int]int
abbrev y113 : Lay := { zero := [.lit (.map none)], mpt := some (.ti .i64, .ti .i64) }
theorem lay113 : LayOk Try.prog 113 y113 := layMap 3 3 (.ti .i64) (.ti .i64) (.int .i64 0) (by kernel_rfl) (by kernel_rfl) (by kernel_rfl) (by kernel_rfl) (by kernel_rfl) (by kernel_rfl) (by kernel_rfl) (fun h => by cases h) (fun _ => rfl)
-- func(func(int) bool)
abbrev y114 : Lay := { zero := [.lit .nilFunc] }
theorem lay114 : LayOk Try.prog 114 y114 := layFn (d := (Try.prog.underlying 114).getD .bool) (by kernel_rfl) (by kernel_rfl) (by kernel_rfl)
-- iter.Seq[int]
abbrev y115 : Lay := { zero := [.lit .nilFunc] }
theorem lay115 : LayOk Try.prog 115 y115 := layFn (d := (Try.prog.underlying 115).getD .bool) (by kernel_rfl) (by kernel_rfl) (by kernel_rfl)
-- func(int, int, bool) iter.Seq[int]
abbrev y116 : Lay := { zero := [.lit .nilFunc] }
theorem lay116 : LayOk Try.prog 116 y116 := layFn (d := (Try.prog.underlying 116).getD .bool) (by kernel_rfl) (by kernel_rfl) (by kernel_rfl)
-- func([]api.Cut, func(api.Cut) bool) int
abbrev y117 : Lay := { zero := [.lit .nilFunc] }
theorem lay117 : LayOk Try.prog 117 y117 := layFn (d := (Try.prog.underlying 117).getD .bool) (by kernel_rfl) (by kernel_rfl) (by kernel_rfl)
-- func(ratio.fraction) ratio.fraction
abbrev y118 : Lay := { zero := [.lit .nilFunc] }
theorem lay118 : LayOk Try.prog 118 y118 := layFn (d := (Try.prog.underlying 118).getD .bool) (by kernel_rfl) (by kernel_rfl) (by kernel_rfl)
-- uint
abbrev y119 : Lay := { zero := [.lit (.int .u64 0)], kind := some .u64 }
theorem lay119 : LayOk Try.prog 119 y119 := layInt .u64 (by kernel_rfl) (by kernel_rfl)
-- *tempo.counter
abbrev y120 : Lay := { zero := [.lit (.pointer none)] }
theorem lay120 : LayOk Try.prog 120 y120 := layOne (d := (Try.prog.underlying 120).getD .bool) (z := .pointer none) (k := none) (by kernel_rfl) (by kernel_rfl) (by kernel_rfl) (fun _ _ => .lit rfl) (fun q h => by cases h)
-- func([]api.Repeat, int) bool
abbrev y121 : Lay := { zero := [.lit .nilFunc] }
theorem lay121 : LayOk Try.prog 121 y121 := layFn (d := (Try.prog.underlying 121).getD .bool) (by kernel_rfl) (by kernel_rfl) (by kernel_rfl)
-- func(api.Form, api.Cut) bool
abbrev y122 : Lay := { zero := [.lit .nilFunc] }
theorem lay122 : LayOk Try.prog 122 y122 := layFn (d := (Try.prog.underlying 122).getD .bool) (by kernel_rfl) (by kernel_rfl) (by kernel_rfl)
-- func([]api.Cut, api.Cut) int
abbrev y123 : Lay := { zero := [.lit .nilFunc] }
theorem lay123 : LayOk Try.prog 123 y123 := layFn (d := (Try.prog.underlying 123).getD .bool) (by kernel_rfl) (by kernel_rfl) (by kernel_rfl)
-- []int
abbrev y124 : Lay := { zero := [.sl (.ti .i64) []], el := some 1, ety := some (.ti .i64, 3, 8) }
theorem lay124 : LayOk Try.prog 124 y124 := laySlice 3 (.ti .i64) 8 (by kernel_rfl) (by kernel_rfl) (by kernel_rfl) (by decide) (by decide)
-- func(api.Form) []int
abbrev y125 : Lay := { zero := [.lit .nilFunc] }
theorem lay125 : LayOk Try.prog 125 y125 := layFn (d := (Try.prog.underlying 125).getD .bool) (by kernel_rfl) (by kernel_rfl) (by kernel_rfl)
-- func(int, api.Rat) bool
abbrev y126 : Lay := { zero := [.lit .nilFunc] }
theorem lay126 : LayOk Try.prog 126 y126 := layFn (d := (Try.prog.underlying 126).getD .bool) (by kernel_rfl) (by kernel_rfl) (by kernel_rfl)
-- api.Ending
abbrev y127 : Lay := { size := 3, agg := true, zero := [.lit (.int .i64 0), .lit (.int .i64 0), .lit (.int .i64 0)], fs := [(0, 1), (1, 1), (2, 1)], eqs := some [.i, .i, .i] }
theorem lay127 : LayOk Try.prog 127 y127 := layStruct (zs := [.int .i64 0, .int .i64 0, .int .i64 0]) (by kernel_rfl) rfl (by kernel_rfl) (by kernel_rfl) (by decide) (fun ks h => by injection h with h; subst h; exact ⟨by kernel_rfl, by kernel_rfl⟩)
-- func([]api.Repeat, func(api.Repeat) bool) bool
abbrev y128 : Lay := { zero := [.lit .nilFunc] }
theorem lay128 : LayOk Try.prog 128 y128 := layFn (d := (Try.prog.underlying 128).getD .bool) (by kernel_rfl) (by kernel_rfl) (by kernel_rfl)
-- func(api.Repeat) bool
abbrev y129 : Lay := { zero := [.lit .nilFunc] }
theorem lay129 : LayOk Try.prog 129 y129 := layFn (d := (Try.prog.underlying 129).getD .bool) (by kernel_rfl) (by kernel_rfl) (by kernel_rfl)
-- map[api.Cut]bool
abbrev y130 : Lay := { zero := [.lit (.map none)], mpt := some (.tp (.ti .i64) (.tp (.ti .i64) (.ti .i64)), .tb) }
theorem lay130 : LayOk Try.prog 130 y130 := layMap 95 4 (.tp (.ti .i64) (.tp (.ti .i64) (.ti .i64))) (.tb) (.bool false) (by kernel_rfl) (by kernel_rfl) (by kernel_rfl) (by kernel_rfl) (by kernel_rfl) (by kernel_rfl) (by kernel_rfl) (fun h => by cases h) (fun _ => rfl)
-- func([]api.Repeat, func(api.Repeat) bool) int
abbrev y131 : Lay := { zero := [.lit .nilFunc] }
theorem lay131 : LayOk Try.prog 131 y131 := layFn (d := (Try.prog.underlying 131).getD .bool) (by kernel_rfl) (by kernel_rfl) (by kernel_rfl)
-- func(int, int) bool
abbrev y132 : Lay := { zero := [.lit .nilFunc] }
theorem lay132 : LayOk Try.prog 132 y132 := layFn (d := (Try.prog.underlying 132).getD .bool) (by kernel_rfl) (by kernel_rfl) (by kernel_rfl)
-- func([]api.Repeat, int, int) bool
abbrev y133 : Lay := { zero := [.lit .nilFunc] }
theorem lay133 : LayOk Try.prog 133 y133 := layFn (d := (Try.prog.underlying 133).getD .bool) (by kernel_rfl) (by kernel_rfl) (by kernel_rfl)
-- func(api.Form, int, int, bool) []int
abbrev y134 : Lay := { zero := [.lit .nilFunc] }
theorem lay134 : LayOk Try.prog 134 y134 := layFn (d := (Try.prog.underlying 134).getD .bool) (by kernel_rfl) (by kernel_rfl) (by kernel_rfl)
-- func([]api.Ending, func(api.Ending) bool) bool
abbrev y135 : Lay := { zero := [.lit .nilFunc] }
theorem lay135 : LayOk Try.prog 135 y135 := layFn (d := (Try.prog.underlying 135).getD .bool) (by kernel_rfl) (by kernel_rfl) (by kernel_rfl)
-- func(api.Ending) bool
abbrev y136 : Lay := { zero := [.lit .nilFunc] }
theorem lay136 : LayOk Try.prog 136 y136 := layFn (d := (Try.prog.underlying 136).getD .bool) (by kernel_rfl) (by kernel_rfl) (by kernel_rfl)
-- func(api.Form, int) int
abbrev y137 : Lay := { zero := [.lit .nilFunc] }
theorem lay137 : LayOk Try.prog 137 y137 := layFn (d := (Try.prog.underlying 137).getD .bool) (by kernel_rfl) (by kernel_rfl) (by kernel_rfl)
-- func(api.Form, int, int) bool
abbrev y138 : Lay := { zero := [.lit .nilFunc] }
theorem lay138 : LayOk Try.prog 138 y138 := layFn (d := (Try.prog.underlying 138).getD .bool) (by kernel_rfl) (by kernel_rfl) (by kernel_rfl)
-- func([]api.Ending, func(api.Ending) bool) int
abbrev y139 : Lay := { zero := [.lit .nilFunc] }
theorem lay139 : LayOk Try.prog 139 y139 := layFn (d := (Try.prog.underlying 139).getD .bool) (by kernel_rfl) (by kernel_rfl) (by kernel_rfl)
-- func() string
abbrev y140 : Lay := { zero := [.lit .nilFunc] }
theorem lay140 : LayOk Try.prog 140 y140 := layFn (d := (Try.prog.underlying 140).getD .bool) (by kernel_rfl) (by kernel_rfl) (by kernel_rfl)
-- func() int
abbrev y146 : Lay := { zero := [.lit .nilFunc] }
theorem lay146 : LayOk Try.prog 146 y146 := layFn (d := (Try.prog.underlying 146).getD .bool) (by kernel_rfl) (by kernel_rfl) (by kernel_rfl)
-- uint32
abbrev y147 : Lay := { zero := [.lit (.int .u32 0)], kind := some .u32 }
theorem lay147 : LayOk Try.prog 147 y147 := layInt .u32 (by kernel_rfl) (by kernel_rfl)
-- func(unsafe.Pointer, unsafe.Pointer) bool
abbrev y150 : Lay := { zero := [.lit .nilFunc] }
theorem lay150 : LayOk Try.prog 150 y150 := layFn (d := (Try.prog.underlying 150).getD .bool) (by kernel_rfl) (by kernel_rfl) (by kernel_rfl)
-- *uint8
abbrev y151 : Lay := { zero := [.lit (.pointer none)] }
theorem lay151 : LayOk Try.prog 151 y151 := layOne (d := (Try.prog.underlying 151).getD .bool) (z := .pointer none) (k := none) (by kernel_rfl) (by kernel_rfl) (by kernel_rfl) (fun _ _ => .lit rfl) (fun q h => by cases h)
def L0 : Nat → Option Lay := Sy.look [(1, y1), (2, y2), (3, y3), (4, y4), (5, y5), (9, y9), (12, y12), (21, y21), (22, y22), (23, y23), (24, y24), (25, y25), (26, y26), (27, y27), (28, y28), (29, y29), (30, y30), (31, y31), (32, y32), (33, y33), (34, y34), (35, y35), (36, y36), (37, y37), (39, y39), (40, y40), (41, y41), (42, y42), (43, y43), (44, y44), (45, y45), (46, y46), (47, y47), (48, y48), (49, y49), (50, y50), (51, y51), (52, y52), (53, y53), (54, y54), (55, y55), (56, y56), (57, y57), (59, y59), (60, y60), (61, y61), (62, y62), (63, y63), (64, y64), (65, y65), (66, y66), (67, y67), (68, y68), (69, y69), (70, y70), (71, y71), (72, y72), (73, y73), (74, y74), (75, y75), (76, y76), (77, y77), (78, y78), (79, y79), (80, y80), (81, y81), (82, y82), (83, y83), (84, y84), (85, y85), (86, y86), (87, y87), (88, y88), (89, y89), (90, y90), (91, y91), (92, y92), (93, y93), (94, y94), (95, y95), (96, y96), (97, y97), (98, y98), (99, y99), (100, y100), (101, y101), (102, y102), (104, y104), (105, y105), (106, y106), (107, y107), (108, y108), (109, y109), (110, y110), (111, y111), (112, y112), (113, y113), (114, y114), (115, y115), (116, y116), (117, y117), (118, y118), (119, y119), (120, y120), (121, y121), (122, y122), (123, y123), (124, y124), (125, y125), (126, y126), (127, y127), (128, y128), (129, y129), (130, y130), (131, y131), (132, y132), (133, y133), (134, y134), (135, y135), (136, y136), (137, y137), (138, y138), (139, y139), (140, y140), (146, y146), (147, y147), (150, y150), (151, y151)]
theorem L0_ok : LOk Try.prog L0 := by
  refine look_ok fun q hq => ?_
  simp only [List.mem_cons, List.not_mem_nil, or_false] at hq
  rcases hq with rfl | rfl | rfl | rfl | rfl | rfl | rfl | rfl | rfl | rfl | rfl | rfl | rfl | rfl | rfl | rfl | rfl | rfl | rfl | rfl | rfl | rfl | rfl | rfl | rfl | rfl | rfl | rfl | rfl | rfl | rfl | rfl | rfl | rfl | rfl | rfl | rfl | rfl | rfl | rfl | rfl | rfl | rfl | rfl | rfl | rfl | rfl | rfl | rfl | rfl | rfl | rfl | rfl | rfl | rfl | rfl | rfl | rfl | rfl | rfl | rfl | rfl | rfl | rfl | rfl | rfl | rfl | rfl | rfl | rfl | rfl | rfl | rfl | rfl | rfl | rfl | rfl | rfl | rfl | rfl | rfl | rfl | rfl | rfl | rfl | rfl | rfl | rfl | rfl | rfl | rfl | rfl | rfl | rfl | rfl | rfl | rfl | rfl | rfl | rfl | rfl | rfl | rfl | rfl | rfl | rfl | rfl | rfl | rfl | rfl | rfl | rfl | rfl | rfl | rfl | rfl | rfl | rfl | rfl | rfl | rfl | rfl | rfl | rfl | rfl | rfl | rfl | rfl
  · exact lay1
  · exact lay2
  · exact lay3
  · exact lay4
  · exact lay5
  · exact lay9
  · exact lay12
  · exact lay21
  · exact lay22
  · exact lay23
  · exact lay24
  · exact lay25
  · exact lay26
  · exact lay27
  · exact lay28
  · exact lay29
  · exact lay30
  · exact lay31
  · exact lay32
  · exact lay33
  · exact lay34
  · exact lay35
  · exact lay36
  · exact lay37
  · exact lay39
  · exact lay40
  · exact lay41
  · exact lay42
  · exact lay43
  · exact lay44
  · exact lay45
  · exact lay46
  · exact lay47
  · exact lay48
  · exact lay49
  · exact lay50
  · exact lay51
  · exact lay52
  · exact lay53
  · exact lay54
  · exact lay55
  · exact lay56
  · exact lay57
  · exact lay59
  · exact lay60
  · exact lay61
  · exact lay62
  · exact lay63
  · exact lay64
  · exact lay65
  · exact lay66
  · exact lay67
  · exact lay68
  · exact lay69
  · exact lay70
  · exact lay71
  · exact lay72
  · exact lay73
  · exact lay74
  · exact lay75
  · exact lay76
  · exact lay77
  · exact lay78
  · exact lay79
  · exact lay80
  · exact lay81
  · exact lay82
  · exact lay83
  · exact lay84
  · exact lay85
  · exact lay86
  · exact lay87
  · exact lay88
  · exact lay89
  · exact lay90
  · exact lay91
  · exact lay92
  · exact lay93
  · exact lay94
  · exact lay95
  · exact lay96
  · exact lay97
  · exact lay98
  · exact lay99
  · exact lay100
  · exact lay101
  · exact lay102
  · exact lay104
  · exact lay105
  · exact lay106
  · exact lay107
  · exact lay108
  · exact lay109
  · exact lay110
  · exact lay111
  · exact lay112
  · exact lay113
  · exact lay114
  · exact lay115
  · exact lay116
  · exact lay117
  · exact lay118
  · exact lay119
  · exact lay120
  · exact lay121
  · exact lay122
  · exact lay123
  · exact lay124
  · exact lay125
  · exact lay126
  · exact lay127
  · exact lay128
  · exact lay129
  · exact lay130
  · exact lay131
  · exact lay132
  · exact lay133
  · exact lay134
  · exact lay135
  · exact lay136
  · exact lay137
  · exact lay138
  · exact lay139
  · exact lay140
  · exact lay146
  · exact lay147
  · exact lay150
  · exact lay151
def LV (os vs : List Nat) (wr : Bool) : Nat → Option Lay := LVar L0 os vs wr
theorem LV_ok (os vs : List Nat) (wr : Bool) : LOk Try.prog (LV os vs wr) := LVar_ok L0_ok os vs wr
def L : Nat → Option Lay := LV [] [] false
theorem L_ok : LOk Try.prog L := LV_ok [] [] false
theorem mixed : Try.prog.follows .mixedOrders = true := by kernel_rfl
end Go.Proofs.Ytjghgdccaakfmaa
